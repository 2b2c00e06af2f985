/- The law TopCorrected: where a correction says that there are too many, and all ways together. -/
import Derived.Test.YtcnenkhgbifmmaaDoorTpF
import Derived.Test.YtcnenkhgbifmmaaDoorTpR
set_option linter.unusedVariables false
namespace Go.Proofs.YtcnenkhgbifmmaaDoor
open Go.RowKit Go.ChangeMaps Go.MapKept
set_option maxHeartbeats 2000000 in
set_option maxRecDepth 100000 in
theorem corrected_mid (A1 A2 A3 : Option Addr) (n1 c1 n2 c2 n3 c3 : Nat) (la lb lc : Lpm.LL) (r : Rec) (t : Int) (w : World) (ht : Tab w) (h1 : Lp w.heap.size w A1 n1 la) (h2 : Lp w.heap.size w A2 n2 lb) (h3 : Lp w.heap.size w A3 n3 lc) (g0 : n1 ≤ 20) (g1 : n2 ≤ 20) (g2 : n3 ≤ 20) (v1 : Hid (Lpm.valid la = true)) (v2 : Hid (Lpm.valid lb = true)) (v3 : Hid (Lpm.valid lc = true)) (vr : Hid (Rc.validB r = true)) (fw : Hid (decide (r.unt - r.frm ≤ 1200) = true)) (q1 : ¬ t < 0) (q2 : ¬ 3000000000000000 < t) (hr : Fit21 r) (NA NC : Nat) (NAq : Hid ((Rc.fiV la r).length = NA)) (NCq : Hid ((Rc.fiV lc r).length = NC)) (E1 : Hid (Rc.fiE la r = 0)) (E3 : Hid (Rc.fiE lc r = 0)) (EC0 : Hid (Rc.coE la lb r t = 2)) :
    Calls Tryd.prog 3 #[.slice A1 n1 c1, .slice A2 n2 c2, .slice A3 n3 c3, (.agg #[.int .i64 r.kind, .int .i64 r.every, .int .i64 r.wd, .int .i64 r.nth, .int .i64 r.frm, .int .i64 r.unt, .int .i64 r.sec, .bool r.shift, .bool r.both]), .int .i64 t] w (LawPost w) := by
  have HT : Hid (∀ W, Below w.heap.size w W → Tab W) := Lib.hid fun W hW => ht.below hW
  have H1 : Hid (∀ W, Below w.heap.size w W → Lp W.heap.size W A1 n1 la) := Lib.hid fun W hW => h1.go hW
  have H2 : Hid (∀ W, Below w.heap.size w W → Lp W.heap.size W A2 n2 lb) := Lib.hid fun W hW => h2.go hW
  have H3 : Hid (∀ W, Below w.heap.size w W → Lp W.heap.size W A3 n3 lc) := Lib.hid fun W hW => h3.go hW
  have hb := Below.goN (Below.refl w.heap.size w) (.cells #[.int .i64 r.kind, .int .i64 r.every, .int .i64 r.wd, .int .i64 r.nth, .int .i64 r.frm, .int .i64 r.unt, .int .i64 r.sec, .bool r.shift, .bool r.both] 24)
  have kx := Lib.hid (heap_new w (.cells #[.int .i64 r.kind, .int .i64 r.every, .int .i64 r.wd, .int .i64 r.nth, .int .i64 r.frm, .int .i64 r.unt, .int .i64 r.sec, .bool r.shift, .bool r.both] 24))
  clear ht h1 h2 h3
  have u0 : ¬ (20 : Int) < (n1 : Int) := by omega
  have u1 : ¬ (20 : Int) < (n2 : Int) := by omega
  have u2 : ¬ (20 : Int) < (n3 : Int) := by omega
  go_enter Tryd.func3, Tryd.ntmps3
  go_wp2_with fail
  refine (head14 _ (HT.out _ hb)).mono ?_
  rintro e w1 ⟨rfl, hn⟩
  have hb := Below.go hb hn
  have kx := Lib.hid (keep' kx.out hn)
  clear hn
  go_wp2_with fail
  refine (refValid_c (c := c1) (H1.out _ hb) (Nat.le_refl _) (by omega) (Below.refl _ _)).mono ?_
  rintro e w2 ⟨rfl, hn⟩
  have hb := Below.go hb hn
  have kx := Lib.hid (keep' kx.out hn)
  clear hn
  rw [v1.out]
  go_wp2_with fail
  refine (refValid_c (c := c2) (H2.out _ hb) (Nat.le_refl _) (by omega) (Below.refl _ _)).mono ?_
  rintro e w3 ⟨rfl, hn⟩
  have hb := Below.go hb hn
  have kx := Lib.hid (keep' kx.out hn)
  clear hn
  rw [v2.out]
  go_wp2_with fail
  refine (refValid_c (c := c3) (H3.out _ hb) (Nat.le_refl _) (by omega) (Below.refl _ _)).mono ?_
  rintro e w4 ⟨rfl, hn⟩
  have hb := Below.go hb hn
  have kx := Lib.hid (keep' kx.out hn)
  clear hn
  rw [v3.out]
  obtain ⟨kx_0, kx_1, kx_2, kx_3, kx_4, kx_5, kx_6, kx_7, kx_8⟩ := blk9 kx.out
  go_wp2_with fail
  refine (refValid21_any r _).mono ?_
  rintro e w5 ⟨rfl, hn⟩
  have hb := Below.go hb hn
  have kx := Lib.hid (keep' kx.out hn)
  clear hn
  rw [vr.out]
  obtain ⟨kx_0, kx_1, kx_2, kx_3, kx_4, kx_5, kx_6, kx_7, kx_8⟩ := blk9 kx.out
  go_wp2_with fail
  refine (refFew21_any r _ (by have := (of_decide_eq_true vr.out : Rc.Val r).2.1; omega) (by have := (of_decide_eq_true vr.out : Rc.Val r).2.1; omega) (by have := (of_decide_eq_true vr.out : Rc.Val r).2.1; omega) (by have := (of_decide_eq_true vr.out : Rc.Val r).2.1; omega)).mono ?_
  rintro e w6 ⟨rfl, hn⟩
  have hb := Below.go hb hn
  have kx := Lib.hid (keep' kx.out hn)
  clear hn
  rw [fw.out]
  obtain ⟨kx_0, kx_1, kx_2, kx_3, kx_4, kx_5, kx_6, kx_7, kx_8⟩ := blk9 kx.out
  go_wp2_with fail
  refine (fi_n (e := 0) (n := NA) (Fires_any A1 n1 c1 la r _ (HT.out _ hb) (H1.out _ hb) (by omega) hr) E1.out NAq.out).mono ?_
  rintro e w7 ⟨A4, c4, rfl, hL, hn⟩
  have hb := Below.go hb hn
  have kx := Lib.hid (keep' kx.out hn)
  clear hn
  have L4 := Lib.hid hL; clear hL
  obtain ⟨kx_0, kx_1, kx_2, kx_3, kx_4, kx_5, kx_6, kx_7, kx_8⟩ := blk9 kx.out
  go_wp2_with fail
  refine (fi_n (e := 0) (n := NC) (Fires_any A3 n3 c3 lc r _ (HT.out _ hb) (H3.out _ hb) (by omega) hr) E3.out NCq.out).mono ?_
  rintro e w8 ⟨A5, c5, rfl, hL, hn⟩
  have hb := Below.go hb hn
  have kx := Lib.hid (keep' kx.out hn)
  have L4 := Lib.hid (Lp.go L4.out hn)
  clear hn
  have L5 := Lib.hid hL; clear hL
  have hNA : NA ≤ 1000 := by have := Rc.fiV_len la r; rw [NAq.out] at this; exact this
  have hNC : NC ≤ 1000 := by have := Rc.fiV_len lc r; rw [NCq.out] at this; exact this
  obtain ⟨B0, rfl⟩ : ∃ B0, B0 = w8 := ⟨_, rfl⟩
  have hmade := World.ownsMap_made B0 Tryd.prog tF (plainElem (H := Unit) Tryd.prog 4)
  have hmm := @run_makeMap Tryd.prog
  go_wp2
  clear hmm
  go_loopw [101] (fun i wr => ∃ (k m : Nat) (D : DataW Unit), k ≤ NA ∧ i = .int .i64 k ∧ m ≤ k ∧ Hid (wr.ownsMap Tryd.prog tF (plainElem Tryd.prog 4) B0.heap.size m D) ∧ Hid (SetOk (fun y => (Rc.aft ((Rc.fiV la r).take k) t).contains y) D) ∧ Below B0.heap.size B0 wr) (fun i _ => NA - (intOf i).toNat)
  case atStart => exact ⟨0, 0, _, Nat.zero_le _, rfl, Nat.zero_le _, Lib.hid hmade, Lib.hid (set_nil fun x => by simp [Rc.aft]), Below.goN (Below.refl _ _) _⟩
  case round =>
    obtain ⟨k, m, D, hk, rfl, hm, hown, hset, hbr⟩ := hrel
    by_cases hlt : k < NA
    · obtain ⟨b, off, rfl, hB, hc⟩ := (L4.out).2 (by omega)
      obtain ⟨c0, c1'⟩ := hc k hlt
      have c0 := (hbr.cell (p := ⟨b, off + k * 2, none⟩) hB).trans c0
      have c1' := (hbr.cell (p := ⟨b, off + k * 2 + 1, none⟩) hB).trans c1'
      have hwx := wf_at wf_fires k (lt_len NAq.out hlt)
      obtain ⟨d, s, hx⟩ : ∃ d s, (Rc.fiV la r)[k]?.getD (0, 0) = (d, s) := ⟨_, _, rfl⟩
      rw [hx] at c0 c1' hwx
      have kz := Lib.hid (heap_new wr (.cells #[.int .i64 d, .int .i64 s] tF))
      obtain ⟨⟨z0, z1⟩, -⟩ := blk2 kz.out
      have i0 : (0 : Int) ≤ (k : Int) := by omega
      have i1 : (k : Int) < (NA : Int) := by omega
      have hbx := Below.goN hbr (.cells #[.int .i64 d, .int .i64 s] tF)
      by_cases hd : t < s
      · have hd' : decide (t < s) = true := decide_eq_true hd
        have hV : Rc.aft ((Rc.fiV la r).take (k + 1)) t = Rc.aft ((Rc.fiV la r).take k) t ++ [(d, s)] := Rc.aft_yes NAq.out hlt hx hd
        have HNew : Hid (SetOk (fun y => (Rc.aft ((Rc.fiV la r).take (k + 1)) t).contains y) (D.put (kF (d, s)) (.lit (.bool true)))) := Lib.hid (set_put hset.out (d, s) hwx (by rw [hV, cont_snoc]; simp) (fun y hy => by rw [hV, cont_snoc, beq_eq_false_iff_ne.2 (Ne.symm hy), Bool.or_false]))
        have Hwx := Lib.hid hwx
        have hlm := hown.out.lt
        clear hV hwx hset hc
        go_wp2_with (first | (at_mapUpdate; refine wpList_mapUpdate_own _ rfl _ _ _ tFB rfl tF 4 keyedF Tryd.underlying32 _ B0.heap.size _ D rfl (hown.out.alloc _) (by unfold maxLen; omega) (FV (d, s)) (.bool true) (kF (d, s)) rfl rfl (kF_some Hwx.out) (.lit (.bool true)) [] (plainElem_bool Tryd.underlying4 true) ?_; intro w9 hown9 hgrow9) | fail)
        have hb9 := Below.grown hbx hgrow9 (by have := hbx.size; omega) (fun g e => by cases e; exact Nat.le_refl _)
        have HO9 := Lib.hid hown9
        clear hown9 hgrow9
        go_wp2
        go_roundw
        case rel => exact ⟨k + 1, m + 1, _, by omega, by go_num, by omega, HO9, HNew, hb9⟩
        case measure => simp [intOf]; omega
      · have hd' : decide (t < s) = false := decide_eq_false hd
        have hV : Rc.aft ((Rc.fiV la r).take (k + 1)) t = Rc.aft ((Rc.fiV la r).take k) t := Rc.aft_no NAq.out hlt hx hd
        have HNew : Hid (SetOk (fun y => (Rc.aft ((Rc.fiV la r).take (k + 1)) t).contains y) D) := by rw [hV]; exact hset
        clear hV hwx hset hc
        go_wp2
        go_roundw
        case rel => exact ⟨k + 1, m, D, by omega, by go_num, by omega, Lib.hid (hown.out.alloc _), HNew, hbx⟩
        case measure => simp [intOf]; omega
    · obtain rfl : NA = k := by omega
      rw [List.take_of_length_le (Nat.le_of_eq NAq.out)] at hset
      obtain ⟨wE, rfl⟩ : ∃ wE, wE = wr := ⟨_, rfl⟩
      have hSE : wE.heap.size ≠ B0.heap.size := by have := hown.out.lt; omega
      have kS := Lib.hid (heap_new wE (.cells #[.slice A1 n1 c1, .slice A2 n2 c2, .slice A2 n2 c2, .slice A3 n3 c3] 35))
      have hownS := Lib.hid (hown.out.alloc (.cells #[.slice A1 n1 c1, .slice A2 n2 c2, .slice A2 n2 c2, .slice A3 n3 c3] 35))
      have hbS := Below.goN hbr (.cells #[.slice A1 n1 c1, .slice A2 n2 c2, .slice A2 n2 c2, .slice A3 n3 c3] 35)
      clear hown hbr
      go_wp2
      go_loopw [11, 120] (fun u i wq => i = .int .i64 0 ∧ u = .bool true ∧ Below B0.heap.size B0 wq ∧ Hid (KeepBut B0.heap.size (wE.alloc (.cells #[.slice A1 n1 c1, .slice A2 n2 c2, .slice A2 n2 c2, .slice A3 n3 c3] 35)) wq)) (fun _ _ _ => 0)
      case atStart => exact ⟨rfl, rfl, hbS, Lib.hid (KeepBut.refl _ _)⟩
      case round =>
        clear hownS hset hbS hm hk
        obtain ⟨rfl, rfl, hbr, hkb⟩ := hrel
        have kxr := Lib.hid (keepN (keep' kx.out hbr) (.cells #[.slice A1 n1 c1, .slice A2 n2 c2] 35))
        obtain ⟨p0, p1, p2, p3, p4, p5, p6, p7, p8⟩ := blk9 kxr.out
        obtain ⟨s0, s1, s2, s3⟩ := blk4' (KeepBut.at_ hkb.out kS.out hSE)
        obtain ⟨⟨y0, y1⟩, -⟩ := blk2 (heap_new wr (.cells #[.slice A1 n1 c1, .slice A2 n2 c2] 35))
        have hbw := Below.goN (Below.go hb hbr) (.cells #[.slice A1 n1 c1, .slice A2 n2 c2] 35)
        go_wp2_with fail
        refine (Correct_any A1 A2 n1 c1 n2 c2 la lb r t _ (HT.out _ hbw) (H1.out _ hbw) (H2.out _ hbw) (by omega) (by omega) hr).mono ?_
        rintro e wC ⟨B1, k1, z1, B2, k2, z2, rfl, -, -, hL1, hL2, hn⟩
        rw [EC0.out]
        have hbZ := Below.go hbw hn
        clear hL1 hL2 hn
        go_wp2
        go_ret
        exact ⟨rfl, hbZ⟩
theorem co_yes' {o nw : Lpm.LL} {r : Rec} {t : Int} (h : Rc.coE o nw r t = 0) : Rc.coF o nw r t = Rc.less (Rc.fiV o r) (Rc.fiV nw r) t ∧ Rc.coN o nw r t = Rc.less (Rc.fiV nw r) (Rc.fiV o r) t := by
  unfold Rc.coF Rc.coN
  rw [if_pos h, if_pos h]
  exact ⟨rfl, rfl⟩
theorem fi_nodup {l : Lpm.LL} {r : Rec} (h : Rc.fiE l r = 0) : (Rc.fiV l r).Nodup := by
  obtain ⟨v, b, -, e, -, -⟩ := Rc.fi_ok h
  rw [e]
  exact Rc.fires_nodup v b
theorem corrected_law (v1 : Value) (la : Lpm.LL) (v2 : Value) (lb : Lpm.LL) (v3 : Value) (lc : Lpm.LL) (v4 : Value) (r : Rec) (t : Int) (w : World) (i1 : IsTab w v1 la) (i2 : IsTab w v2 lb) (i3 : IsTab w v3 lc) (i4 : IsRc v4 r) (i5 : (Lit.int .i64 t).wf = true) (ht : Tab w) :
    Calls Tryd.prog 3 #[v1, v2, v3, v4, .int .i64 t] w (LawPost w) := by
  obtain ⟨A1, n1, c1, rfl, -, -, -, h1⟩ := i1
  obtain ⟨A2, n2, c2, rfl, -, -, -, h2⟩ := i2
  obtain ⟨A3, n3, c3, rfl, -, -, -, h3⟩ := i3
  obtain ⟨rfl, hk⟩ := i4
  by_cases g0 : n1 ≤ 20
  case neg => exact corrected_n1 A1 A2 A3 n1 c1 n2 c2 n3 c3 la lb lc r t w ht h1 h2 h3 g0
  by_cases g1 : n2 ≤ 20
  case neg => exact corrected_n2 A1 A2 A3 n1 c1 n2 c2 n3 c3 la lb lc r t w ht h1 h2 h3 g0 g1
  by_cases g2 : n3 ≤ 20
  case neg => exact corrected_n3 A1 A2 A3 n1 c1 n2 c2 n3 c3 la lb lc r t w ht h1 h2 h3 g0 g1 g2
  cases v1 : Lpm.valid la
  · exact corrected_va A1 A2 A3 n1 c1 n2 c2 n3 c3 la lb lc r t w ht h1 h2 h3 g0 g1 g2 (Lib.hid v1)
  cases v2 : Lpm.valid lb
  · exact corrected_vb A1 A2 A3 n1 c1 n2 c2 n3 c3 la lb lc r t w ht h1 h2 h3 g0 g1 g2 (Lib.hid v1) (Lib.hid v2)
  cases v3 : Lpm.valid lc
  · exact corrected_vc A1 A2 A3 n1 c1 n2 c2 n3 c3 la lb lc r t w ht h1 h2 h3 g0 g1 g2 (Lib.hid v1) (Lib.hid v2) (Lib.hid v3)
  cases vr : Rc.validB r
  · exact corrected_vr A1 A2 A3 n1 c1 n2 c2 n3 c3 la lb lc r t w ht h1 h2 h3 g0 g1 g2 (Lib.hid v1) (Lib.hid v2) (Lib.hid v3) (Lib.hid vr)
  by_cases few : r.unt - r.frm ≤ 1200
  case neg => exact corrected_few A1 A2 A3 n1 c1 n2 c2 n3 c3 la lb lc r t w ht h1 h2 h3 g0 g1 g2 (Lib.hid v1) (Lib.hid v2) (Lib.hid v3) (Lib.hid vr) (Lib.hid (decide_eq_false few))
  have fw := Lib.hid (decide_eq_true few)
  by_cases q1 : t < 0
  · exact corrected_neg A1 A2 A3 n1 c1 n2 c2 n3 c3 la lb lc r t w ht h1 h2 h3 g0 g1 g2 (Lib.hid v1) (Lib.hid v2) (Lib.hid v3) (Lib.hid vr) fw q1
  by_cases q2 : 3000000000000000 < t
  · exact corrected_far A1 A2 A3 n1 c1 n2 c2 n3 c3 la lb lc r t w ht h1 h2 h3 g0 g1 g2 (Lib.hid v1) (Lib.hid v2) (Lib.hid v3) (Lib.hid vr) fw q1 q2
  have hr : Fit21 r := ⟨hk, fun _ => few⟩
  have cE := fun (o nw : Lpm.LL) => coE_in (o := o) (nw := nw) (r := r) (t := t) (by omega) (by omega)
  rcases Rc.fi_lim v1 vr with e1 | e1
  · rcases Rc.fi_lim v3 vr with e3 | e3
    · rcases Rc.fi_lim v2 vr with e2 | e2
      · have EC0 := cE la lb
        rw [if_pos e1, e2] at EC0
        have EC1 := cE lb lc
        rw [if_pos e2, e3] at EC1
        exact corrected_main A1 A2 A3 n1 c1 n2 c2 n3 c3 la lb lc r t w ht h1 h2 h3 g0 g1 g2 (Lib.hid v1) (Lib.hid v2) (Lib.hid v3) (Lib.hid vr) fw q1 q2 hr _ _ (Lib.hid rfl) (Lib.hid rfl) (Lib.hid e1) (Lib.hid e3) (Lib.hid e2) (Lib.hid EC0) (Lib.hid EC1) (Lib.hid (co_yes' EC0)) (Lib.hid (co_yes' EC1)) (Lib.hid (fi_nodup e1)) (Lib.hid (fi_nodup e2)) (Lib.hid (fi_nodup e3))
      · have EC0 := cE la lb
        rw [if_pos e1, e2] at EC0
        exact corrected_mid A1 A2 A3 n1 c1 n2 c2 n3 c3 la lb lc r t w ht h1 h2 h3 g0 g1 g2 (Lib.hid v1) (Lib.hid v2) (Lib.hid v3) (Lib.hid vr) fw q1 q2 hr _ _ (Lib.hid rfl) (Lib.hid rfl) (Lib.hid e1) (Lib.hid e3) (Lib.hid EC0)
    · exact corrected_limit02 A1 A2 A3 n1 c1 n2 c2 n3 c3 la lb lc r t w ht h1 h2 h3 g0 g1 g2 (Lib.hid v1) (Lib.hid v2) (Lib.hid v3) (Lib.hid vr) fw q1 q2 hr _ _ (Lib.hid rfl) (Lib.hid rfl) (Lib.hid e1) (Lib.hid e3)
  · rcases Rc.fi_lim v3 vr with e3 | e3
    · exact corrected_limit20 A1 A2 A3 n1 c1 n2 c2 n3 c3 la lb lc r t w ht h1 h2 h3 g0 g1 g2 (Lib.hid v1) (Lib.hid v2) (Lib.hid v3) (Lib.hid vr) fw q1 q2 hr _ _ (Lib.hid rfl) (Lib.hid rfl) (Lib.hid e1) (Lib.hid e3)
    · exact corrected_limit22 A1 A2 A3 n1 c1 n2 c2 n3 c3 la lb lc r t w ht h1 h2 h3 g0 g1 g2 (Lib.hid v1) (Lib.hid v2) (Lib.hid v3) (Lib.hid vr) fw q1 q2 hr _ _ (Lib.hid rfl) (Lib.hid rfl) (Lib.hid e1) (Lib.hid e3)
end Go.Proofs.YtcnenkhgbifmmaaDoor
