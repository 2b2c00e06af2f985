/- recur.Correct. -/
import Derived.Test.YtcnenkhgbifmmaaDoorReS
set_option linter.unusedVariables false
namespace Go.Proofs.YtcnenkhgbifmmaaDoor
open Go.RowKit Go.ChangeMaps Go.MapKept
open Go.Maps (Keyed)
/-- nothing that was there has turned, but for one block -/
def KeepBut (bm : Nat) (w w' : World) : Prop := w.heap.size ≤ w'.heap.size ∧ ∀ b, b < w.heap.size → b ≠ bm → w'.heap[b]? = w.heap[b]?
theorem KeepBut.refl (bm : Nat) (w : World) : KeepBut bm w w := ⟨Nat.le_refl _, fun _ _ _ => rfl⟩
theorem KeepBut.trans {bm : Nat} {a b c : World} (h : KeepBut bm a b) (k : KeepBut bm b c) : KeepBut bm a c := ⟨Nat.le_trans h.1 k.1, fun x h1 h2 => (k.2 x (by have := h.1; omega) h2).trans (h.2 x h1 h2)⟩
theorem KeepBut.below {bm : Nat} {w w' : World} (h : Below w.heap.size w w') : KeepBut bm w w' := ⟨h.size, fun b hb _ => h.block b hb⟩
theorem KeepBut.grown {bm : Nat} {w w' : World} (h : w.grownBy w' (some bm)) : KeepBut bm w w' := ⟨h.size, fun b hb hne => h.block b hb (by simp; exact hne)⟩
theorem KeepBut.at_ {bm : Nat} {w w' : World} (h : KeepBut bm w w') {b : Nat} {o : Obj} (hb : w.heap[b]? = some o) (hne : b ≠ bm) : w'.heap[b]? = some o := (h.2 b (lt_of_heap hb) hne).trans hb
/-- the slice holds a list, in another block than bm -/
def LpX (bm : Nat) (W : World) (A : Option Addr) (n : Nat) (l : Lpm.LL) : Prop := Lp W.heap.size W A n l ∧ ∀ ad, A = some ad → ad.block ≠ bm
theorem LpX.keep {bm : Nat} {W W' : World} {A : Option Addr} {n : Nat} {l : Lpm.LL} (h : LpX bm W A n l) (hk : KeepBut bm W W') : LpX bm W' A n l :=
  ⟨⟨h.1.1, fun hn => by
    obtain ⟨b, off, e, hb, hc⟩ := h.1.2 hn
    have hh := hk.2 b hb (h.2 _ e)
    exact ⟨b, off, e, Nat.lt_of_lt_of_le hb hk.1, fun j hj => ⟨(World.cell?_of_block (w := W) hh).trans (hc j hj).1, (World.cell?_of_block (w := W) hh).trans (hc j hj).2⟩⟩⟩, h.2⟩
theorem own_cap {B : Nat} {W : World} {t : TypeId} {sz : Nat} {A : Option Addr} {n m c : Nat} {xs : List Value} (h : W.ownsRow B t sz (.slice A n c) m xs) : c ≤ maxLen := by
  obtain ⟨-, ⟨e, -⟩ | ⟨g, cap, cur, e, hB, hg, hnc, hcm, -⟩⟩ := h
  · cases e; unfold maxLen; omega
  · cases e; exact hcm
theorem clear_map {w : World} {bm n : Nat} {D : DataW Unit} (h : w.ownsMap Tryd.prog tF (plainElem Tryd.prog 4) bm n D) (ty : TypeId) :
    ∃ w', (Builtin.clear_ #[tFB] ty #[.map (some bm)]).run Tryd.prog w = .ok (.tuple #[]) w' ∧ w'.ownsMap Tryd.prog tF (plainElem Tryd.prog 4) bm 0 (setD []) ∧ w.grownBy w' (some bm) := by
  obtain ⟨es, clock, hb, F, hs, rfl⟩ := h
  refine ⟨setBlock w bm (.map #[] clock), ?_, ⟨#[], clock, heap_setBlock_same hb _, ⟨by simp, stamped_empty clock, by simp⟩, Nat.le_refl _, rfl⟩, ⟨rfl, rfl, rfl, by simp [setBlock], fun i _ hi => heap_setBlock_other hb _ (fun e => hi (by rw [e]))⟩⟩
  simp [Builtin.clear_, run_underlying Tryd.underlying32, MapKept.run_getObj_map hb, MapKept.run_setObj_map _ hb, Result.andThen, setBlock]
def AMap (W : World) (bm : Nat) : Prop := ∃ (n : Nat) (D : DataW Unit), W.ownsMap Tryd.prog tF (plainElem Tryd.prog 4) bm n D
def WithPost (L : Lpm.LL) (B bm : Nat) (w : World) (e : Ending) (w' : World) : Prop :=
  ∃ A k c, e = .returned (.slice A k c) ∧ (A = none → k = 0 ∧ c = 0) ∧ (∀ ad, A = some ad → ad.block ≠ bm) ∧ Lp w'.heap.size w' A k L ∧ Below B w w' ∧ KeepBut bm w w' ∧ AMap w' bm
set_option maxHeartbeats 2000000 in
set_option maxRecDepth 100000 in
theorem with_any (B bm ja jt : Nat) (t : Int) (A1 A2 : Option Addr) (n1 c1 n2 c2 : Nat) (a b : Lpm.LL) (w : World) (h1 : LpX bm w A1 n1 a) (h2 : LpX bm w A2 n2 b) (hA1 : A1 = none → n1 = 0 ∧ c1 = 0) (m1 : n1 ≤ 1000) (m2 : n2 ≤ 1000) (wa : WfL a) (wb : WfL b)
    (ka : w.heap[ja]? = some (.cells #[.int .i64 t] tI)) (kt : w.heap[jt]? = some (.cells #[.map (some bm)] tFB)) (na : ja ≠ bm) (nt : jt ≠ bm) (hB : B ≤ bm) (hBw : bm < w.heap.size) (hm : AMap w bm) :
    Calls Tryd.prog 28 #[.slice A1 n1 c1, .slice A2 n2 c2, pt jt, pt ja] w (WithPost (Rc.less a b t) B bm w) := by
  obtain ⟨n0, D0, hown0⟩ := hm
  obtain ⟨w1, hcl, hown1, hg1⟩ := clear_map hown0 0
  have hk1 := KeepBut.grown hg1
  have hb1 : Below B w w1 := Below.grown (Below.refl B w) hg1 (by omega) (fun g e => by cases e; omega)
  have ct := blk1 kt
  have HK : Hid (∀ W, KeepBut bm w W → LpX bm W A1 n1 a ∧ LpX bm W A2 n2 b ∧ W.heap[ja]? = some (.cells #[.int .i64 t] tI) ∧ W.heap[jt]? = some (.cells #[.map (some bm)] tFB)) := Lib.hid fun W hW => ⟨h1.keep hW, h2.keep hW, hW.at_ ka na, hW.at_ kt nt⟩
  have HLen := Lib.hid h2.1.1
  have HW := Lib.hid (fun k (hk : k < n2) => (wb (b[k]?.getD (0, 0)) (by rw [List.getElem?_eq_getElem (by have := h2.1.1; omega)]; exact List.getElem_mem _)))
  have HA1 := Lib.hid hA1
  have HWa := Lib.hid wa
  have HWb := Lib.hid wb
  have HLa := Lib.hid h1.1.1
  have HO1 := Lib.hid hown1
  clear hown0 hown1 hg1 h1 h2 wa wb ka kt hA1
  go_enter Tryd.func28, Tryd.ntmps28
  go_wp2
  clear hcl ct
  go_loopw [12] (fun i wr => ∃ k : Nat, k ≤ n2 ∧ i = .int .i64 k ∧ Hid (wr.ownsMap Tryd.prog tF (plainElem Tryd.prog 4) bm k (setD (b.take k))) ∧ Below B w wr ∧ KeepBut bm w wr) (fun i _ => n2 - (intOf i).toNat)
  case atStart => exact ⟨0, Nat.zero_le _, rfl, Lib.hid (by simpa using HO1.out), hb1, hk1⟩
  case round =>
    obtain ⟨k, hk, rfl, hown, hb, hkp⟩ := hrel
    obtain ⟨q1, q2, q3, q4⟩ := HK.out _ hkp
    by_cases hlt : k < n2
    · obtain ⟨bb, off, rfl, hB', hc⟩ := q2.1.2 (by omega)
      obtain ⟨c0, c1'⟩ := hc k hlt
      have HX := Lib.hid (HW.out k hlt)
      have hts := takeL_snoc HLen.out hlt
      obtain ⟨x, hx⟩ : ∃ x, b[k]?.getD (0, 0) = x := ⟨_, rfl⟩
      rw [hx] at c0 c1' HX hts
      have HS : Hid (setD (b.take (k + 1)) = (setD (b.take k)).put (kF x) (.lit (.bool true))) := Lib.hid (by rw [hts, setD_snoc])
      have i0 : (0 : Int) ≤ (k : Int) := by omega
      have i1 : (k : Int) < (n2 : Int) := by omega
      have hbx : Below B w (wr.alloc (.cells #[.int .i64 x.1, .int .i64 x.2] tF)) := hb.alloc (by have := hb.size; omega) _
      have hkx : KeepBut bm w (wr.alloc (.cells #[.int .i64 x.1, .int .i64 x.2] tF)) := hkp.trans (KeepBut.below (Below.goN (Below.refl wr.heap.size wr) _))
      have ct2 := blk1 (keepN q4 (.cells #[.int .i64 x.1, .int .i64 x.2] tF))
      clear hc hx hts q1 q2 q3 q4
      obtain ⟨d, s⟩ := x
      simp only at *
      go_wp2_with (at_mapUpdate; refine wpList_mapUpdate_own _ rfl _ _ _ tFB rfl tF 4 keyedF Tryd.underlying32 _ bm k _ rfl (hown.out.alloc _) (by unfold maxLen; omega) (FV (d, s)) (.bool true) (kF (d, s)) rfl rfl (kF_some HX.out) (.lit (.bool true)) [] (plainElem_bool Tryd.underlying4 true) ?_; intro w9 hown9 hgrow9)
      have hb9 := Below.grown hbx hgrow9 (by have := hbx.size; omega) (fun g e => by cases e; exact hB)
      have hk9 := hkx.trans (KeepBut.grown hgrow9)
      have HO9 := Lib.hid hown9
      clear hown9 hgrow9 hbx hkx
      go_wp2
      go_roundw
      case rel => exact ⟨k + 1, by omega, by go_num, Lib.hid (by rw [HS.out]; exact HO9.out), hb9, hk9⟩
      case measure => simp [intOf]; omega
    · obtain rfl : k = n2 := by omega
      have e : b.take k = b := List.take_of_length_le (by rw [HLen.out]; omega)
      rw [e] at hown
      have hda : DelAt wr b t ja jt bm := ⟨q3, q4, ⟨k, hown.out⟩, HWb.out⟩
      have HC := Lib.hid (clone_any A1 n1 c1 a wr q1.1 HA1.out (by omega))
      have hbmr : bm < wr.heap.size := by have := hkp.1; omega
      have HDa := Lib.hid hda
      clear e q1 q2 q3 q4 hda
      go_wp2_with fail
      refine HC.out.mono ?_
      rintro e w5 ⟨A5, c5, rfl, hown5, hb5⟩
      have hcap := own_cap hown5
      have HDel := Lib.hid (deleteF_any b t ja jt bm wr.heap.size A5 n1 c5 a w5 hown5 HLa.out (by omega) hcap HWa.out hb5.size (fun W hW => HDa.out.below (hb5.trans hW)))
      clear hown5
      go_wp2_with fail
      refine HDel.out.mono ?_
      rintro e w6 ⟨A6, k6, c6, rfl, hA6, hf6, hL6, hb6⟩
      have hbr := hb5.trans hb6
      have HL6 := Lib.hid hL6
      have HA6 := Lib.hid hA6
      have HF6 := Lib.hid hf6
      have hmap := Lib.hid (own_map_below hown.out hbr)
      have hkf := hkp.trans (KeepBut.below hbr)
      have hbf : Below B w w6 := hb.trans (hbr.mono (by omega))
      clear hL6 hA6 hf6 hb5 hb6 hbr
      go_wp2
      go_ret
      exact ⟨A6, k6, c6, rfl, HA6.out, fun ad h => by have := HF6.out ad h; omega, by rw [← del_less]; exact HL6.out, hbf, hkf, ⟨_, _, hmap.out⟩⟩
theorem wf_fires {l : Lpm.LL} {r : Rec} : WfL (Rc.fiV l r) := by
  intro x hx
  by_cases h : Rc.fiE l r = 0
  · obtain ⟨hv, hr, -, e, -⟩ := Rc.fi_ok h
    rw [e] at hx
    unfold Rc.fires Rc.firesOf at hx
    obtain ⟨d, hd, hx⟩ := List.mem_flatMap.1 hx
    unfold Rc.fonP at hx
    obtain ⟨t, ht, rfl⟩ := List.mem_map.1 hx
    have hV : Rc.Val r := of_decide_eq_true hr
    rw [Rc.mem_days] at hd
    have hf := hV.2.1
    have hs := hV.2.2.1
    have hb := Lpm.start_bd (a := d) hv
    have hb2 := Lpm.start_bd (a := d + 1) hv
    have ht2 : -1000000000000 ≤ t ∧ t ≤ 4000000000000000 := by
      unfold Rc.fon at ht
      have htim : ∀ t ∈ Rc.tim l r.sec d, -1000000000000 ≤ t ∧ t ≤ 4000000000000000 := by
        intro t ht
        rcases Rc.tim_ways hv hs.1 hs.2 d with ⟨a, b, e⟩ | ⟨a, b, e⟩ | ⟨a, b, e⟩ | ⟨a, b, e⟩ <;> rw [e] at ht <;> simp at ht <;> omega
      split at ht
      · have hst : Lpm.stV l (d + 1) = Lpm.start l (d + 1) ∨ Lpm.stV l (d + 1) = 0 := by unfold Lpm.stV; split <;> simp
        simp at ht; omega
      · split at ht
        · exact htim t (List.mem_of_mem_take ht)
        · exact htim t ht
    have wfi : ∀ z : Int, -4000000000000000 ≤ z → z ≤ 4000000000000000 → (Lit.int .i64 z).wf = true := fun z h1 h2 => by
      have e1 : IntKind.i64.min = -9223372036854775808 := rfl
      have e2 : IntKind.i64.max = 9223372036854775807 := rfl
      simp only [Lit.wf, e1, e2, Bool.and_eq_true, decide_eq_true_eq]; omega
    exact ⟨wfi d (by omega) (by omega), wfi t (by omega) (by omega)⟩
  · unfold Rc.fiV at hx; rw [if_neg h] at hx; cases hx
theorem keepOwn {W : World} {b n : Nat} {D : DataW Unit} {k : TypeId} {R : Value → Option (DataW Unit × List MemPlace)} (h : W.ownsMap Tryd.prog k R b n D) (o : Obj) : (W.alloc o).ownsMap Tryd.prog k R b n D := h.alloc o
theorem own_lt {B : Nat} {W : World} {t : TypeId} {sz : Nat} {A : Option Addr} {n m c : Nat} {xs : List Value} (h : W.ownsRow B t sz (.slice A n c) m xs) : ∀ ad, A = some ad → ad.block < W.heap.size := by
  intro ad hA
  subst hA
  obtain ⟨-, ⟨e, -⟩ | ⟨g, cap, cur, e, hB, hg, -⟩⟩ := h
  · cases e
  · cases e; exact lt_of_heap hg
set_option maxHeartbeats 2000000 in
set_option maxRecDepth 100000 in
theorem Correct_any (A1 A2 : Option Addr) (n1 c1 n2 c2 : Nat) (o nw : Lpm.LL) (r : Rec) (t : Int) (w : World) (ht : Tab w) (h1 : Lp w.heap.size w A1 n1 o) (h2 : Lp w.heap.size w A2 n2 nw) (m1 : n1 ≤ 110) (m2 : n2 ≤ 110) (hr : Fit21 r) :
    Calls Tryd.prog 11 #[.slice A1 n1 c1, .slice A2 n2 c2, (.agg #[.int .i64 r.kind, .int .i64 r.every, .int .i64 r.wd, .int .i64 r.nth, .int .i64 r.frm, .int .i64 r.unt, .int .i64 r.sec, .bool r.shift, .bool r.both]), .int .i64 t] w (CoPost o nw r t w) := by
  have H1 := Lib.hid (fun W (hW : Below w.heap.size w W) => Fires_any A1 n1 c1 o r W (ht.below hW) (h1.go hW) m1 hr)
  have H2 := Lib.hid (fun W (hW : Below w.heap.size w W) => Fires_any A2 n2 c2 nw r W (ht.below hW) (h2.go hW) m2 hr)
  have hb := Below.goN (Below.goN (Below.refl w.heap.size w) (.cells #[.int .i64 r.kind, .int .i64 r.every, .int .i64 r.wd, .int .i64 r.nth, .int .i64 r.frm, .int .i64 r.unt, .int .i64 r.sec, .bool r.shift, .bool r.both] 24)) (.cells #[.int .i64 t] tI)
  have kx := Lib.hid (new0 w (.cells #[.int .i64 r.kind, .int .i64 r.every, .int .i64 r.wd, .int .i64 r.nth, .int .i64 r.frm, .int .i64 r.unt, .int .i64 r.sec, .bool r.shift, .bool r.both] 24) (.cells #[.int .i64 t] tI))
  have ka := Lib.hid (new1 w (.cells #[.int .i64 r.kind, .int .i64 r.every, .int .i64 r.wd, .int .i64 r.nth, .int .i64 r.frm, .int .i64 r.unt, .int .i64 r.sec, .bool r.shift, .bool r.both] 24) (.cells #[.int .i64 t] tI))
  have F1 := Rc.fiV_len o r
  have F2 := Rc.fiV_len nw r
  clear h1 h2
  have ct := blk1 ka.out
  by_cases ha : 0 ≤ t ∧ t ≤ 3000000000000000
  rotate_left
  · have HP := Lib.hid (coE_bad (o := o) (nw := nw) (r := r) (t := t) (by omega))
    have q1 : wi t 0 3000000000000000 = false := wi_f ha
    go_enter Tryd.func11, Tryd.ntmps11
    go_wp2_with (go_at_call 27; refine (within_s _ _ _ _).mono ?_; rintro e w' ⟨rfl, rfl⟩)
    go_ret3
    exact co_no HP.out (by decide) hb
  · have q1 : wi t 0 3000000000000000 = true := wi_t ha
    have HP := Lib.hid (coE_in (o := o) (nw := nw) (r := r) (t := t) ha.1 ha.2)
    obtain ⟨d0, d1, d2, d3, d4, d5, d6, d7, d8⟩ := blk9 kx.out
    by_cases e1 : Rc.fiE o r = 0
    · have E1 := Lib.hid e1
      clear e1
      by_cases e2 : Rc.fiE nw r = 0
      · have E2 := Lib.hid e2
        clear e2
        go_enter Tryd.func11, Tryd.ntmps11
        go_wp2_with (first | (go_at_call 27; refine (within_s _ _ _ _).mono ?_; rintro e w' ⟨rfl, rfl⟩) | fail)
        refine (H1.out _ hb).mono ?_
        rintro e w1 ⟨v1, rfl, hown1, hb1⟩
        rw [E1.out]
        have hb2 := Below.go hb hb1
        have kx2 := Lib.hid (keep' kx.out hb1)
        have ka := Lib.hid (keep' ka.out hb1)
        obtain ⟨B1, b1, rfl, hn1, ha1, hL1⟩ := own_lp hown1 rfl
        have HB1 := Lib.hid (own_lt hown1)
        have HZ1 : Hid (B1 = none → (Rc.fiV o r).length = 0 ∧ b1 = 0) := Lib.hid fun h => by have := ha1 h; omega
        have HL1 := Lib.hid hL1
        obtain ⟨d0, d1, d2, d3, d4, d5, d6, d7, d8⟩ := blk9 kx2.out
        clear hown1 hL1 hb1
        go_wp2_with fail
        refine (H2.out _ hb2).mono ?_
        rintro e w2 ⟨v2, rfl, hown2, hb1⟩
        rw [E2.out]
        have hb3 := Below.go hb2 hb1
        obtain ⟨B2, b2, rfl, hn2, ha2, hL2⟩ := own_lp hown2 rfl
        have HB2 := Lib.hid (own_lt hown2)
        have HZ2 : Hid (B2 = none → (Rc.fiV nw r).length = 0 ∧ b2 = 0) := Lib.hid fun h => by have := ha2 h; omega
        have HL2 := Lib.hid hL2
        have HL1 := Lib.hid (HL1.out.go hb1)
        have HB1 : Hid (∀ ad, B1 = some ad → ad.block < w2.heap.size) := Lib.hid fun ad h => by have := HB1.out ad h; have := hb1.size; omega
        have ka2 := Lib.hid (keep' ka.out hb1)
        clear hown2 hL2 hb1 hn1 ha1 hn2 ha2
        have hsz3 := hb3.size
        have kt := Lib.hid (new1 w2 (.map #[] 0) (.cells #[.map (some w2.heap.size)] tFB))
        have hmap := Lib.hid (keepOwn (World.ownsMap_made w2 Tryd.prog tF (plainElem (H := Unit) Tryd.prog 4)) (.cells #[.map (some w2.heap.size)] tFB))
        have hbe := Below.goN (Below.goN (Below.refl w2.heap.size w2) (.map #[] 0)) (.cells #[.map (some w2.heap.size)] tFB)
        have hsz4 : ((w2.alloc (.map #[] 0)).alloc (.cells #[.map (some w2.heap.size)] tFB)).heap.size = w2.heap.size + 2 := by simp
        have X1 : Hid (LpX w2.heap.size ((w2.alloc (.map #[] 0)).alloc (.cells #[.map (some w2.heap.size)] tFB)) B1 _ (Rc.fiV o r)) := Lib.hid ⟨HL1.out.go hbe, fun ad h => by have := HB1.out ad h; omega⟩
        have X2 : Hid (LpX w2.heap.size ((w2.alloc (.map #[] 0)).alloc (.cells #[.map (some w2.heap.size)] tFB)) B2 _ (Rc.fiV nw r)) := Lib.hid ⟨HL2.out.go hbe, fun ad h => by have := HB2.out ad h; omega⟩
        have KA := Lib.hid (keep' ka2.out hbe)
        have hbw := Below.go hb3 hbe
        have hmm := @run_makeMap Tryd.prog
        have hja := lt_of_heap ka2.out
        go_wp2_with fail
        refine (with_any w.heap.size w2.heap.size (w.heap.size + 1) (w2.heap.size + 1) t B1 B2 _ b1 _ b2 (Rc.fiV o r) (Rc.fiV nw r) _ X1.out X2.out HZ1.out F1 F2 wf_fires wf_fires KA.out kt.out (by omega) (by omega) (by omega) (by omega) ⟨_, _, hmap.out⟩).mono ?_
        rintro e w5 ⟨G1, g1, z1, rfl, hz1, hf1, hG1, hb5, hk5, hm5⟩
        have XG1 := Lib.hid (⟨hG1, hf1⟩ : LpX w2.heap.size w5 G1 g1 _)
        have HZ3 := Lib.hid hz1
        have hsz5 := hk5.1
        have HM5 := Lib.hid hm5
        clear hG1 hf1 hz1 hm5
        go_wp2_with fail
        refine (with_any w.heap.size w2.heap.size (w.heap.size + 1) (w2.heap.size + 1) t B2 B1 _ b2 _ b1 (Rc.fiV nw r) (Rc.fiV o r) w5 (X2.out.keep hk5) (X1.out.keep hk5) HZ2.out F2 F1 wf_fires wf_fires (hk5.at_ KA.out (by omega)) (hk5.at_ kt.out (by omega)) (by omega) (by omega) (by omega) (by omega) HM5.out).mono ?_
        rintro e w6 ⟨G2, g2, z2, rfl, hz2, hf2, hG2, hb6, hk6, hm6⟩
        have HG2 := Lib.hid hG2
        have HZ4 := Lib.hid hz2
        have HG1 := Lib.hid (LpX.keep XG1.out hk6).1
        have hbf := (hbw.trans hb5).trans hb6
        clear hG2 hz2 hf2 hm6
        go_wp2
        go_ret3
        exact co_yes (by rw [HP.out, if_pos E1.out, E2.out]) HZ3.out HZ4.out HG1.out HG2.out hbf
      · have hE2 := bne_int e2
        have HE2 := Lib.hid e2
        clear e2
        go_enter Tryd.func11, Tryd.ntmps11
        go_wp2_with (first | (go_at_call 27; refine (within_s _ _ _ _).mono ?_; rintro e w' ⟨rfl, rfl⟩) | fail)
        refine (H1.out _ hb).mono ?_
        rintro e w1 ⟨v1, rfl, -, hb1⟩
        rw [E1.out]
        have hb2 := Below.go hb hb1
        obtain ⟨d0, d1, d2, d3, d4, d5, d6, d7, d8⟩ := blk9 (keep' kx.out hb1)
        clear hb1
        go_wp2_with fail
        refine (H2.out _ hb2).mono ?_
        rintro e w2 ⟨v2, rfl, -, hb1⟩
        have hb3 := Below.go hb2 hb1
        clear hb1
        go_wp2
        go_ret3
        exact co_no (by rw [HP.out, if_pos E1.out]) HE2.out hb3
    · have hE1 := bne_int e1
      have HE1 := Lib.hid e1
      clear e1
      go_enter Tryd.func11, Tryd.ntmps11
      go_wp2_with (first | (go_at_call 27; refine (within_s _ _ _ _).mono ?_; rintro e w' ⟨rfl, rfl⟩) | fail)
      refine (H1.out _ hb).mono ?_
      rintro e w1 ⟨v1, rfl, -, hb1⟩
      have hb2 := Below.go hb hb1
      clear hb1
      go_wp2
      go_ret3
      exact co_no (by rw [HP.out, if_neg HE1.out]) HE1.out hb2
end Go.Proofs.YtcnenkhgbifmmaaDoor
