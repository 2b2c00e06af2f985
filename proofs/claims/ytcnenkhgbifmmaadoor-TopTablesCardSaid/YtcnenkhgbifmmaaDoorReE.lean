/- The days of a schedule: the contract of recur.Days. -/
import Derived.Test.YtcnenkhgbifmmaaDoorReD
set_option linter.unusedVariables false
namespace Go.Proofs.YtcnenkhgbifmmaaDoor
open Go.RowKit
/-- it returns a list of days in a row of its own, and an error -/
def DaysPost (r : Rec) (w : World) (e : Ending) (w' : World) : Prop :=
  ∃ v, e = .returned (.tuple #[v, .int .i64 (Rc.dysE r)]) ∧ w'.ownsRow w.heap.size tI 1 v (Rc.dysV r).length (cellsI (Rc.dysV r)) ∧ Below w.heap.size w w'
theorem own_nil {B : Nat} {W : World} {t : TypeId} {sz : Nat} : W.ownsRow B t sz (.slice none 0 0) 0 [] := World.ownsRow_nil _ _ _ _
theorem days_post {r : Rec} {w w' : World} {v : Value} {e : Int} (h1 : Rc.dysE r = e) {l : List Int} (h2 : Rc.dysV r = l) {n : Nat} (hn : l.length = n) (ho : w'.ownsRow w.heap.size tI 1 v n (cellsI l)) (hb : Below w.heap.size w w') :
    DaysPost r w (.returned (.tuple #[v, .int .i64 e])) w' := ⟨v, by rw [h1], by rw [h2, hn]; exact ho, hb⟩
theorem kind_cases {r : Rec} (h : Rc.Val r) : r.kind = ((1 : Nat) : Int) ∨ r.kind = ((2 : Nat) : Int) ∨ r.kind = ((3 : Nat) : Int) ∨ r.kind = ((4 : Nat) : Int) := by have := h.2.2.2; omega
theorem div_bd {a e : Int} (h0 : 0 ≤ a) (h1 : a ≤ 1200) (e0 : 1 ≤ e) : 0 ≤ a / e ∧ a / e ≤ 1200 := by
  have x := Int.ediv_nonneg h0 (show 0 ≤ e by omega)
  have y := Int.ediv_le_self e h0
  omega
theorem len_ints (W : World) (A : Option Addr) (n c : Nat) : (Builtin.len_ #[71] 3 #[.slice A n c]).run Tryd.prog W = .ok (.int .i64 n) W := by
  simp [Builtin.len_, run_underlying Tryd.underlying71, goInt, Result.andThen]
set_option maxHeartbeats 2000000 in
set_option maxRecDepth 100000 in
theorem Days_no (r : Rec) (w : World) (hk : (Lit.int .i64 r.kind).wf = true) (hv : Rc.validB r = false) : Calls Tryd.prog 25 #[(.agg #[.int .i64 r.kind, .int .i64 r.every, .int .i64 r.wd, .int .i64 r.nth, .int .i64 r.frm, .int .i64 r.unt, .int .i64 r.sec, .bool r.shift, .bool r.both])] w (DaysPost r w) := by
  have HP := Lib.hid (Rc.dys_no hv)
  have HC := Lib.hid (rcValid_any r (w.alloc (.cells #[.int .i64 r.kind, .int .i64 r.every, .int .i64 r.wd, .int .i64 r.nth, .int .i64 r.frm, .int .i64 r.unt, .int .i64 r.sec, .bool r.shift, .bool r.both] 24)) hk)
  rw [hv] at HC
  clear hk
  go_enter Tryd.func25, Tryd.ntmps25
  go_wp2_with (go_at_call 51; refine HC.out.mono ?_; rintro e w1 ⟨rfl, hb1⟩)
  have hb2 := Below.goA (Below.refl w.heap.size w) hb1
  go_wp2
  go_ret2
  exact days_post HP.out.1 HP.out.2 rfl own_nil hb2
set_option maxHeartbeats 2000000 in
set_option maxRecDepth 100000 in
theorem Days_yes (r : Rec) (w : World) (ht : Tab w) (hk : (Lit.int .i64 r.kind).wf = true) (hv : Rc.validB r = true) (hf : r.unt - r.frm ≤ 1200) : Calls Tryd.prog 25 #[(.agg #[.int .i64 r.kind, .int .i64 r.every, .int .i64 r.wd, .int .i64 r.nth, .int .i64 r.frm, .int .i64 r.unt, .int .i64 r.sec, .bool r.shift, .bool r.both])] w (DaysPost r w) := by
  have hV : Rc.Val r := of_decide_eq_true hv
  obtain ⟨⟨e1, e2⟩, ⟨f1, f2, f3⟩, -, -⟩ := id hV
  have HV := Lib.hid hV
  have HC := Lib.hid (rcValid_any r (w.alloc (.cells #[.int .i64 r.kind, .int .i64 r.every, .int .i64 r.wd, .int .i64 r.nth, .int .i64 r.frm, .int .i64 r.unt, .int .i64 r.sec, .bool r.shift, .bool r.both] 24)) hk)
  rw [hv] at HC
  have HOD := Lib.hid (Rc.out_days hV)
  have Hv := Lib.hid hv
  clear hk hV hv
  obtain ⟨q0, q1⟩ := div_bd (a := r.unt - r.frm) (e := r.every) (by omega) hf e1
  have HM : Hid (Rc.most r = ((r.unt - r.frm) / r.every).toNat + 2) := Lib.hid rfl
  obtain ⟨i0, hi, hz0, hz1, hz2⟩ := info_parts infoI
  have kx := Lib.hid (heap_new w (.cells #[.int .i64 r.kind, .int .i64 r.every, .int .i64 r.wd, .int .i64 r.nth, .int .i64 r.frm, .int .i64 r.unt, .int .i64 r.sec, .bool r.shift, .bool r.both] 24))
  have hb0 := Below.goN (Below.refl w.heap.size w) (.cells #[.int .i64 r.kind, .int .i64 r.every, .int .i64 r.wd, .int .i64 r.nth, .int .i64 r.frm, .int .i64 r.unt, .int .i64 r.sec, .bool r.shift, .bool r.both] 24)
  go_enter Tryd.func25, Tryd.ntmps25
  go_wp2_with (go_at_call 51; refine HC.out.mono ?_; rintro e w1 ⟨rfl, hb1⟩)
  have hb := Below.goA (Below.refl w.heap.size w) hb1
  have kx := Lib.hid (keep' kx.out hb1)
  clear hb1 hb0 HC
  go_upto_region 3 with fail
  go_cut [4] (fun f wc => ∃ (F : Nat) (caps : Array Value), f = .func (.func F) #[] caps ∧ NextOk r F caps wc ∧ Below w1.heap.size w1 wc)
  case first =>
    have HT : Hid (∀ W, Below w1.heap.size w1 W → Tab W) := Lib.hid fun W hW => (ht.below hb).below hW
    clear ht
    rcases kind_cases HV.out with hk | hk | hk | hk
    · have HK := Lib.hid hk
      clear hk
      obtain ⟨c0, c1, c2, c3, c4, c5, c6, c7, c8⟩ := blk9 kx.out
      go_region_held3 (fun W => W.cell? ⟨w.heap.size, 0, none⟩ = some (.int .i64 r.kind) ∧ W.cell? ⟨w.heap.size, 1, none⟩ = some (.int .i64 r.every) ∧ W.cell? ⟨w.heap.size, 2, none⟩ = some (.int .i64 r.wd) ∧ W.cell? ⟨w.heap.size, 3, none⟩ = some (.int .i64 r.nth) ∧ W.cell? ⟨w.heap.size, 4, none⟩ = some (.int .i64 r.frm) ∧ W.cell? ⟨w.heap.size, 5, none⟩ = some (.int .i64 r.unt) ∧ W.cell? ⟨w.heap.size, 6, none⟩ = some (.int .i64 r.sec) ∧ W.cell? ⟨w.heap.size, 7, none⟩ = some (.bool r.shift) ∧ W.cell? ⟨w.heap.size, 8, none⟩ = some (.bool r.both)) (first | exact blk9 kx.out | exact blk9 (keep' (W := w1.drew) kx.out hb2) | exact blk9 (keep' (keep' (W := w1.drew) kx.out hb2) hb3)) (first | (go_at_call 52; refine (periods_any r w1.drew).mono ?_; rintro e w2 ⟨rfl, hb2, hx2, hown2⟩; have hlk : (Instr.lookup tMF (.map (some (w1.heap.size + 1))) (.int .i64 r.kind) false).run Tryd.prog w2 = .ok (.func (.func 62) #[] #[pt w1.heap.size]) w2 := (by rw [HK.out]; exact pD_look hown2 (i := 1) (by decide) (by decide)); have HX2 := Lib.hid hx2; have hbw2 := (Below.refl _ w1).drew.trans hb2; clear hown2 hx2) | (go_at_call 62; refine (make1 w1.heap.size w2).mono ?_; rintro e w3 ⟨rfl, rfl⟩))
      go_wp2
      go_meet
      exact ⟨_, _, rfl, nok1 HV.out HK.out HX2.out, hbw2⟩
    · have HK := Lib.hid hk
      clear hk
      obtain ⟨c0, c1, c2, c3, c4, c5, c6, c7, c8⟩ := blk9 kx.out
      go_region_held3 (fun W => W.cell? ⟨w.heap.size, 0, none⟩ = some (.int .i64 r.kind) ∧ W.cell? ⟨w.heap.size, 1, none⟩ = some (.int .i64 r.every) ∧ W.cell? ⟨w.heap.size, 2, none⟩ = some (.int .i64 r.wd) ∧ W.cell? ⟨w.heap.size, 3, none⟩ = some (.int .i64 r.nth) ∧ W.cell? ⟨w.heap.size, 4, none⟩ = some (.int .i64 r.frm) ∧ W.cell? ⟨w.heap.size, 5, none⟩ = some (.int .i64 r.unt) ∧ W.cell? ⟨w.heap.size, 6, none⟩ = some (.int .i64 r.sec) ∧ W.cell? ⟨w.heap.size, 7, none⟩ = some (.bool r.shift) ∧ W.cell? ⟨w.heap.size, 8, none⟩ = some (.bool r.both)) (first | exact blk9 kx.out | exact blk9 (keep' (W := w1.drew) kx.out hb2) | exact blk9 (keep' (keep' (W := w1.drew) kx.out hb2) hb3)) (first | (go_at_call 52; refine (periods_any r w1.drew).mono ?_; rintro e w2 ⟨rfl, hb2, hx2, hown2⟩; have hlk : (Instr.lookup tMF (.map (some (w1.heap.size + 1))) (.int .i64 r.kind) false).run Tryd.prog w2 = .ok (.func (.func 64) #[] #[pt w1.heap.size]) w2 := (by rw [HK.out]; exact pD_look hown2 (i := 2) (by decide) (by decide)); have HX2 := Lib.hid hx2; have hbw2 := (Below.refl _ w1).drew.trans hb2; clear hown2 hx2) | (go_at_call 64; refine (make2 r HV.out w1.heap.size w2 HX2.out).mono ?_; rintro e w3 ⟨rfl, rfl⟩; have hb3 := Below.goN (Below.refl w2.heap.size w2) (.cells #[.int .i64 ((r.frm + 5) % 7)] 3)))
      go_wp2
      go_meet
      exact ⟨_, _, rfl, nok2 HV.out HK.out (keepN HX2.out _) (heap_new w2 _), Below.goN hbw2 _⟩
    · have HK := Lib.hid hk
      clear hk
      obtain ⟨c0, c1, c2, c3, c4, c5, c6, c7, c8⟩ := blk9 kx.out
      go_region_held3 (fun W => W.cell? ⟨w.heap.size, 0, none⟩ = some (.int .i64 r.kind) ∧ W.cell? ⟨w.heap.size, 1, none⟩ = some (.int .i64 r.every) ∧ W.cell? ⟨w.heap.size, 2, none⟩ = some (.int .i64 r.wd) ∧ W.cell? ⟨w.heap.size, 3, none⟩ = some (.int .i64 r.nth) ∧ W.cell? ⟨w.heap.size, 4, none⟩ = some (.int .i64 r.frm) ∧ W.cell? ⟨w.heap.size, 5, none⟩ = some (.int .i64 r.unt) ∧ W.cell? ⟨w.heap.size, 6, none⟩ = some (.int .i64 r.sec) ∧ W.cell? ⟨w.heap.size, 7, none⟩ = some (.bool r.shift) ∧ W.cell? ⟨w.heap.size, 8, none⟩ = some (.bool r.both)) (first | exact blk9 kx.out | exact blk9 (keep' (W := w1.drew) kx.out hb2) | exact blk9 (keep' (keep' (W := w1.drew) kx.out hb2) hb3)) (first | (go_at_call 52; refine (periods_any r w1.drew).mono ?_; rintro e w2 ⟨rfl, hb2, hx2, hown2⟩; have hlk : (Instr.lookup tMF (.map (some (w1.heap.size + 1))) (.int .i64 r.kind) false).run Tryd.prog w2 = .ok (.func (.func 67) #[] #[pt w1.heap.size]) w2 := (by rw [HK.out]; exact pD_look hown2 (i := 3) (by decide) (by decide)); have HX2 := Lib.hid hx2; have hbw2 := (Below.refl _ w1).drew.trans hb2; clear hown2 hx2) | (go_at_call 67; refine (make3 r HV.out w1.heap.size w2 (HT.out _ hbw2) HX2.out).mono ?_; rintro e w3 ⟨rfl, rfl⟩; have hb3 := Below.goN (Below.goN (Below.goN (Below.goN (Below.refl w2.heap.size w2) (.cells #[.int .i64 r.kind, .int .i64 r.every, .int .i64 r.wd, .int .i64 r.nth, .int .i64 r.frm, .int .i64 r.unt, .int .i64 r.sec, .bool r.shift, .bool r.both] 24)) (.cells #[.func (.func 69) #[] #[pt w1.heap.size]] 111)) (.cells #[.int .i64 (Cal.dY r.frm)] 3)) (.cells #[.int .i64 (Cal.dM r.frm)] 3)))
      go_wp2
      go_meet
      exact ⟨_, _, rfl, nok3 HV.out HK.out (HT.out _ (Below.go hbw2 hb3)) (mo_of HX2.out), Below.go hbw2 hb3⟩
    · have HK := Lib.hid hk
      clear hk
      obtain ⟨c0, c1, c2, c3, c4, c5, c6, c7, c8⟩ := blk9 kx.out
      go_region_held3 (fun W => W.cell? ⟨w.heap.size, 0, none⟩ = some (.int .i64 r.kind) ∧ W.cell? ⟨w.heap.size, 1, none⟩ = some (.int .i64 r.every) ∧ W.cell? ⟨w.heap.size, 2, none⟩ = some (.int .i64 r.wd) ∧ W.cell? ⟨w.heap.size, 3, none⟩ = some (.int .i64 r.nth) ∧ W.cell? ⟨w.heap.size, 4, none⟩ = some (.int .i64 r.frm) ∧ W.cell? ⟨w.heap.size, 5, none⟩ = some (.int .i64 r.unt) ∧ W.cell? ⟨w.heap.size, 6, none⟩ = some (.int .i64 r.sec) ∧ W.cell? ⟨w.heap.size, 7, none⟩ = some (.bool r.shift) ∧ W.cell? ⟨w.heap.size, 8, none⟩ = some (.bool r.both)) (first | exact blk9 kx.out | exact blk9 (keep' (W := w1.drew) kx.out hb2) | exact blk9 (keep' (keep' (W := w1.drew) kx.out hb2) hb3)) (first | (go_at_call 52; refine (periods_any r w1.drew).mono ?_; rintro e w2 ⟨rfl, hb2, hx2, hown2⟩; have hlk : (Instr.lookup tMF (.map (some (w1.heap.size + 1))) (.int .i64 r.kind) false).run Tryd.prog w2 = .ok (.func (.func 71) #[] #[pt w1.heap.size]) w2 := (by rw [HK.out]; exact pD_look hown2 (i := 4) (by decide) (by decide)); have HX2 := Lib.hid hx2; have hbw2 := (Below.refl _ w1).drew.trans hb2; clear hown2 hx2) | (go_at_call 71; refine (make4 r HV.out w1.heap.size w2 (HT.out _ hbw2) HX2.out).mono ?_; rintro e w3 ⟨rfl, rfl⟩; have hb3 := Below.goN (Below.goN (Below.goN (Below.goN (Below.refl w2.heap.size w2) (.cells #[.int .i64 r.kind, .int .i64 r.every, .int .i64 r.wd, .int .i64 r.nth, .int .i64 r.frm, .int .i64 r.unt, .int .i64 r.sec, .bool r.shift, .bool r.both] 24)) (.cells #[.func (.func 72) #[] #[pt w1.heap.size]] 111)) (.cells #[.int .i64 (Cal.dY r.frm)] 3)) (.cells #[.int .i64 (Cal.dM r.frm)] 3)))
      go_wp2
      go_meet
      exact ⟨_, _, rfl, nok4 HV.out HK.out (HT.out _ (Below.go hbw2 hb3)) (mo_of HX2.out), Below.go hbw2 hb3⟩
  case rest =>
    obtain ⟨F, caps, rfl, hN, hbc⟩ := hcut
    have hcf := hN.1
    have HN := Lib.hid hN.2
    have hb := Below.go hb hbc
    obtain ⟨c0, c1, c2, c3, c4, c5, c6, -, -⟩ := blk9 (keep' kx.out hbc)
    have kx := Lib.hid (keep' kx.out hbc)
    clear hN hbc ht
    obtain ⟨q, hq⟩ : ∃ q, (r.unt - r.frm) / r.every = q := ⟨_, rfl⟩
    rw [hq] at q0 q1 HM
    go_upto_region 5 with fail
    clear hq
    go_wp2
    obtain ⟨M, hM⟩ : ∃ M : Nat, Rc.most r = M := ⟨_, rfl⟩
    have hMq : (M : Int) = q + 2 := by rw [← hM, HM.out]; omega
    have HMq := Lib.hid hMq
    have HOM := Lib.hid hM
    clear hM hMq
    go_loopw [6, 30] (fun v i wr => ∃ (k : Nat) (A : Option Addr) (n c : Nat), k ≤ M ∧ i = .int .i64 k ∧ v = .slice A n c ∧ Hid ((Rc.outTo r k).length = n) ∧ n ≤ 1000 ∧ Hid (wr.ownsRow wc.heap.size tI 1 (.slice A n c) n (cellsI (Rc.outTo r k))) ∧ Below wc.heap.size wc wr) (fun _ i _ => M - (intOf i).toNat)
    case atStart => exact ⟨0, none, 0, 0, Nat.zero_le _, rfl, rfl, Lib.hid rfl, by omega, Lib.hid own_nil, Below.refl _ _⟩
    case round =>
      obtain ⟨k, A, n, c, hk, rfl, rfl, hn, hn1, hown, hbr⟩ := hrel
      have hkM : (k : Int) ≤ q + 2 := by have := HMq.out; omega
      by_cases hlt : k < M
      · have hlt2 : (k : Int) < q + 1 + 1 := by have := HMq.out; omega
        obtain ⟨d0, d1, d2, d3, d4, d5, d6, -, -⟩ := blk9 (keep' kx.out hbr)
        cases hE : (Rc.pE r k == 0)
        · have HS : Hid (Rc.outTo r (k + 1) = Rc.outTo r k) := Lib.hid (Rc.pick_no (by simp at hE; simp [hE]))
          go_wp2_with fail
          refine (HN.out _ hbr k (by omega) (by omega)).mono ?_
          rintro e w' ⟨rfl, rfl⟩
          go_wp2
          go_roundw
          case rel => exact ⟨k + 1, A, n, c, by omega, by go_num, rfl, by rw [HS.out]; exact hn, hn1, by rw [HS.out]; exact hown, hbr⟩
          case measure => simp [intOf]; omega
        · cases hR : wi (Rc.pd r k) r.frm (r.unt - 1)
          · have HS : Hid (Rc.outTo r (k + 1) = Rc.outTo r k) := Lib.hid (Rc.pick_no (fun h => by have := h.2; unfold Rc.inR at this; unfold wi at hR; rw [hR] at this; cases this))
            go_wp2_with fail
            refine (HN.out _ hbr k (by omega) (by omega)).mono ?_
            rintro e w' ⟨rfl, rfl⟩
            go_wp2_with (go_at_call 27; refine (within_s _ _ _ _).mono ?_; rintro e w' ⟨rfl, rfl⟩)
            go_roundw
            case rel => exact ⟨k + 1, A, n, c, by omega, by go_num, rfl, by rw [HS.out]; exact hn, hn1, by rw [HS.out]; exact hown, hbr⟩
            case measure => simp [intOf]; omega
          · have HS : Hid (Rc.outTo r (k + 1) = Rc.outTo r k ++ [Rc.pd r k]) := Lib.hid (Rc.pick_yes ⟨by simpa using hE, hR⟩)
            obtain ⟨d, hd⟩ : ∃ d, Rc.pd r k = d := ⟨_, rfl⟩
            have HN2 := Lib.hid (HN.out _ hbr k (by omega) (by omega))
            rw [hd] at HN2 HS hR
            have hbx := Below.goN hbr (.cells #[.int .i64 d] tI)
            go_wp2_with fail
            refine HN2.out.mono ?_
            rintro e w' ⟨rfl, rfl⟩
            go_wp2_with (first | (go_at_call 27; refine (within_s _ _ _ _).mono ?_; rintro e w' ⟨rfl, rfl⟩) | (at_builtin; refine wpList_append_own_at _ rfl _ _ 71 rfl wc.heap.size tI i0 (.int .i64 0) 1 8 Tryd.underlying71 hi hz0 hz1 hz2 rfl (by decide) _ n (cellsI (Rc.outTo r k)) rfl (hown.out.alloc _) ⟨wr.heap.size, 0, none⟩ 1 1 [.int .i64 d] rfl rfl (World.news_of_block (heap_new wr _)) (by simp [Value.oneCell']) (by unfold maxLen; omega) (by omega) (by have := hbr.size; simp; omega) ?_; intro v' w2 hown' hgrow _ _))
            have ho3 : w2.ownsRow wc.heap.size tI 1 v' (n + 1) (cellsI (Rc.outTo r (k + 1))) := by rw [HS.out, cellsI_app]; exact hown'
            have hn3 : Hid ((Rc.outTo r (k + 1)).length = n + 1) := Lib.hid (by rw [HS.out, List.length_append, hn.out]; rfl)
            have hb3 := Below.grown hbx hgrow (by have := hbr.size; simp; omega) (fun g hg => (hown.out.lt g hg).1)
            obtain ⟨A', c', rfl, -, -, -⟩ := own_li ho3 hn3.out
            have HO := Lib.hid ho3
            clear ho3 hown' hgrow hbx
            by_cases hbig : 1000 < n + 1
            · have hlen : Hid (1000 < (Rc.days r).length) := Lib.hid (by have := Rc.outTo_pre r (k := k + 1) (m := M) (by omega); rw [hn3.out] at this; rw [← HOD.out, HOM.out]; omega)
              have HP := Lib.hid (Rc.dys_far Hv.out hlen.out)
              have hbig2 : (1000 : Int) < (n : Int) + 1 := by omega
              have hbig6 : decide (1000 < (n : Int) + 1) = true := by simpa using hbig2
              have hbig7 : decide (1000 < n + 1) = true := by simpa using hbig
              go_wp2_with fail
              simp only [len_ints, Result.andThen_ok]
              go_wp2
              go_ret2
              exact days_post HP.out.1 HP.out.2 rfl own_nil (Below.go hb hb3)
            · have hbig2 : ¬ ((1000 : Int) < (n : Int) + 1) := by omega
              go_wp2
              go_roundw
              case rel => exact ⟨k + 1, A', n + 1, c', by omega, by go_num, rfl, hn3, by omega, HO, hb3⟩
              case measure => simp [intOf]; omega
      · obtain rfl : k = M := by omega
        have hge : ¬ ((k : Int) < q + 1 + 1) := by have := HMq.out; omega
        have HF : Hid (Rc.outTo r k = Rc.days r) := Lib.hid (by rw [← HOM.out]; exact HOD.out)
        have HP : Hid (Rc.dysE r = 0 ∧ Rc.dysV r = Rc.days r) := Lib.hid (Rc.dys_yes Hv.out (by rw [← HF.out, hn.out]; omega))
        go_wp2
        go_ret2
        exact days_post HP.out.1 (HP.out.2.trans HF.out.symm) hn.out (own_base hown.out hb.size) (Below.go hb hbr)
end Go.Proofs.YtcnenkhgbifmmaaDoor
