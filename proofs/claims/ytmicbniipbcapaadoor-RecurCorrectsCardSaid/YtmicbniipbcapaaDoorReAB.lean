/- The law RecurFires. -/
import Derived.Test.YtmicbniipbcapaaDoorReAA
import Derived.Test.YtmicbniipbcapaaDoorReMath6
import Derived.Maps.OwnOps
set_option linter.unusedVariables false
namespace Go.Proofs.YtmicbniipbcapaaDoor
open Go.RowKit Go.ChangeMaps Go.MapKept
open Go.Maps (Keyed int_keyed keyOf_int_mk)
abbrev tMI : TypeId := 52
/-- what a wall clock shows at a fire -/
def Shown (r : Rec) (d D S : Int) : Prop := (d = D ∧ r.sec = S) ∨ (d + 1 = D ∧ 0 = S ∧ r.shift = true ∧ r.sec = 86399)
theorem shown_any (A : Option Addr) (n c : Nat) (l : Lpm.LL) (r : Rec) (d t : Int) (hv : Lpm.valid l = true) (hr : Rc.validB r = true) (h0 : 0 ≤ d) (h1 : d ≤ 34000) (hn : n ≤ 110) (ht : t ∈ Rc.fon l r d) :
    ∃ D S, Shown r d D S ∧ ∀ W, Lp W.heap.size W A n l → Calls Tryd.prog 25 #[.slice A n c, .int .i64 t] W (RetB (.tuple #[.agg #[.int .i64 D, .int .i64 S, .int .i64 0], .int .i64 0]) W) := by
  have hV := (of_decide_eq_true hr : Rc.Val r).2.2.1
  have e : Rc.lenD l d = Lpm.start l (d + 1) - Lpm.start l d := rfl
  rcases Rc.fon_mem hv hr h0 h1 ht with ⟨rfl, h⟩ | ⟨a, rfl, h⟩ | ⟨a, b, rfl, h, g⟩
  · exact ⟨d, r.sec, .inl ⟨rfl, rfl⟩, fun W hl => Show_in A n c l d _ r.sec W hl hn ⟨hv, h0, h1, by omega, by omega⟩ (by omega) hV.2⟩
  · refine ⟨d, 86399, .inl ⟨rfl, a⟩, fun W hl => Show_last A n c l d _ W hl hn ⟨hv, h0, h1, by omega, by omega⟩ (by omega)⟩
  · refine ⟨d + 1, 0, .inr ⟨rfl, rfl, b, a⟩, fun W hl => Show_in A n c l (d + 1) _ 0 W hl hn ⟨hv, by omega, g, Int.le_refl _, Lpm.start_lt hv (by omega)⟩ (by omega) (by decide)⟩
theorem zeroI (w : World) : (zeroValue 3).run Tryd.prog w = .ok (.int .i64 0) w := by kernel_rfl
theorem lit_int {a b : Int} (h : (DataW.lit (.int .i64 a) : DataW Unit) = .lit (.int .i64 b)) : a = b := by cases h; rfl
theorem wf_small {x : Int} (h0 : -4000000000000000 ≤ x) (h1 : x ≤ 4000000000000000) : (Lit.int .i64 x).wf = true := by
  have a : IntKind.i64.min = -9223372036854775808 := by decide
  have b : IntKind.i64.max = 9223372036854775807 := by decide
  show (decide (IntKind.i64.min ≤ x) && decide (x ≤ IntKind.i64.max)) = true
  rw [a, b, Bool.and_eq_true]
  exact ⟨decide_eq_true (by omega), decide_eq_true (by omega)⟩
/-- a map that counts the fires of each day -/
def CntOk (L : Lpm.LL) (D : DataW Unit) : Prop := Maps.IsMap D ∧ ∀ d, (Lit.int .i64 d).wf = true → D.atKey (.int .i64 d) (.lit (.int .i64 0)) = .lit (.int .i64 (Rc.cnt L d))
theorem cnt_nil : CntOk [] (.map []) := ⟨⟨[], rfl⟩, fun d _ => rfl⟩
theorem cnt_put {L : Lpm.LL} {D : DataW Unit} (h : CntOk L D) (x : Int × Int) (hx : (Lit.int .i64 x.1).wf = true) : CntOk (L ++ [x]) (D.put (.int .i64 x.1) (.lit (.int .i64 (Rc.cnt L x.1 + 1)))) := by
  refine ⟨h.1.put _ _, fun d hd => ?_⟩
  rw [Rc.cnt_snoc]
  by_cases e : x.1 = d
  · subst e
    rw [Maps.atKey_put_same h.1 (int_keyed (P := Tryd.prog) Tryd.underlying3 |>.key (keyOf_int_mk Tryd.underlying3 hx)), if_pos rfl]
    simp
  · rw [Maps.atKey_put_other (fun e' => e (by injection e' with e1 e2; exact e2.symm)), h.2 d hd, if_neg e]
    simp
/-- how many fires a day of a length is to have -/
def DayWay (r : Rec) (L : Int) (C : Nat) : Prop := ((r.sec == 86399) = false ∧ C = 1) ∨ (r.sec = 86399 ∧ L = 86399000000 ∧ r.shift = true ∧ C = 1) ∨ (r.sec = 86399 ∧ L = 86399000000 ∧ r.shift = false ∧ C = 0) ∨ (r.sec = 86399 ∧ L = 86400000000 ∧ C = 1) ∨ (r.sec = 86399 ∧ L = 86401000000 ∧ r.both = true ∧ C = 2) ∨ (r.sec = 86399 ∧ L = 86401000000 ∧ r.both = false ∧ C = 1)
theorem day_way {l : Lpm.LL} {r : Rec} {d : Int} (hv : Lpm.valid l = true) (hr : Rc.validB r = true) : DayWay r (Rc.lenD l d) (Rc.fon l r d).length := by
  have hw := Rc.want_is (d := d) hv hr
  unfold Rc.want at hw
  by_cases e : r.sec = 86399
  · rcases Rc.lenD_is hv d with h | h | h
    · rw [h] at hw ⊢
      cases hs : r.shift
      · rw [if_pos ⟨e, by decide, hs⟩] at hw
        exact .inr (.inr (.inl ⟨e, rfl, hs, by omega⟩))
      · rw [if_neg (by simp [hs]), if_neg (by omega)] at hw
        exact .inr (.inl ⟨e, rfl, hs, by omega⟩)
    · rw [h] at hw ⊢
      rw [if_neg (by omega), if_neg (by omega)] at hw
      exact .inr (.inr (.inr (.inl ⟨e, rfl, by omega⟩)))
    · rw [h] at hw ⊢
      rw [if_neg (by omega)] at hw
      cases hs : r.both
      · rw [if_neg (by simp [hs])] at hw
        exact .inr (.inr (.inr (.inr (.inr ⟨e, rfl, hs, by omega⟩))))
      · rw [if_pos ⟨e, by decide, hs⟩] at hw
        exact .inr (.inr (.inr (.inr (.inl ⟨e, rfl, hs, by omega⟩))))
  · rw [if_neg (fun h => e h.1), if_neg (fun h => e h.1)] at hw
    exact .inl ⟨by rw [beq_eq_false_iff_ne]; exact e, by omega⟩
set_option maxHeartbeats 2000000 in
set_option maxRecDepth 100000 in
theorem fires_unusable (A : Option Addr) (n c : Nat) (l : Lpm.LL) (r : Rec) (w : World) (ht : Tab w) (h1 : Lp w.heap.size w A n l) (q : Hid (useB n l r = false)) :
    Calls Tryd.prog 9 #[.slice A n c, (.agg #[.int .i64 r.kind, .int .i64 r.every, .int .i64 r.wd, .int .i64 r.nth, .int .i64 r.frm, .int .i64 r.unt, .int .i64 r.sec, .bool r.shift, .bool r.both])] w (LawPost w) := by
  have HT : Hid (∀ W, Below w.heap.size w W → Tab W) := Lib.hid fun W hW => ht.below hW
  have H1 : Hid (∀ W, Below w.heap.size w W → Lp W.heap.size W A n l) := Lib.hid fun W hW => h1.go hW
  have hb := Below.goN (Below.refl w.heap.size w) (.cells #[.int .i64 r.kind, .int .i64 r.every, .int .i64 r.wd, .int .i64 r.nth, .int .i64 r.frm, .int .i64 r.unt, .int .i64 r.sec, .bool r.shift, .bool r.both] 24)
  have kx := Lib.hid (heap_new w (.cells #[.int .i64 r.kind, .int .i64 r.every, .int .i64 r.wd, .int .i64 r.nth, .int .i64 r.frm, .int .i64 r.unt, .int .i64 r.sec, .bool r.shift, .bool r.both] 24))
  clear ht h1
  go_enter Tryd.func9, Tryd.ntmps9
  go_wp2_with fail
  refine (head_any _ (HT.out _ hb)).mono ?_
  rintro e w1 ⟨rfl, hn⟩
  have hb := Below.go hb hn
  have kx := Lib.hid (keep' kx.out hn)
  clear hn
  obtain ⟨kx_0, kx_1, kx_2, kx_3, kx_4, kx_5, kx_6, kx_7, kx_8⟩ := blk9 kx.out
  go_wp2_with fail
  refine (usable_any A n c l r _ (H1.out _ hb)).mono ?_
  rintro e w2 ⟨rfl, hn⟩
  have hb := Below.go hb hn
  have kx := Lib.hid (keep' kx.out hn)
  clear hn
  rw [q.out]
  obtain ⟨kx_0, kx_1, kx_2, kx_3, kx_4, kx_5, kx_6, kx_7, kx_8⟩ := blk9 kx.out
  go_wp2
  go_ret
  exact ⟨by simp, hb⟩
set_option maxHeartbeats 2000000 in
set_option maxRecDepth 100000 in
theorem fires_limit1 (A : Option Addr) (n c : Nat) (l : Lpm.LL) (r : Rec) (w : World) (ht : Tab w) (h1 : Lp w.heap.size w A n l) (q : Hid (useB n l r = true)) (m : n ≤ 110) (hr : Fit21 r) (M N : Nat) (Mq : Hid ((Rc.dysV r).length = M)) (Nq : Hid ((Rc.fiV l r).length = N)) (E1 : Hid (Rc.dysE r = 2)) (E2 : Hid (Rc.fiE l r = 2)) :
    Calls Tryd.prog 9 #[.slice A n c, (.agg #[.int .i64 r.kind, .int .i64 r.every, .int .i64 r.wd, .int .i64 r.nth, .int .i64 r.frm, .int .i64 r.unt, .int .i64 r.sec, .bool r.shift, .bool r.both])] w (LawPost w) := by
  have HT : Hid (∀ W, Below w.heap.size w W → Tab W) := Lib.hid fun W hW => ht.below hW
  have H1 : Hid (∀ W, Below w.heap.size w W → Lp W.heap.size W A n l) := Lib.hid fun W hW => h1.go hW
  have hb := Below.goN (Below.refl w.heap.size w) (.cells #[.int .i64 r.kind, .int .i64 r.every, .int .i64 r.wd, .int .i64 r.nth, .int .i64 r.frm, .int .i64 r.unt, .int .i64 r.sec, .bool r.shift, .bool r.both] 24)
  have kx := Lib.hid (heap_new w (.cells #[.int .i64 r.kind, .int .i64 r.every, .int .i64 r.wd, .int .i64 r.nth, .int .i64 r.frm, .int .i64 r.unt, .int .i64 r.sec, .bool r.shift, .bool r.both] 24))
  clear ht h1
  go_enter Tryd.func9, Tryd.ntmps9
  go_wp2_with fail
  refine (head_any _ (HT.out _ hb)).mono ?_
  rintro e w1 ⟨rfl, hn⟩
  have hb := Below.go hb hn
  have kx := Lib.hid (keep' kx.out hn)
  clear hn
  obtain ⟨kx_0, kx_1, kx_2, kx_3, kx_4, kx_5, kx_6, kx_7, kx_8⟩ := blk9 kx.out
  go_wp2_with fail
  refine (usable_any A n c l r _ (H1.out _ hb)).mono ?_
  rintro e w2 ⟨rfl, hn⟩
  have hb := Below.go hb hn
  have kx := Lib.hid (keep' kx.out hn)
  clear hn
  rw [q.out]
  obtain ⟨kx_0, kx_1, kx_2, kx_3, kx_4, kx_5, kx_6, kx_7, kx_8⟩ := blk9 kx.out
  go_wp2_with fail
  refine (da_n (e := 2) (n := M) (Days_any r _ (HT.out _ hb) hr) E1.out Mq.out).mono ?_
  rintro e w3 ⟨A1, c1, rfl, hL, hn⟩
  have hb := Below.go hb hn
  have kx := Lib.hid (keep' kx.out hn)
  clear hn
  have L1 := Lib.hid hL; clear hL
  obtain ⟨kx_0, kx_1, kx_2, kx_3, kx_4, kx_5, kx_6, kx_7, kx_8⟩ := blk9 kx.out
  go_wp2_with fail
  refine (fi_n (e := 2) (n := N) (Fires_any A n c l r _ (HT.out _ hb) (H1.out _ hb) m hr) E2.out Nq.out).mono ?_
  rintro e w4 ⟨A3, c3, rfl, hc3, hz3, -, hL, hn⟩
  have hb := Below.go hb hn
  have kx := Lib.hid (keep' kx.out hn)
  have L1 := Lib.hid (Li.go L1.out hn)
  clear hn
  have L3 := Lib.hid hL; clear hL
  go_wp2
  go_ret
  exact ⟨by simp, hb⟩
set_option maxHeartbeats 2000000 in
set_option maxRecDepth 100000 in
theorem fires_limit2 (A : Option Addr) (n c : Nat) (l : Lpm.LL) (r : Rec) (w : World) (ht : Tab w) (h1 : Lp w.heap.size w A n l) (q : Hid (useB n l r = true)) (m : n ≤ 110) (hr : Fit21 r) (M N : Nat) (Mq : Hid ((Rc.dysV r).length = M)) (Nq : Hid ((Rc.fiV l r).length = N)) (E1 : Hid (Rc.dysE r = 0)) (E2 : Hid (Rc.fiE l r = 2)) :
    Calls Tryd.prog 9 #[.slice A n c, (.agg #[.int .i64 r.kind, .int .i64 r.every, .int .i64 r.wd, .int .i64 r.nth, .int .i64 r.frm, .int .i64 r.unt, .int .i64 r.sec, .bool r.shift, .bool r.both])] w (LawPost w) := by
  have HT : Hid (∀ W, Below w.heap.size w W → Tab W) := Lib.hid fun W hW => ht.below hW
  have H1 : Hid (∀ W, Below w.heap.size w W → Lp W.heap.size W A n l) := Lib.hid fun W hW => h1.go hW
  have hb := Below.goN (Below.refl w.heap.size w) (.cells #[.int .i64 r.kind, .int .i64 r.every, .int .i64 r.wd, .int .i64 r.nth, .int .i64 r.frm, .int .i64 r.unt, .int .i64 r.sec, .bool r.shift, .bool r.both] 24)
  have kx := Lib.hid (heap_new w (.cells #[.int .i64 r.kind, .int .i64 r.every, .int .i64 r.wd, .int .i64 r.nth, .int .i64 r.frm, .int .i64 r.unt, .int .i64 r.sec, .bool r.shift, .bool r.both] 24))
  clear ht h1
  go_enter Tryd.func9, Tryd.ntmps9
  go_wp2_with fail
  refine (head_any _ (HT.out _ hb)).mono ?_
  rintro e w1 ⟨rfl, hn⟩
  have hb := Below.go hb hn
  have kx := Lib.hid (keep' kx.out hn)
  clear hn
  obtain ⟨kx_0, kx_1, kx_2, kx_3, kx_4, kx_5, kx_6, kx_7, kx_8⟩ := blk9 kx.out
  go_wp2_with fail
  refine (usable_any A n c l r _ (H1.out _ hb)).mono ?_
  rintro e w2 ⟨rfl, hn⟩
  have hb := Below.go hb hn
  have kx := Lib.hid (keep' kx.out hn)
  clear hn
  rw [q.out]
  obtain ⟨kx_0, kx_1, kx_2, kx_3, kx_4, kx_5, kx_6, kx_7, kx_8⟩ := blk9 kx.out
  go_wp2_with fail
  refine (da_n (e := 0) (n := M) (Days_any r _ (HT.out _ hb) hr) E1.out Mq.out).mono ?_
  rintro e w3 ⟨A1, c1, rfl, hL, hn⟩
  have hb := Below.go hb hn
  have kx := Lib.hid (keep' kx.out hn)
  clear hn
  have L1 := Lib.hid hL; clear hL
  obtain ⟨kx_0, kx_1, kx_2, kx_3, kx_4, kx_5, kx_6, kx_7, kx_8⟩ := blk9 kx.out
  go_wp2_with fail
  refine (fi_n (e := 2) (n := N) (Fires_any A n c l r _ (HT.out _ hb) (H1.out _ hb) m hr) E2.out Nq.out).mono ?_
  rintro e w4 ⟨A3, c3, rfl, hc3, hz3, -, hL, hn⟩
  have hb := Below.go hb hn
  have kx := Lib.hid (keep' kx.out hn)
  have L1 := Lib.hid (Li.go L1.out hn)
  clear hn
  have L3 := Lib.hid hL; clear hL
  go_wp2
  go_ret
  exact ⟨by simp, hb⟩
set_option maxHeartbeats 2000000 in
set_option maxRecDepth 100000 in
theorem fires_main (A : Option Addr) (n c : Nat) (l : Lpm.LL) (r : Rec) (w : World) (ht : Tab w) (h1 : Lp w.heap.size w A n l) (q : Hid (useB n l r = true)) (m : n ≤ 110) (hr : Fit21 r) (M N : Nat) (Mq : Hid ((Rc.dysV r).length = M)) (Nq : Hid ((Rc.fiV l r).length = N)) (E1 : Hid (Rc.dysE r = 0)) (E2 : Hid (Rc.fiE l r = 0)) (HF : Hid (∀ k, k < N → ∃ d t D S, (Rc.fiV l r)[k]?.getD (0, 0) = (d, t) ∧ (Lit.int .i64 d).wf = true ∧ 0 ≤ d ∧ d ≤ 34000 ∧ (∀ j, k = j + 1 → ((Rc.fiV l r)[j]?.getD (0, 0)).2 < t) ∧ -1000000000000 ≤ t ∧ t ≤ 4000000000000000 ∧ Shown r d D S ∧ ∀ W, Lp W.heap.size W A n l → Calls Tryd.prog 25 #[.slice A n c, .int .i64 t] W (RetB (.tuple #[.agg #[.int .i64 D, .int .i64 S, .int .i64 0], .int .i64 0]) W))) (HG : Hid (∀ k, k < M → ∃ (d : Int) (C : Nat) (L : Int), (Rc.dysV r)[k]?.getD 0 = d ∧ (Lit.int .i64 d).wf = true ∧ Lpm.leV l d = L ∧ Lpm.stE l d = 0 ∧ Rc.cnt (Rc.fiV l r) d = C ∧ (Rc.firesOf l r ((Rc.dysV r).take (k + 1))).length = (Rc.firesOf l r ((Rc.dysV r).take k)).length + C ∧ DayWay r L C)) (HE : Hid ((Rc.firesOf l r ((Rc.dysV r).take M)).length = N)) :
    Calls Tryd.prog 9 #[.slice A n c, (.agg #[.int .i64 r.kind, .int .i64 r.every, .int .i64 r.wd, .int .i64 r.nth, .int .i64 r.frm, .int .i64 r.unt, .int .i64 r.sec, .bool r.shift, .bool r.both])] w (LawPost w) := by
  have HT : Hid (∀ W, Below w.heap.size w W → Tab W) := Lib.hid fun W hW => ht.below hW
  have H1 : Hid (∀ W, Below w.heap.size w W → Lp W.heap.size W A n l) := Lib.hid fun W hW => h1.go hW
  have hb := Below.goN (Below.refl w.heap.size w) (.cells #[.int .i64 r.kind, .int .i64 r.every, .int .i64 r.wd, .int .i64 r.nth, .int .i64 r.frm, .int .i64 r.unt, .int .i64 r.sec, .bool r.shift, .bool r.both] 24)
  have kx := Lib.hid (heap_new w (.cells #[.int .i64 r.kind, .int .i64 r.every, .int .i64 r.wd, .int .i64 r.nth, .int .i64 r.frm, .int .i64 r.unt, .int .i64 r.sec, .bool r.shift, .bool r.both] 24))
  clear ht h1
  go_enter Tryd.func9, Tryd.ntmps9
  go_wp2_with fail
  refine (head_any _ (HT.out _ hb)).mono ?_
  rintro e w1 ⟨rfl, hn⟩
  have hb := Below.go hb hn
  have kx := Lib.hid (keep' kx.out hn)
  clear hn
  obtain ⟨kx_0, kx_1, kx_2, kx_3, kx_4, kx_5, kx_6, kx_7, kx_8⟩ := blk9 kx.out
  go_wp2_with fail
  refine (usable_any A n c l r _ (H1.out _ hb)).mono ?_
  rintro e w2 ⟨rfl, hn⟩
  have hb := Below.go hb hn
  have kx := Lib.hid (keep' kx.out hn)
  clear hn
  rw [q.out]
  obtain ⟨kx_0, kx_1, kx_2, kx_3, kx_4, kx_5, kx_6, kx_7, kx_8⟩ := blk9 kx.out
  go_wp2_with fail
  refine (da_n (e := 0) (n := M) (Days_any r _ (HT.out _ hb) hr) E1.out Mq.out).mono ?_
  rintro e w3 ⟨A1, c1, rfl, hL, hn⟩
  have hb := Below.go hb hn
  have kx := Lib.hid (keep' kx.out hn)
  clear hn
  have L1 := Lib.hid hL; clear hL
  obtain ⟨kx_0, kx_1, kx_2, kx_3, kx_4, kx_5, kx_6, kx_7, kx_8⟩ := blk9 kx.out
  go_wp2_with fail
  refine (fi_n (e := 0) (n := N) (Fires_any A n c l r _ (HT.out _ hb) (H1.out _ hb) m hr) E2.out Nq.out).mono ?_
  rintro e w4 ⟨A3, c3, rfl, hc3, hz3, -, hL, hn⟩
  have hb := Below.go hb hn
  have kx := Lib.hid (keep' kx.out hn)
  have L1 := Lib.hid (Li.go L1.out hn)
  clear hn
  have L3 := Lib.hid hL; clear hL
  have hN : N ≤ 1000 := by have := Rc.fiV_len l r; rw [Nq.out] at this; exact this
  have hM : M ≤ 1000 := by have := Rc.dysV_len r; rw [Mq.out] at this; exact this
  have hmade := World.ownsMap_made w4 Tryd.prog 3 (plainElem (H := Unit) Tryd.prog 3)
  have hmm := @run_makeMap Tryd.prog
  clear hc3 hz3
  go_wp2
  clear hmm
  go_loopw [53] (fun i wr => ∃ (k : Nat) (D : DataW Unit), k ≤ N ∧ i = .int .i64 k ∧ Hid (wr.ownsMap Tryd.prog 3 (plainElem Tryd.prog 3) w4.heap.size k D) ∧ Hid (CntOk ((Rc.fiV l r).take k) D) ∧ Below w4.heap.size w4 wr) (fun i _ => N - (intOf i).toNat)
  case atStart => exact ⟨0, _, Nat.zero_le _, rfl, Lib.hid hmade, Lib.hid cnt_nil, Below.goN (Below.refl _ _) _⟩
  case round =>
    obtain ⟨k, D, hk, rfl, hown, hcn, hbr⟩ := hrel
    by_cases hlt : k < N
    · obtain ⟨b, off, rfl, hB, hc⟩ := L3.out.2 (by omega)
      have c0 := (hbr.cell (p := ⟨b, off + k * 2, none⟩) hB).trans (hc k hlt).1
      have c1' := (hbr.cell (p := ⟨b, off + k * 2 + 1, none⟩) hB).trans (hc k hlt).2
      obtain ⟨d, t, D5, S5, hx, hwd, hd0, hd1, hrise, ht0, ht1, hsh, hshow⟩ := HF.out k hlt
      rw [hx] at c0 c1'
      have HSh := Lib.hid hshow
      have HXd := Lib.hid hwd
      have hts := takeL_snoc Nq.out hlt
      rw [hx] at hts
      have hcb : Rc.cnt ((Rc.fiV l r).take k) d ≤ 1000 := Nat.le_trans (List.length_filter_le _ _) (by rw [List.length_take]; omega)
      have hat0 := hcn.out.2 d hwd
      have HC0 := hts ▸ cnt_put hcn.out (d, t) hwd
      simp only at HC0
      generalize Rc.cnt ((Rc.fiV l r).take k) d = C at *
      have HC : Hid (CntOk ((Rc.fiV l r).take (k + 1)) (D.put (.int .i64 d) (.lit (.int .i64 (C + 1))))) := Lib.hid HC0
      have hcw : (Lit.int .i64 ((C : Int) + 1)).wf = true := wf_small (by omega) (by omega)
      have HAt := Lib.hid hat0
      clear hshow hwd HC0 hat0 hts
      have hbx := Below.goN hbr (.cells #[.int .i64 d, .int .i64 t] tF)
      have i0 : (0 : Int) ≤ (k : Int) := by omega
      have i1 : (k : Int) < (N : Int) := by omega
      go_wp2_with fail
      refine (HSh.out _ (H1.out _ (Below.go hb hbx))).mono ?_
      rintro e w5 ⟨rfl, hn5⟩
      have ho5 := Lib.hid (own_map_below (hown.out.alloc (.cells #[.int .i64 d, .int .i64 t] tF)) hn5)
      have kz := Lib.hid (keep' (heap_new wr (.cells #[.int .i64 d, .int .i64 t] tF)) hn5)
      have hb5 := Below.go hbx hn5
      have kx5 := Lib.hid (keep' kx.out hb5)
      have kx5z := lt_of_heap kx5.out
      have kz5z := lt_of_heap kz.out
      obtain ⟨g0, g1, g2, g3, g4, g5, g6, g7, g8⟩ := blk9 kx5.out
      obtain ⟨⟨z0, z1⟩, -⟩ := blk2 kz.out
      clear hn5 hbx c0 c1'
      rcases hsh with ⟨rfl, rfl⟩ | ⟨rfl, rfl, hs1, hs2⟩
      · have hbW := Below.goN hb5 (.cells #[.int .i64 d, .int .i64 r.sec, .int .i64 0] 54)
        obtain ⟨j0, j1, j2, j3, j4, j5, j6, j7, j8⟩ := blk9 (keepN kx5.out (.cells #[.int .i64 d, .int .i64 r.sec, .int .i64 0] 54))
        obtain ⟨⟨y0, y1⟩, -⟩ := blk2 (keepN kz.out (.cells #[.int .i64 d, .int .i64 r.sec, .int .i64 0] 54))
        obtain ⟨⟨v0, v1, v2⟩, -⟩ := blk3 (heap_new w5 (.cells #[.int .i64 d, .int .i64 r.sec, .int .i64 0] 54))
        have hoW := Lib.hid (ho5.out.alloc (.cells #[.int .i64 d, .int .i64 r.sec, .int .i64 0] 54))
        have hdd : (d == d + 1) = false := by rw [beq_eq_false_iff_ne]; omega
        rcases k with _ | j
        · clear hc hrise
          go_wp2
          go_quiet (fail)
          have hbq := below_drewN hbW nq
          have hoq := Lib.hid (own_map_below hoW.out (below_drewN (Below.refl _ _) nq))
          go_wp2_with (first | (at_lookup; refine wpList_lookup_own_int _ rfl _ _ tMI rfl 3 3 .i64 keyedI Tryd.underlying52 Tryd.underlying3 (zeroI _) w4.heap.size _ D rfl hoq.out (.int .i64 d) (.int .i64 d) rfl (keyOf_int_mk Tryd.underlying3 HXd.out) ?_; intro y hat hwy; obtain rfl : y = (C : Int) := lit_int (hat.symm.trans HAt.out); clear hat hwy) | (at_mapUpdate; refine wpList_mapUpdate_own _ rfl _ _ _ tMI rfl 3 3 keyedI Tryd.underlying52 _ w4.heap.size _ D rfl hoq.out (by unfold maxLen; omega) (.int .i64 d) (.int .i64 ((C : Int) + 1)) (.int .i64 d) rfl rfl (keyOf_int_mk Tryd.underlying3 HXd.out) (.lit (.int .i64 ((C : Int) + 1))) [] (plainElem_int Tryd.underlying3 hcw) ?_; intro w9 hown9 hgrow9))
          have hb9 := Below.grown hbq hgrow9 (by have := hbq.size; omega) (fun g e => by cases e; exact Nat.le_refl _)
          have HO9 := Lib.hid hown9
          clear hown9 hgrow9
          go_wp2
          go_roundw
          case rel => exact ⟨1, _, by omega, by go_num, HO9, HC, hb9⟩
          case measure => simp [intOf]; omega
        · have cp := ((Below.goN hb5 (.cells #[.int .i64 d, .int .i64 r.sec, .int .i64 0] 54)).cell (p := ⟨b, off + j * 2 + 1, none⟩) hB).trans (hc j (by omega)).2
          have hp := hrise j rfl
          generalize ((Rc.fiV l r)[j]?.getD (0, 0)).2 = tp at *
          have hp1 : decide (t ≤ tp) = false := decide_eq_false (by omega)
          have i2 : decide ((0 : Int) < ((j + 1 : Nat) : Int)) = true := decide_eq_true (by omega)
          clear hc
          go_wp2
          go_quiet (fail)
          have hbq := below_drewN hbW nq
          have hoq := Lib.hid (own_map_below hoW.out (below_drewN (Below.refl _ _) nq))
          go_wp2_with (first | (at_lookup; refine wpList_lookup_own_int _ rfl _ _ tMI rfl 3 3 .i64 keyedI Tryd.underlying52 Tryd.underlying3 (zeroI _) w4.heap.size _ D rfl hoq.out (.int .i64 d) (.int .i64 d) rfl (keyOf_int_mk Tryd.underlying3 HXd.out) ?_; intro y hat hwy; obtain rfl : y = (C : Int) := lit_int (hat.symm.trans HAt.out); clear hat hwy) | (at_mapUpdate; refine wpList_mapUpdate_own _ rfl _ _ _ tMI rfl 3 3 keyedI Tryd.underlying52 _ w4.heap.size _ D rfl hoq.out (by unfold maxLen; omega) (.int .i64 d) (.int .i64 ((C : Int) + 1)) (.int .i64 d) rfl rfl (keyOf_int_mk Tryd.underlying3 HXd.out) (.lit (.int .i64 ((C : Int) + 1))) [] (plainElem_int Tryd.underlying3 hcw) ?_; intro w9 hown9 hgrow9))
          have hb9 := Below.grown hbq hgrow9 (by have := hbq.size; omega) (fun g e => by cases e; exact Nat.le_refl _)
          have HO9 := Lib.hid hown9
          clear hown9 hgrow9
          go_wp2
          go_roundw
          case rel => exact ⟨j + 2, _, by omega, by go_num, HO9, HC, hb9⟩
          case measure => simp [intOf]; omega
      · have hbW := Below.goN hb5 (.cells #[.int .i64 (d + 1), .int .i64 0, .int .i64 0] 54)
        obtain ⟨j0, j1, j2, j3, j4, j5, j6, j7, j8⟩ := blk9 (keepN kx5.out (.cells #[.int .i64 (d + 1), .int .i64 0, .int .i64 0] 54))
        obtain ⟨⟨y0, y1⟩, -⟩ := blk2 (keepN kz.out (.cells #[.int .i64 (d + 1), .int .i64 0, .int .i64 0] 54))
        obtain ⟨⟨v0, v1, v2⟩, -⟩ := blk3 (heap_new w5 (.cells #[.int .i64 (d + 1), .int .i64 0, .int .i64 0] 54))
        have hoW := Lib.hid (ho5.out.alloc (.cells #[.int .i64 (d + 1), .int .i64 0, .int .i64 0] 54))
        have hdd : (d + 1 == d) = false := by rw [beq_eq_false_iff_ne]; omega
        have hss : (r.sec == 86399) = true := by rw [hs2]; rfl
        rcases k with _ | j
        · clear hc hrise
          go_wp2
          go_quiet (fail)
          have hbq := below_drewN hbW nq
          have hoq := Lib.hid (own_map_below hoW.out (below_drewN (Below.refl _ _) nq))
          go_wp2_with (first | (at_lookup; refine wpList_lookup_own_int _ rfl _ _ tMI rfl 3 3 .i64 keyedI Tryd.underlying52 Tryd.underlying3 (zeroI _) w4.heap.size _ D rfl hoq.out (.int .i64 d) (.int .i64 d) rfl (keyOf_int_mk Tryd.underlying3 HXd.out) ?_; intro y hat hwy; obtain rfl : y = (C : Int) := lit_int (hat.symm.trans HAt.out); clear hat hwy) | (at_mapUpdate; refine wpList_mapUpdate_own _ rfl _ _ _ tMI rfl 3 3 keyedI Tryd.underlying52 _ w4.heap.size _ D rfl hoq.out (by unfold maxLen; omega) (.int .i64 d) (.int .i64 ((C : Int) + 1)) (.int .i64 d) rfl rfl (keyOf_int_mk Tryd.underlying3 HXd.out) (.lit (.int .i64 ((C : Int) + 1))) [] (plainElem_int Tryd.underlying3 hcw) ?_; intro w9 hown9 hgrow9))
          have hb9 := Below.grown hbq hgrow9 (by have := hbq.size; omega) (fun g e => by cases e; exact Nat.le_refl _)
          have HO9 := Lib.hid hown9
          clear hown9 hgrow9
          go_wp2
          simp only [hs1, hs2]
          go_roundw
          case rel => exact ⟨1, _, by omega, by go_num, HO9, HC, hb9⟩
          case measure => simp [intOf]; omega
        · have cp := ((Below.goN hb5 (.cells #[.int .i64 (d + 1), .int .i64 0, .int .i64 0] 54)).cell (p := ⟨b, off + j * 2 + 1, none⟩) hB).trans (hc j (by omega)).2
          have hp := hrise j rfl
          generalize ((Rc.fiV l r)[j]?.getD (0, 0)).2 = tp at *
          have hp1 : decide (t ≤ tp) = false := decide_eq_false (by omega)
          have i2 : decide ((0 : Int) < ((j + 1 : Nat) : Int)) = true := decide_eq_true (by omega)
          clear hc
          go_wp2
          go_quiet (fail)
          have hbq := below_drewN hbW nq
          have hoq := Lib.hid (own_map_below hoW.out (below_drewN (Below.refl _ _) nq))
          go_wp2_with (first | (at_lookup; refine wpList_lookup_own_int _ rfl _ _ tMI rfl 3 3 .i64 keyedI Tryd.underlying52 Tryd.underlying3 (zeroI _) w4.heap.size _ D rfl hoq.out (.int .i64 d) (.int .i64 d) rfl (keyOf_int_mk Tryd.underlying3 HXd.out) ?_; intro y hat hwy; obtain rfl : y = (C : Int) := lit_int (hat.symm.trans HAt.out); clear hat hwy) | (at_mapUpdate; refine wpList_mapUpdate_own _ rfl _ _ _ tMI rfl 3 3 keyedI Tryd.underlying52 _ w4.heap.size _ D rfl hoq.out (by unfold maxLen; omega) (.int .i64 d) (.int .i64 ((C : Int) + 1)) (.int .i64 d) rfl rfl (keyOf_int_mk Tryd.underlying3 HXd.out) (.lit (.int .i64 ((C : Int) + 1))) [] (plainElem_int Tryd.underlying3 hcw) ?_; intro w9 hown9 hgrow9))
          have hb9 := Below.grown hbq hgrow9 (by have := hbq.size; omega) (fun g e => by cases e; exact Nat.le_refl _)
          have HO9 := Lib.hid hown9
          clear hown9 hgrow9
          go_wp2
          simp only [hs1, hs2]
          go_roundw
          case rel => exact ⟨j + 2, _, by omega, by go_num, HO9, HC, hb9⟩
          case measure => simp [intOf]; omega
    · obtain rfl : k = N := by omega
      have HAll := hcn.out.2
      rw [List.take_of_length_le (Nat.le_of_eq Nq.out)] at HAll
      have HAll := Lib.hid HAll
      have HOw := Lib.hid hown.out
      have kxr := Lib.hid (keep' kx.out hbr)
      have L1r := Lib.hid (Li.go L1.out hbr)
      have hbw := Below.go hb hbr
      clear hown hcn
      go_wp2
      go_loopw [16, 118] (fun v i w6 => ∃ k : Nat, k ≤ M ∧ i = .int .i64 k ∧ v = .int .i64 ((Rc.firesOf l r ((Rc.dysV r).take k)).length : Nat) ∧ Below wr.heap.size wr w6) (fun _ i _ => M - (intOf i).toNat)
      case atStart => exact ⟨0, Nat.zero_le _, rfl, by simp [Rc.firesOf], Below.refl _ _⟩
      case round =>
        obtain ⟨k2, hk2, rfl, rfl, hbr2⟩ := hrel
        by_cases hlt2 : k2 < M
        · obtain ⟨b2, off2, rfl, hB2, hc2⟩ := L1r.out.2 (by omega)
          have c2 := (hbr2.cell (p := ⟨b2, off2 + k2, none⟩) hB2).trans (hc2 k2 hlt2)
          obtain ⟨d, C, L, hd, hwd, hle, hst, hct, hsn, hway⟩ := HG.out k2 hlt2
          have hpre : (Rc.firesOf l r ((Rc.dysV r).take k2)).length ≤ 100000 := Nat.le_trans (Rc.firesOf_len _ _ _) (by rw [List.length_take]; omega)
          have hrun0 := HAll.out d hwd
          rw [hct] at hrun0
          rw [hd] at c2
          generalize (Rc.firesOf l r ((Rc.dysV r).take k2)).length = s at *
          have HSN := Lib.hid hsn
          clear hsn
          have HLn := Lib.hid (fun (W : World) (hb : Below w.heap.size w W) => Length_c (day := d) (c := c) (H1.out W hb) (Nat.le_refl _) m (Below.refl W.heap.size W))
          rw [hle, hst] at HLn
          have HKy := Lib.hid (keyOf_int_mk Tryd.underlying3 hwd)
          have HRn := Lib.hid hrun0
          clear hc2 hd hle hst hct hwd hrun0
          have i0 : (0 : Int) ≤ (k2 : Int) := by omega
          have i1 : (k2 : Int) < (M : Int) := by omega
          go_wp2_with fail
          refine (HLn.out _ (Below.go hbw hbr2)).mono ?_
          rintro e w6 ⟨rfl, hn6⟩
          have hb6 := Below.go hbr2 hn6
          have kx6 := Lib.hid (keep' kxr.out hb6)
          obtain ⟨g0, g1, g2, g3, g4, g5, g6, g7, g8⟩ := blk9 kx6.out
          obtain ⟨y, hrun, hat, -⟩ := (own_map_below HOw.out hb6).lookup_int keyedI Tryd.underlying52 Tryd.underlying3 (zeroI _) (key := .int .i64 d) (kl := .int .i64 d) HKy.out
          obtain rfl : y = (C : Int) := lit_int (hat.symm.trans HRn.out)
          clear hn6 c2 hat
          rcases hway with ⟨hs0, rfl⟩ | ⟨hs, rfl, hs1, rfl⟩ | ⟨hs, rfl, hs1, rfl⟩ | ⟨hs, rfl, rfl⟩ | ⟨hs, rfl, hs1, rfl⟩ | ⟨hs, rfl, hs1, rfl⟩
          · go_wp2
            go_roundw
            case rel => exact ⟨k2 + 1, by omega, by go_num, by rw [HSN.out]; go_num, hb6⟩
            case measure => simp [intOf]; omega
          · have hss : (r.sec == 86399) = true := by rw [hs]; rfl
            clear hs
            go_wp2
            simp only [hs1]
            go_roundw
            case rel => exact ⟨k2 + 1, by omega, by go_num, by rw [HSN.out]; go_num, hb6⟩
            case measure => simp [intOf]; omega
          · have hss : (r.sec == 86399) = true := by rw [hs]; rfl
            clear hs
            go_wp2
            simp only [hs1]
            go_roundw
            case rel => exact ⟨k2 + 1, by omega, by go_num, by rw [HSN.out]; go_num, hb6⟩
            case measure => simp [intOf]; omega
          · have hss : (r.sec == 86399) = true := by rw [hs]; rfl
            clear hs
            go_wp2
            go_roundw
            case rel => exact ⟨k2 + 1, by omega, by go_num, by rw [HSN.out]; go_num, hb6⟩
            case measure => simp [intOf]; omega
          · have hss : (r.sec == 86399) = true := by rw [hs]; rfl
            clear hs
            go_wp2
            simp only [hs1]
            go_roundw
            case rel => exact ⟨k2 + 1, by omega, by go_num, by rw [HSN.out]; go_num, hb6⟩
            case measure => simp [intOf]; omega
          · have hss : (r.sec == 86399) = true := by rw [hs]; rfl
            clear hs
            go_wp2
            simp only [hs1]
            go_roundw
            case rel => exact ⟨k2 + 1, by omega, by go_num, by rw [HSN.out]; go_num, hb6⟩
            case measure => simp [intOf]; omega
        · obtain rfl : k2 = M := by omega
          have HEnd := HE.out
          rw [HEnd]
          have hbE := Below.go hbw hbr2
          go_wp2
          go_ret
          exact ⟨by simp, hbE⟩
theorem hf_at (A : Option Addr) (n c : Nat) (l : Lpm.LL) (r : Rec) (hv : Lpm.valid l = true) (hr : Rc.validB r = true) (hd : Rc.dysE r = 0) (he : Rc.fiE l r = 0) (hn : n ≤ 110) (k : Nat) (hk : k < (Rc.fiV l r).length) :
    ∃ d t D S, (Rc.fiV l r)[k]?.getD (0, 0) = (d, t) ∧ (Lit.int .i64 d).wf = true ∧ 0 ≤ d ∧ d ≤ 34000 ∧ (∀ j, k = j + 1 → ((Rc.fiV l r)[j]?.getD (0, 0)).2 < t) ∧ -1000000000000 ≤ t ∧ t ≤ 4000000000000000 ∧ Shown r d D S ∧ ∀ W, Lp W.heap.size W A n l → Calls Tryd.prog 25 #[.slice A n c, .int .i64 t] W (RetB (.tuple #[.agg #[.int .i64 D, .int .i64 S, .int .i64 0], .int .i64 0]) W) := by
  obtain ⟨-, -, -, e, -, -⟩ := Rc.fi_ok he
  have hV := (of_decide_eq_true hr : Rc.Val r)
  have hs : (Rc.days r).Pairwise (· < ·) := Rc.daysTo_sorted _ _
  have hb : ∀ d ∈ Rc.days r, 0 ≤ d ∧ d ≤ 34000 := fun d hd => by
    obtain ⟨a, b, -⟩ := Rc.mem_days.1 hd
    have := hV.2.1
    omega
  have hrise := Rc.firesOf_rise hv hr (Rc.days r) hs hb
  have hm : (Rc.fiV l r)[k] ∈ Rc.fires l r := by rw [← e]; exact List.getElem_mem _
  have hwf := wf_fires _ (List.getElem_mem hk)
  obtain ⟨m1, m2⟩ := Rc.mem_fires.1 hm
  obtain ⟨b0, b1⟩ := hb _ m1
  have bd := Rc.fon_bd hv hr b0 b1 m2
  have s0 := Lpm.start_bd (a := (Rc.fiV l r)[k].1) hv
  have s1 := Lpm.start_bd (a := (Rc.fiV l r)[k].1 + 1) hv
  obtain ⟨D, S, h1, h2⟩ := shown_any A n c l r _ _ hv hr b0 b1 hn m2
  have hsec := hV.2.2.1
  refine ⟨(Rc.fiV l r)[k].1, (Rc.fiV l r)[k].2, D, S, by rw [List.getElem?_eq_getElem hk]; rfl, hwf.1, b0, b1, fun j hj => ?_, by omega, by omega, h1, h2⟩
  subst hj
  rw [List.getElem?_eq_getElem (by omega)]
  have hrise : (Rc.fiV l r).Pairwise fun x y => x.2 < y.2 := by rw [e]; exact hrise
  exact List.pairwise_iff_getElem.1 hrise j (j + 1) (by omega) hk (by omega)
theorem hg_at (l : Lpm.LL) (r : Rec) (hv : Lpm.valid l = true) (hr : Rc.validB r = true) (hd : Rc.dysE r = 0) (he : Rc.fiE l r = 0) (k : Nat) (hk : k < (Rc.dysV r).length) :
    ∃ (d : Int) (C : Nat) (L : Int), (Rc.dysV r)[k]?.getD 0 = d ∧ (Lit.int .i64 d).wf = true ∧ Lpm.leV l d = L ∧ Lpm.stE l d = 0 ∧ Rc.cnt (Rc.fiV l r) d = C ∧ (Rc.firesOf l r ((Rc.dysV r).take (k + 1))).length = (Rc.firesOf l r ((Rc.dysV r).take k)).length + C ∧ DayWay r L C := by
  obtain ⟨-, -, -, e, -, -⟩ := Rc.fi_ok he
  obtain ⟨-, ed⟩ := Rc.dysV_ok hd
  have hV := (of_decide_eq_true hr : Rc.Val r)
  have hs : (Rc.days r).Pairwise (· < ·) := Rc.daysTo_sorted _ _
  have hm : (Rc.dysV r)[k] ∈ Rc.days r := by rw [← ed]; exact List.getElem_mem _
  obtain ⟨a, b, -⟩ := Rc.mem_days.1 hm
  have hF := hV.2.1
  have hD : Lpm.isDay (Rc.dysV r)[k] = true := by unfold Lpm.isDay; simp; omega
  have hg : (Rc.dysV r)[k]?.getD 0 = (Rc.dysV r)[k] := by rw [List.getElem?_eq_getElem hk]; rfl
  refine ⟨(Rc.dysV r)[k], (Rc.fon l r (Rc.dysV r)[k]).length, Rc.lenD l (Rc.dysV r)[k], hg, wf_small (by omega) (by omega), by unfold Lpm.leV Rc.lenD; rw [hv, hD]; rfl, by unfold Lpm.stE; rw [hv, hD]; rfl, ?_, ?_, day_way hv hr⟩
  · rw [e]
    unfold Rc.fires
    rw [Rc.cnt_firesOf l r _ hs, if_pos hm]
  · have hts := takeI_snoc (l := Rc.dysV r) rfl hk
    rw [hts, hg, Rc.firesOf_snoc, List.length_append]
    unfold Rc.fonP
    rw [List.length_map]
theorem he_at (l : Lpm.LL) (r : Rec) (hd : Rc.dysE r = 0) (he : Rc.fiE l r = 0) : (Rc.firesOf l r ((Rc.dysV r).take (Rc.dysV r).length)).length = (Rc.fiV l r).length := by
  obtain ⟨-, -, -, e, -, -⟩ := Rc.fi_ok he
  obtain ⟨-, ed⟩ := Rc.dysV_ok hd
  rw [List.take_length, ed, e]
  rfl
theorem fires_law (v1 : Value) (l : Lpm.LL) (v2 : Value) (r : Rec) (w : World) (i1 : IsTab w v1 l) (i2 : IsRc v2 r) (ht : Tab w) :
    Calls Tryd.prog 9 #[v1, v2] w (LawPost w) := by
  obtain ⟨A, n, c, rfl, -, -, -, h1⟩ := i1
  obtain ⟨rfl, hk⟩ := i2
  cases hu : useB n l r
  · exact fires_unusable A n c l r w ht h1 (Lib.hid hu)
  · have q := Lib.hid hu
    obtain ⟨m, hv, hB, hf⟩ := use_ok hu
    have hr : Fit21 r := ⟨hk, fun _ => hf⟩
    rcases Rc.dys_lim hB with hd | hd
    · rcases Rc.fi_lim hv hB with e | e
      · exact fires_main A n c l r w ht h1 q m hr _ _ (Lib.hid rfl) (Lib.hid rfl) (Lib.hid hd) (Lib.hid e) (Lib.hid (hf_at A n c l r hv hB hd e m)) (Lib.hid (hg_at l r hv hB hd e)) (Lib.hid (he_at l r hd e))
      · exact fires_limit2 A n c l r w ht h1 q m hr _ _ (Lib.hid rfl) (Lib.hid rfl) (Lib.hid hd) (Lib.hid e)
    · exact fires_limit1 A n c l r w ht h1 q m hr _ _ (Lib.hid rfl) (Lib.hid rfl) (Lib.hid hd) (Lib.hid ((Rc.fi_days hv (by omega)).1.trans hd))
end Go.Proofs.YtmicbniipbcapaaDoor
