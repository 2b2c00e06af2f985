/- The contracts of drift.Worst and drift.Rate. -/
import Derived.Test.YtlmdjkkeocmehaaDrF
import Derived.Deep.LoopGhost
import Derived.WalkMore
import Derived.Outline
set_option linter.unusedVariables false
namespace Go.Proofs.Ytlmdjkkeocmehaa
open Go.RowKit
abbrev oRg (x y : Int) : Obj := .cells #[.int .i64 x, .int .i64 y] 27
theorem below3 (w : World) (o p q : Obj) : Below w.heap.size w (((w.alloc o).alloc p).alloc q) := (((Below.refl _ _).alloc (Nat.le_refl _) _).alloc (by simp) _).alloc (by simp; omega) _
theorem Below.drewN {B : Nat} {w w' : World} (h : Below B w w') (n : Nat) : Below B w (w'.drewN n) := by
  induction n with
  | zero => exact h
  | succ n ih => rw [← World.drew_drewN]; exact ih.drew
theorem wB_ways {t : Tab.Tb} {x1 x2 y1 y2 : Int} (h : Tab.wB t x1 x2 y1 y2 = false) : Tab.valid t = false ∨ Tab.valid t = true ∧ x2 < x1 ∨ Tab.valid t = true ∧ x1 ≤ x2 ∧ y2 < y1 := by
  unfold Tab.wB at h
  cases h1 : Tab.valid t
  · exact .inl rfl
  by_cases h2 : x1 ≤ x2
  · refine .inr (.inr ⟨rfl, h2, ?_⟩)
    rw [h1, decide_eq_true h2] at h
    simpa using h
  · exact .inr (.inl ⟨rfl, by omega⟩)
theorem ret_two' {a b a' b' : Int} (h1 : a = a') (h2 : b = b') : Ending.returned (.tuple #[.int .i64 a, .int .i64 b]) = .returned (.tuple #[.int .i64 a', .int .i64 b']) := by rw [h1, h2]
theorem Tab.wE_no {t : Tab.Tb} {x1 x2 y1 y2 : Int} (h : Tab.wB t x1 x2 y1 y2 = false) : Tab.wE t x1 x2 y1 y2 = 1 ∧ Tab.wV t x1 x2 y1 y2 = 0 := by unfold Tab.wE Tab.wV; rw [h]; simp
theorem Tab.wE_nn {t : Tab.Tb} {x1 x2 y1 y2 : Int} (h : Tab.wB t x1 x2 y1 y2 = true) (h2 : Tab.wN t x1 y1 = false) : Tab.wE t x1 x2 y1 y2 = 3 ∧ Tab.wV t x1 x2 y1 y2 = 0 := by unfold Tab.wE Tab.wV; rw [h, h2]; simp
theorem Tab.wE_ok {t : Tab.Tb} {x1 x2 y1 y2 : Int} (h : Tab.wB t x1 x2 y1 y2 = true) (h2 : Tab.wN t x1 y1 = true) : Tab.wE t x1 x2 y1 y2 = 0 ∧ Tab.wV t x1 x2 y1 y2 = Tab.out t x2 y2 (Tab.wK t y1) (t.te.length - Tab.wI t x1) (Tab.wI t x1) 0 := by unfold Tab.wE Tab.wV; rw [h, h2]; simp
set_option maxHeartbeats 2000000 in
set_option maxRecDepth 100000 in
theorem Worst_no (v : TabV) (t : Tab.Tb) (x1 x2 y1 y2 : Int) (w : World) (ht : TabIn w v t) (h : Tab.wB t x1 x2 y1 y2 = false) :
    Calls Try.prog 15 #[T3 v, I2 x1 x2, I2 y1 y2] w (RetB (.tuple #[.int .i64 (Tab.wV t x1 x2 y1 y2), .int .i64 (Tab.wE t x1 x2 y1 y2)]) w) := by
  have hb0 := below3 w (oT v) (oRg x1 x2) (oRg y1 y2)
  have HT := Lib.hid (ht.below hb0)
  have k1 := Lib.hid (new31 w (oT v) (oRg x1 x2) (oRg y1 y2))
  have k2 := Lib.hid (new32 w (oT v) (oRg x1 x2) (oRg y1 y2))
  have hz := Lib.hid (Tab.wE_no h)
  have hval := Lib.hid (Valid_any v t _ HT.out)
  clear ht
  obtain ⟨A1, n1, c1, A2, n2, c2, A3, n3, c3⟩ := v
  rcases wB_ways h with h1 | ⟨h1, h2⟩ | ⟨h1, h2, h3⟩
  all_goals
    rw [h1] at hval
    clear h h1
    go_enter Try.func15, Try.ntmps15
    go_wp2_with fail
    go_step3
    go_wp2_with fail
    refine hval.out.mono ?_
    rintro e w1 ⟨rfl, hb1⟩
    obtain ⟨⟨d0, d1⟩, -⟩ := blk2 (keep' k1.out hb1)
    obtain ⟨⟨e0, e1⟩, -⟩ := blk2 (keep' k2.out hb1)
    have hb := Below.go hb0 hb1
    go_wp2
    try rw [Exit.noGoto_ret]
    go_ret2
    exact ⟨ret_two' hz.out.2.symm hz.out.1.symm, hb⟩
theorem band_drewN (A : Option Addr) (n c : Nat) (l : List Int) (x : Int) (w : World) (q : Nat) (hl : Li w.heap.size w A n l) (hn : n ≤ 9223372036854775807) :
    Calls Try.prog 36 #[.slice A n c, .int .i64 x] (w.drewN q) fun e w'' => e = .returned (.int .i64 (Tab.bd l x n)) ∧ ∃ m, w'' = w.drewN m :=
  Calls.quiet_of_same ((band_q A n c l x (w.drewN q) (hl.below (Below.drewN (Below.refl _ _) q)) hn).mono fun _ _ ⟨h1, h2⟩ => ⟨h1, h2.symm⟩)
theorem wB_yes {t : Tab.Tb} {x1 x2 y1 y2 : Int} (h : Tab.wB t x1 x2 y1 y2 = true) : Tab.valid t = true ∧ x1 ≤ x2 ∧ y1 ≤ y2 := by
  unfold Tab.wB at h
  simp only [Bool.and_eq_true, decide_eq_true_eq] at h
  exact ⟨h.1.1, h.1.2, h.2⟩
set_option maxHeartbeats 2000000 in
set_option maxRecDepth 100000 in
theorem Worst_nn (v : TabV) (t : Tab.Tb) (x1 x2 y1 y2 : Int) (w : World) (ht : TabIn w v t) (h : Tab.wB t x1 x2 y1 y2 = true) (hn : Tab.wN t x1 y1 = false) :
    Calls Try.prog 15 #[T3 v, I2 x1 x2, I2 y1 y2] w (RetB (.tuple #[.int .i64 (Tab.wV t x1 x2 y1 y2), .int .i64 (Tab.wE t x1 x2 y1 y2)]) w) := by
  have hb0 := below3 w (oT v) (oRg x1 x2) (oRg y1 y2)
  have HT := Lib.hid (ht.below hb0)
  have k0 := Lib.hid (new30 w (oT v) (oRg x1 x2) (oRg y1 y2))
  have k1 := Lib.hid (new31 w (oT v) (oRg x1 x2) (oRg y1 y2))
  have k2 := Lib.hid (new32 w (oT v) (oRg x1 x2) (oRg y1 y2))
  have hz := Lib.hid (Tab.wE_nn h hn)
  have hval := Lib.hid (Valid_any v t _ HT.out)
  obtain ⟨v1, v2, v3⟩ := wB_yes h
  rw [v1] at hval
  have hw := Tab.wN_ways hn
  rw [ht.l1.1, ht.l2.1] at hw
  have q1 : Hid (∀ W q, Below (((w.alloc (oT v)).alloc (oRg x1 x2)).alloc (oRg y1 y2)).heap.size (((w.alloc (oT v)).alloc (oRg x1 x2)).alloc (oRg y1 y2)) W → Calls Try.prog 36 #[s1 v, .int .i64 x1] (W.drewN q) fun e w'' => e = .returned (.int .i64 (Tab.bd t.te x1 v.n1)) ∧ ∃ m, w'' = W.drewN m) :=
    Lib.hid fun W q hW => band_drewN _ _ _ _ _ W q (HT.out.below hW).l1 HT.out.m1
  have q2 : Hid (∀ W q, Below (((w.alloc (oT v)).alloc (oRg x1 x2)).alloc (oRg y1 y2)).heap.size (((w.alloc (oT v)).alloc (oRg x1 x2)).alloc (oRg y1 y2)) W → Calls Try.prog 36 #[s2 v, .int .i64 y1] (W.drewN q) fun e w'' => e = .returned (.int .i64 (Tab.bd t.ag y1 v.n2)) ∧ ∃ m, w'' = W.drewN m) :=
    Lib.hid fun W q hW => band_drewN _ _ _ _ _ W q (HT.out.below hW).l2 HT.out.m2
  clear ht h hn v1
  obtain ⟨A1, n1, c1, A2, n2, c2, A3, n3, c3⟩ := v
  simp only [] at *
  generalize Tab.bd t.te x1 n1 = I at *
  generalize Tab.bd t.ag y1 n2 = K at *
  rcases hw with h1 | ⟨h1, h2⟩
  all_goals
    go_enter Try.func15, Try.ntmps15
    go_wp2_with fail
    go_step3
    go_wp2_with fail
    refine hval.out.mono ?_
    rintro e w1 ⟨rfl, hb1⟩
    obtain ⟨⟨t0, t1, t2⟩, -⟩ := blk3 (keep' k0.out hb1)
    obtain ⟨⟨d0, d1⟩, -⟩ := blk2 (keep' k1.out hb1)
    obtain ⟨⟨e0, e1⟩, -⟩ := blk2 (keep' k2.out hb1)
    have hb := Below.go hb0 hb1
    go_wp2_with fail
    go_quiet ((go_at_call 36; first | (with_reducible exact q1.out _ _ hb1) | (with_reducible exact q2.out _ _ hb1)))
    go_wp2
    try rw [Exit.noGoto_ret]
    go_ret2
    exact ⟨ret_two' hz.out.2.symm hz.out.1.symm, Below.drewN hb _⟩
end Go.Proofs.Ytlmdjkkeocmehaa
