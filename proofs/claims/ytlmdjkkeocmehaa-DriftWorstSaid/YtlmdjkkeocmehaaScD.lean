/- The contracts of Floor, Ceil and Near: for all integers they return the plain roundings; nothing that was there has changed. -/
import Derived.Test.YtlmdjkkeocmehaaScC
set_option linter.unusedVariables false
namespace Go.Proofs.Ytlmdjkkeocmehaa
open Go.RowKit

theorem lef_bd {a n d : Int} (h5 : 1 ≤ d) : 0 ≤ Scm.lef a n d ∧ Scm.lef a n d < d := ⟨Int.emod_nonneg _ (by omega), Int.emod_lt_of_pos _ (by omega)⟩
theorem who_bd {a n d : Int} (h1 : -3000000000000000 ≤ a) (h2 : a ≤ 3000000000000000) (h3 : 0 ≤ n) (h5 : 1 ≤ d) : 0 ≤ Scm.who a n d := Int.ediv_nonneg (Int.mul_nonneg (Scm.mag_bd h1 h2).1 h3) (by omega)
theorem clF (a n d x : Int) (w : World) (h0 : 0 ≤ Scm.lef a n d) : Calls Try.prog 44 #[.agg #[.int .u64 x, .int .u64 (Scm.lef a n d), .int .u64 d, .bool (Scm.neg a)]] w (RetB (.bool (Scm.upF a n d)) w) := by
  have HU : Hid (Scm.upF a n d = (Scm.neg a && decide (0 < Scm.lef a n d))) := Lib.hid rfl
  generalize Scm.lef a n d = y at *
  generalize Scm.neg a = b at *
  cases b
  all_goals
    go_enter Try.func44, Try.ntmps44
    go_wp2
    go_ret
    exact ⟨ret_bool (by rw [HU.out]; simp), (Below.refl _ w).alloc (Nat.le_refl _) _⟩
theorem clC (a n d x : Int) (w : World) (h0 : 0 ≤ Scm.lef a n d) : Calls Try.prog 48 #[.agg #[.int .u64 x, .int .u64 (Scm.lef a n d), .int .u64 d, .bool (Scm.neg a)]] w (RetB (.bool (Scm.upC a n d)) w) := by
  have HU : Hid (Scm.upC a n d = (!Scm.neg a && decide (0 < Scm.lef a n d))) := Lib.hid rfl
  generalize Scm.lef a n d = y at *
  generalize Scm.neg a = b at *
  cases b
  all_goals
    go_enter Try.func48, Try.ntmps48
    go_wp2
    go_ret
    exact ⟨ret_bool (by rw [HU.out]; simp), (Below.refl _ w).alloc (Nat.le_refl _) _⟩
theorem okB_yes {a n d : Int} (h : -3000000000000000 ≤ a ∧ a ≤ 3000000000000000 ∧ 0 ≤ n ∧ n ≤ 2000000000 ∧ 1 ≤ d ∧ d ≤ 2000000000) : Scm.okB a n d = true := by unfold Scm.okB; exact decide_eq_true h
theorem okB_no {a n d : Int} (h : ¬ (-3000000000000000 ≤ a ∧ a ≤ 3000000000000000 ∧ 0 ≤ n ∧ n ≤ 2000000000 ∧ 1 ≤ d ∧ d ≤ 2000000000)) : Scm.okB a n d = false := by unfold Scm.okB; exact decide_eq_false h
theorem isT_yes {v : Int} (h : -3000000000000000 ≤ v ∧ v ≤ 3000000000000000) : Scm.isT v = true := by unfold Scm.isT; exact decide_eq_true h
theorem isT_no {v : Int} (h : ¬ (-3000000000000000 ≤ v ∧ v ≤ 3000000000000000)) : Scm.isT v = false := by unfold Scm.isT; exact decide_eq_false h
/-- how the arguments are wrong -/
theorem wrong_ways {a n d : Int} (h : ¬ (-3000000000000000 ≤ a ∧ a ≤ 3000000000000000 ∧ 0 ≤ n ∧ n ≤ 2000000000 ∧ 1 ≤ d ∧ d ≤ 2000000000)) :
    Scm.isT a = false ∨ (Scm.isT a = true ∧ (n < 0 ∨ (0 ≤ n ∧ 2000000000 < n) ∨ (0 ≤ n ∧ n ≤ 2000000000 ∧ d < 1) ∨ (0 ≤ n ∧ n ≤ 2000000000 ∧ 1 ≤ d ∧ 2000000000 < d))) := by
  by_cases ha : -3000000000000000 ≤ a ∧ a ≤ 3000000000000000
  · right; exact ⟨isT_yes ha, by omega⟩
  · left; exact isT_no ha
theorem cell_new4 (w : World) (a b c d : Value) (t : TypeId) (j : Nat) (v : Value) (hv : (#[a, b, c, d] : Array Value)[j]? = some v) : (w.alloc (.cells #[a, b, c, d] t)).cell? ⟨w.heap.size, j, none⟩ = some v := by
  have aux : ∀ (W : World) (k : Nat), W.heap[k]? = some (.cells #[a, b, c, d] t) → W.cell? ⟨k, j, none⟩ = some v := fun W k h => by simp [World.cell?, h, hv]
  exact aux _ _ (heap_new w _)

set_option maxHeartbeats 1000000 in
theorem scaledFloor (a n d : Int) (w : World) :
    Calls Try.prog 43 #[.int .i64 a, .int .i64 n, .int .i64 d, .func (.func 44) #[] #[]] w (RetB (.tuple #[.int .i64 (Scm.rV a n d (Scm.sF a n d)), .int .i64 (Scm.rE a n d (Scm.sF a n d))]) w) := by
  by_cases hok : -3000000000000000 ≤ a ∧ a ≤ 3000000000000000 ∧ 0 ≤ n ∧ n ≤ 2000000000 ∧ 1 ≤ d ∧ d ≤ 2000000000
  · have hB := okB_yes hok
    obtain ⟨h1, h2, h3, h4, h5, h6⟩ := hok
    have hT := isT_yes ⟨h1, h2⟩
    have hl := lef_bd (a := a) (n := n) h5
    have hw := who_bd h1 h2 h3 h5
    go_enter Try.func43, Try.ntmps43
    go_wp2_with (go_at_call 52; refine (isTime_any _ _).mono ?_; rintro e w' ⟨rfl, rfl⟩)
    refine (divide_any a n d _ h1 h2 h3 h4 h5 h6).mono ?_
    rintro e w1 ⟨hb1, ⟨x, y, hf, rfl⟩ | ⟨hf, rfl⟩⟩
    · have hz := Lib.hid (Scm.r_far hB (Scm.rnd_far (u := Scm.upF a n d) hf.out))
      go_wp2
      go_ret2
      exact ⟨ret_two hz.out.1.symm hz.out.2.symm, by (repeat (with_reducible first | exact hb1 | refine Below.alloc ?_ ?_ _)); all_goals exact hb1.size⟩
    · have hw1 := hf.out
      have hs1 := hb1.size
      have hb2 : Below w.heap.size w (w1.alloc (.cells #[.int .u64 (Scm.who a n d), .int .u64 (Scm.lef a n d), .int .u64 d, .bool (Scm.neg a)] 60)) := hb1.alloc hs1 _
      have c3 := cell_new4 w1 (.int .u64 (Scm.who a n d)) (.int .u64 (Scm.lef a n d)) (.int .u64 d) (.bool (Scm.neg a)) 60 3 _ rfl
      have hs2 : w1.heap.size < (w1.alloc (.cells #[.int .u64 (Scm.who a n d), .int .u64 (Scm.lef a n d), .int .u64 d, .bool (Scm.neg a)] 60)).heap.size := by simp
      have HR : Hid (Scm.sF a n d = if Scm.neg a then -(Scm.who a n d + (if Scm.upF a n d then 1 else 0)) else Scm.who a n d + (if Scm.upF a n d then 1 else 0)) := Lib.hid (by unfold Scm.sF Scm.rnd Scm.neg; simp)
      go_wp2_with fail
      generalize w1.alloc (.cells #[.int .u64 (Scm.who a n d), .int .u64 (Scm.lef a n d), .int .u64 d, .bool (Scm.neg a)] 60) = w2 at *
      refine (clF _ _ _ _ _ (by omega)).mono ?_
      rintro e w3 ⟨rfl, hb3⟩
      have c3' : w3.cell? ⟨w1.heap.size, 3, none⟩ = some (.bool (Scm.neg a)) := (hb3.cell (p := ⟨w1.heap.size, 3, none⟩) hs2).trans c3
      have hb4 := hb2.trans (hb3.mono (by omega))
      clear c3 hb3 hb2 hb1
      generalize Scm.upF a n d = u at *
      generalize Scm.neg a = b at *
      generalize Scm.who a n d = q at *
      cases u <;> cases b
      all_goals
        simp only [if_true, if_false, Bool.false_eq_true, Int.add_zero] at HR
        by_cases ht : -3000000000000000 ≤ Scm.sF a n d ∧ Scm.sF a n d ≤ 3000000000000000
        · have hi := isT_yes ht
          have hz := Lib.hid (Scm.r_yes hB hi)
          rw [HR.out] at hi
          clear ht
          go_wp2_with (go_at_call 52; refine (isTime_any _ _).mono ?_; rintro e w' ⟨rfl, rfl⟩)
          go_ret2
          exact ⟨ret_two (by rw [hz.out.1, HR.out]) hz.out.2.symm, hb4⟩
        · have hi := isT_no ht
          have hz := Lib.hid (Scm.r_far hB hi)
          rw [HR.out] at hi
          clear ht
          go_wp2_with (go_at_call 52; refine (isTime_any _ _).mono ?_; rintro e w' ⟨rfl, rfl⟩)
          go_ret2
          exact ⟨ret_two hz.out.1.symm hz.out.2.symm, hb4⟩
  · have hz := Lib.hid (Scm.r_no (v := Scm.sF a n d) (okB_no hok))
    rcases wrong_ways hok with hT | ⟨hT, h | ⟨h, h'⟩ | ⟨h, h', h2⟩ | ⟨h, h', h2, h3⟩⟩
    all_goals
      go_enter Try.func43, Try.ntmps43
      go_wp2_with (go_at_call 52; refine (isTime_any _ _).mono ?_; rintro e w' ⟨rfl, rfl⟩)
      go_ret2
      exact ⟨ret_two hz.out.1.symm hz.out.2.symm, Below.refl _ _⟩
set_option maxHeartbeats 400000 in
theorem Floor_any (a n d : Int) (w : World) :
    Calls Try.prog 26 #[.int .i64 a, .int .i64 n, .int .i64 d] w (RetB (.tuple #[.int .i64 (Scm.rV a n d (Scm.sF a n d)), .int .i64 (Scm.rE a n d (Scm.sF a n d))]) w) := by
  go_enter Try.func26, Try.ntmps26
  go_wp2_with (go_at_call 43; refine (scaledFloor _ _ _ _).mono ?_; rintro e w' ⟨rfl, hb⟩)
  go_ret2
  exact ⟨rfl, hb⟩
theorem Floor_c {a n d : Int} {w0 w : World} (hb : Below w0.heap.size w0 w) :
    Calls Try.prog 26 #[.int .i64 a, .int .i64 n, .int .i64 d] w (RetB (.tuple #[.int .i64 (Scm.rV a n d (Scm.sF a n d)), .int .i64 (Scm.rE a n d (Scm.sF a n d))]) w0) := chain hb (Floor_any a n d w)

set_option maxHeartbeats 1000000 in
theorem scaledCeil (a n d : Int) (w : World) :
    Calls Try.prog 43 #[.int .i64 a, .int .i64 n, .int .i64 d, .func (.func 48) #[] #[]] w (RetB (.tuple #[.int .i64 (Scm.rV a n d (Scm.sC a n d)), .int .i64 (Scm.rE a n d (Scm.sC a n d))]) w) := by
  by_cases hok : -3000000000000000 ≤ a ∧ a ≤ 3000000000000000 ∧ 0 ≤ n ∧ n ≤ 2000000000 ∧ 1 ≤ d ∧ d ≤ 2000000000
  · have hB := okB_yes hok
    obtain ⟨h1, h2, h3, h4, h5, h6⟩ := hok
    have hT := isT_yes ⟨h1, h2⟩
    have hl := lef_bd (a := a) (n := n) h5
    have hw := who_bd h1 h2 h3 h5
    go_enter Try.func43, Try.ntmps43
    go_wp2_with (go_at_call 52; refine (isTime_any _ _).mono ?_; rintro e w' ⟨rfl, rfl⟩)
    refine (divide_any a n d _ h1 h2 h3 h4 h5 h6).mono ?_
    rintro e w1 ⟨hb1, ⟨x, y, hf, rfl⟩ | ⟨hf, rfl⟩⟩
    · have hz := Lib.hid (Scm.r_far hB (Scm.rnd_far (u := Scm.upC a n d) hf.out))
      go_wp2
      go_ret2
      exact ⟨ret_two hz.out.1.symm hz.out.2.symm, by (repeat (with_reducible first | exact hb1 | refine Below.alloc ?_ ?_ _)); all_goals exact hb1.size⟩
    · have hw1 := hf.out
      have hs1 := hb1.size
      have hb2 : Below w.heap.size w (w1.alloc (.cells #[.int .u64 (Scm.who a n d), .int .u64 (Scm.lef a n d), .int .u64 d, .bool (Scm.neg a)] 60)) := hb1.alloc hs1 _
      have c3 := cell_new4 w1 (.int .u64 (Scm.who a n d)) (.int .u64 (Scm.lef a n d)) (.int .u64 d) (.bool (Scm.neg a)) 60 3 _ rfl
      have hs2 : w1.heap.size < (w1.alloc (.cells #[.int .u64 (Scm.who a n d), .int .u64 (Scm.lef a n d), .int .u64 d, .bool (Scm.neg a)] 60)).heap.size := by simp
      have HR : Hid (Scm.sC a n d = if Scm.neg a then -(Scm.who a n d + (if Scm.upC a n d then 1 else 0)) else Scm.who a n d + (if Scm.upC a n d then 1 else 0)) := Lib.hid (by unfold Scm.sC Scm.rnd Scm.neg; simp)
      go_wp2_with fail
      generalize w1.alloc (.cells #[.int .u64 (Scm.who a n d), .int .u64 (Scm.lef a n d), .int .u64 d, .bool (Scm.neg a)] 60) = w2 at *
      refine (clC _ _ _ _ _ (by omega)).mono ?_
      rintro e w3 ⟨rfl, hb3⟩
      have c3' : w3.cell? ⟨w1.heap.size, 3, none⟩ = some (.bool (Scm.neg a)) := (hb3.cell (p := ⟨w1.heap.size, 3, none⟩) hs2).trans c3
      have hb4 := hb2.trans (hb3.mono (by omega))
      clear c3 hb3 hb2 hb1
      generalize Scm.upC a n d = u at *
      generalize Scm.neg a = b at *
      generalize Scm.who a n d = q at *
      cases u <;> cases b
      all_goals
        simp only [if_true, if_false, Bool.false_eq_true, Int.add_zero] at HR
        by_cases ht : -3000000000000000 ≤ Scm.sC a n d ∧ Scm.sC a n d ≤ 3000000000000000
        · have hi := isT_yes ht
          have hz := Lib.hid (Scm.r_yes hB hi)
          rw [HR.out] at hi
          clear ht
          go_wp2_with (go_at_call 52; refine (isTime_any _ _).mono ?_; rintro e w' ⟨rfl, rfl⟩)
          go_ret2
          exact ⟨ret_two (by rw [hz.out.1, HR.out]) hz.out.2.symm, hb4⟩
        · have hi := isT_no ht
          have hz := Lib.hid (Scm.r_far hB hi)
          rw [HR.out] at hi
          clear ht
          go_wp2_with (go_at_call 52; refine (isTime_any _ _).mono ?_; rintro e w' ⟨rfl, rfl⟩)
          go_ret2
          exact ⟨ret_two hz.out.1.symm hz.out.2.symm, hb4⟩
  · have hz := Lib.hid (Scm.r_no (v := Scm.sC a n d) (okB_no hok))
    rcases wrong_ways hok with hT | ⟨hT, h | ⟨h, h'⟩ | ⟨h, h', h2⟩ | ⟨h, h', h2, h3⟩⟩
    all_goals
      go_enter Try.func43, Try.ntmps43
      go_wp2_with (go_at_call 52; refine (isTime_any _ _).mono ?_; rintro e w' ⟨rfl, rfl⟩)
      go_ret2
      exact ⟨ret_two hz.out.1.symm hz.out.2.symm, Below.refl _ _⟩
set_option maxHeartbeats 400000 in
theorem Ceil_any (a n d : Int) (w : World) :
    Calls Try.prog 38 #[.int .i64 a, .int .i64 n, .int .i64 d] w (RetB (.tuple #[.int .i64 (Scm.rV a n d (Scm.sC a n d)), .int .i64 (Scm.rE a n d (Scm.sC a n d))]) w) := by
  go_enter Try.func38, Try.ntmps38
  go_wp2_with (go_at_call 43; refine (scaledCeil _ _ _ _).mono ?_; rintro e w' ⟨rfl, hb⟩)
  go_ret2
  exact ⟨rfl, hb⟩
theorem Ceil_c {a n d : Int} {w0 w : World} (hb : Below w0.heap.size w0 w) :
    Calls Try.prog 38 #[.int .i64 a, .int .i64 n, .int .i64 d] w (RetB (.tuple #[.int .i64 (Scm.rV a n d (Scm.sC a n d)), .int .i64 (Scm.rE a n d (Scm.sC a n d))]) w0) := chain hb (Ceil_any a n d w)

end Go.Proofs.Ytlmdjkkeocmehaa
