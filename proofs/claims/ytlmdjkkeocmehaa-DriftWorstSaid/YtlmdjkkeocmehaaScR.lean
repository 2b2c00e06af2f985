/- The contracts of the reference's functions of chapter 1: for all integers they return the plain roundings; nothing that was there has changed. -/
import Derived.Test.YtlmdjkkeocmehaaScD
import Derived.Test.YtlmdjkkeocmehaaScMath5
set_option linter.unusedVariables false
namespace Go.Proofs.Ytlmdjkkeocmehaa
open Go.RowKit
def isFac (v : Int) : Bool := decide (0 ≤ v ∧ v ≤ 2000000000)
theorem isFac_yes {v : Int} (h : 0 ≤ v ∧ v ≤ 2000000000) : isFac v = true := decide_eq_true h
theorem isFac_bd {v : Int} (h : isFac v = true) : 0 ≤ v ∧ v ≤ 2000000000 := of_decide_eq_true h
theorem isFac_no {v : Int} (h : isFac v = false) : ¬ (0 ≤ v ∧ v ≤ 2000000000) := of_decide_eq_false h
theorem isT_nb {v : Int} (h : Scm.isT v = false) : ¬ (-3000000000000000 ≤ v ∧ v ≤ 3000000000000000) := of_decide_eq_false h
theorem rTime_any (v : Int) (w : World) : Calls Try.prog 54 #[.int .i64 v] w (Ret (.bool (Scm.isT v)) w) := by
  go_enter Try.func54, Try.ntmps54
  go_wp2
  all_goals go_ret
  all_goals exact ⟨ret_bool (by rw [Bool.eq_iff_iff]; simp only [Scm.isT, decide_eq_true_eq, Bool.false_eq_true, false_iff]; omega), rfl⟩
theorem rFactor_any (v : Int) (w : World) : Calls Try.prog 55 #[.int .i64 v] w (Ret (.bool (isFac v)) w) := by
  go_enter Try.func55, Try.ntmps55
  go_wp2
  all_goals go_ret
  all_goals exact ⟨ret_bool (by rw [Bool.eq_iff_iff]; simp only [isFac, decide_eq_true_eq, Bool.false_eq_true, false_iff]; omega), rfl⟩
set_option maxHeartbeats 1000000 in
theorem right_any (a n d : Int) (w : World) : Calls Try.prog 49 #[.int .i64 a, .int .i64 n, .int .i64 d] w (Ret (.bool (Scm.okB a n d)) w) := by
  have key : ∀ b : Bool, (b = true ↔ -3000000000000000 ≤ a ∧ a ≤ 3000000000000000 ∧ 0 ≤ n ∧ n ≤ 2000000000 ∧ 1 ≤ d ∧ d ≤ 2000000000) → b = Scm.okB a n d := fun b h => by
    rw [Bool.eq_iff_iff, h]; simp [Scm.okB]
  have Key := Lib.hid key
  clear key
  cases h1 : Scm.isT a
  · have n1 := isT_nb h1
    go_enter Try.func49, Try.ntmps49
    go_wp2_with (first | (go_at_call 54; refine (rTime_any _ _).mono ?_; rintro e w' ⟨rfl, rfl⟩) | (go_at_call 55; refine (rFactor_any _ _).mono ?_; rintro e w' ⟨rfl, rfl⟩))
    go_ret
    exact ⟨ret_bool (Key.out _ (by simp; omega)), rfl⟩
  have b1 := Scm.isT_bd h1
  cases h2 : isFac n
  · have n1 := isFac_no h2
    go_enter Try.func49, Try.ntmps49
    go_wp2_with (first | (go_at_call 54; refine (rTime_any _ _).mono ?_; rintro e w' ⟨rfl, rfl⟩) | (go_at_call 55; refine (rFactor_any _ _).mono ?_; rintro e w' ⟨rfl, rfl⟩))
    go_ret
    exact ⟨ret_bool (Key.out _ (by simp; omega)), rfl⟩
  have b2 := isFac_bd h2
  cases h3 : isFac d
  · have n1 := isFac_no h3
    go_enter Try.func49, Try.ntmps49
    go_wp2_with (first | (go_at_call 54; refine (rTime_any _ _).mono ?_; rintro e w' ⟨rfl, rfl⟩) | (go_at_call 55; refine (rFactor_any _ _).mono ?_; rintro e w' ⟨rfl, rfl⟩))
    go_ret
    exact ⟨ret_bool (Key.out _ (by simp; omega)), rfl⟩
  have b3 := isFac_bd h3
  have K2 : Hid (decide (1 ≤ d) = Scm.okB a n d) := Lib.hid (Key.out _ (by simp; omega))
  go_enter Try.func49, Try.ntmps49
  go_wp2_with (first | (go_at_call 54; refine (rTime_any _ _).mono ?_; rintro e w' ⟨rfl, rfl⟩) | (go_at_call 55; refine (rFactor_any _ _).mono ?_; rintro e w' ⟨rfl, rfl⟩))
  go_ret
  exact ⟨ret_bool K2.out, rfl⟩
theorem ret_three {a b a' b' : Int} {c c' : Bool} (h1 : a = a') (h2 : b = b') (h3 : c = c') : Ending.returned (.tuple #[.int .i64 a, .int .i64 b, .bool c]) = .returned (.tuple #[.int .i64 a', .int .i64 b', .bool c']) := by rw [h1, h2, h3]
set_option maxHeartbeats 1000000 in
theorem split_yes (a n d : Int) (w : World) (a1 : -3000000000000000 ≤ a) (a2 : a ≤ 3000000000000000) (n1 : 0 ≤ n) (n2 : n ≤ 2000000000) (d1 : 1 ≤ d) (d2 : d ≤ 2000000000) (hf : n = 0 ∨ 1 ≤ n ∧ a / d ≤ 3000000000000000 / n ∧ -(a / d) ≤ 3000000000000000 / n + 1) :
    Calls Try.prog 50 #[.int .i64 a, .int .i64 n, .int .i64 d] w (RetB (.tuple #[.int .i64 (a * n / d), .int .i64 (a * n % d), .bool true]) w) := by
  have hw := Scm.tdiv_ways (a := a) d1
  have hs := Lib.hid (Scm.split_eq (a := a) (n := n) d1)
  have h0 := Int.emod_nonneg a (show d ≠ 0 by omega)
  have h1 := Int.emod_lt_of_pos a (show 0 < d by omega)
  have hp := Scm.part_bd d1 d2 h0 h1 n1 n2
  have q1 : -3000000000000000 ≤ a / d := Int.le_ediv_of_mul_le (by omega) (by omega)
  have q2 : a / d ≤ 3000000000000000 := Int.ediv_le_of_le_mul (by omega) (by omega)
  have qn : -3000000000000000 - 2000000000 ≤ a / d * n ∧ a / d * n ≤ 3000000000000000 := by
    rcases hf with h | ⟨h, u1, u2⟩
    · subst h; simp
    · have e1 := Scm.near_bd h u1
      have e2 := Scm.near_bd (Q := -(a / d) - 1) h (by omega)
      rw [Int.sub_mul, Int.neg_mul] at e2; omega
  have k1 : 0 ≤ 3000000000000000 / n := Int.ediv_nonneg (by omega) n1
  have k2 : 3000000000000000 / n ≤ 3000000000000000 := Int.ediv_le_self _ (by omega)
  obtain ⟨K, hK⟩ : ∃ x, 3000000000000000 / n = x := ⟨_, rfl⟩
  rw [hK] at hf k1 k2
  generalize a / d = Q at *
  generalize a % d = R at *
  obtain ⟨RN, hRN⟩ : ∃ x, R * n = x := ⟨_, rfl⟩
  obtain ⟨QN, hQN⟩ : ∃ x, Q * n = x := ⟨_, rfl⟩
  rw [hRN] at hs hp
  rw [hQN] at hs qn
  obtain ⟨p1, p2, p3, p4⟩ := hp
  have hm0 := Int.emod_nonneg RN (show d ≠ 0 by omega)
  have hm1 := Int.emod_lt_of_pos RN (show 0 < d by omega)
  have ht1 : RN.tdiv d = RN / d := Int.tdiv_eq_ediv_of_nonneg p1
  have ht2 : RN.tmod d = RN % d := Int.tmod_eq_emod_of_nonneg p1
  have hdz : (d == 0) = false := by simp; omega
  have dz : ¬ d = 0 := by omega
  obtain ⟨RD, hRD⟩ : ∃ x, RN / d = x := ⟨_, rfl⟩
  obtain ⟨RM, hRM⟩ : ∃ x, RN % d = x := ⟨_, rfl⟩
  rw [hRD] at hs p3 p4
  rw [hRM] at hs hm0 hm1
  have w1 : IntKind.i64.wrap QN = QN := IntWalk.i64_in _ (by omega)
  have w2 : IntKind.i64.wrap RN = RN := IntWalk.i64_in _ (by omega)
  have w3 : IntKind.i64.wrap RD = RD := IntWalk.i64_in _ (by omega)
  have w4 : IntKind.i64.wrap RM = RM := IntWalk.i64_in _ (by omega)
  have w5 : IntKind.i64.wrap (QN + RD) = QN + RD := IntWalk.i64_in _ (by omega)
  rcases hw with ⟨t0, t1, t2⟩ | ⟨t0, t1, t2⟩
  all_goals rcases hf with h | ⟨h, u1, u2⟩
  all_goals try (subst h; clear hK)
  all_goals
    go_enter Try.func50, Try.ntmps50
    go_wp2
    go_quiet (fail)
    go_wp2
    go_ret3
    exact ⟨ret_three hs.out.1.symm hs.out.2.symm rfl, below_drewN (Below.refl _ _) _⟩
set_option maxHeartbeats 1000000 in
theorem split_no (a n d : Int) (w : World) (a1 : -3000000000000000 ≤ a) (a2 : a ≤ 3000000000000000) (n1 : 1 ≤ n) (n2 : n ≤ 2000000000) (d1 : 1 ≤ d) (d2 : d ≤ 2000000000) (hf : 3000000000000000 / n < a / d ∨ 3000000000000000 / n + 1 < -(a / d)) :
    Calls Try.prog 50 #[.int .i64 a, .int .i64 n, .int .i64 d] w (Ret (.tuple #[.int .i64 0, .int .i64 0, .bool false]) w) := by
  have hw := Scm.tdiv_ways (a := a) d1
  have h0 := Int.emod_nonneg a (show d ≠ 0 by omega)
  have h1 := Int.emod_lt_of_pos a (show 0 < d by omega)
  have q1 : -3000000000000000 ≤ a / d := Int.le_ediv_of_mul_le (by omega) (by omega)
  have q2 : a / d ≤ 3000000000000000 := Int.ediv_le_of_le_mul (by omega) (by omega)
  have k1 : 0 ≤ 3000000000000000 / n := Int.ediv_nonneg (by omega) (by omega)
  have k2 : 3000000000000000 / n ≤ 3000000000000000 := Int.ediv_le_self _ (by omega)
  obtain ⟨K, hK⟩ : ∃ x, 3000000000000000 / n = x := ⟨_, rfl⟩
  rw [hK] at hf k1 k2
  generalize a / d = Q at *
  generalize a % d = R at *
  have hdz : (d == 0) = false := by simp; omega
  have dz : ¬ d = 0 := by omega
  have hff : (decide (K < Q) || decide (K + 1 < -Q)) = true := by simpa using hf
  rcases hw with ⟨t0, t1, t2⟩ | ⟨t0, t1, t2⟩
  all_goals
    go_enter Try.func50, Try.ntmps50
    go_wp2
    all_goals go_ret3
    all_goals exact ⟨rfl, rfl⟩
/-- what the reference's 'result' returns -/
def resV (v : Int) (b : Bool) : Int := if b && Scm.isT v then v else 0
def resE (v : Int) (b : Bool) : Int := if b && Scm.isT v then 0 else 3
theorem res_any (v : Int) (b : Bool) (w : World) : Calls Try.prog 51 #[.int .i64 v, .bool b] w (Ret (.tuple #[.int .i64 (resV v b), .int .i64 (resE v b)]) w) := by
  have h1 : ∀ c, Scm.isT v = c → resV v b = (if b && c then v else 0) ∧ resE v b = (if b && c then 0 else 3) := fun c h => by unfold resV resE; rw [h]; exact ⟨rfl, rfl⟩
  cases b
  · have Z := Lib.hid (h1 _ rfl)
    clear h1
    go_enter Try.func51, Try.ntmps51
    go_wp2_with (go_at_call 54; refine (rTime_any _ _).mono ?_; rintro e w' ⟨rfl, rfl⟩)
    go_ret2
    exact ⟨ret_two (by rw [Z.out.1]; rfl) (by rw [Z.out.2]; rfl), rfl⟩
  · cases hT : Scm.isT v
    all_goals
      have Z := Lib.hid (h1 _ hT)
      clear h1
      go_enter Try.func51, Try.ntmps51
      go_wp2_with (go_at_call 54; refine (rTime_any _ _).mono ?_; rintro e w' ⟨rfl, rfl⟩)
      go_ret2
      exact ⟨ret_two (by rw [Z.out.1]; rfl) (by rw [Z.out.2]; rfl), rfl⟩
end Go.Proofs.Ytlmdjkkeocmehaa
