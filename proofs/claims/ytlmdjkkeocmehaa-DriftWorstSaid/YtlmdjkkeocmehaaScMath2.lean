/- Plain facts on the roundings for the laws of chapter 1. No program in sight. -/
import Derived.Test.YtlmdjkkeocmehaaScMath
set_option linter.unusedVariables false
namespace Go.Proofs.Ytlmdjkkeocmehaa.Scm

theorem rnd_neg {u : Bool} {a : Int} (n d : Int) (h : a < 0) : rnd u a n d = -(who a n d + (if u then 1 else 0)) := by unfold rnd; rw [if_pos h]
theorem rnd_pos {u : Bool} {a : Int} (n d : Int) (h : 0 ≤ a) : rnd u a n d = who a n d + (if u then 1 else 0) := by unfold rnd; rw [if_neg (by omega)]
theorem mag_neg (a : Int) : mag (-a) = mag a := by unfold mag; split <;> split <;> omega
theorem who_neg (a n d : Int) : who (-a) n d = who a n d := by unfold who; rw [mag_neg]
theorem lef_neg (a n d : Int) : lef (-a) n d = lef a n d := by unfold lef; rw [mag_neg]
theorem who_zero (n d : Int) : who 0 n d = 0 := by simp [who, mag]
theorem lef_zero (n d : Int) : lef 0 n d = 0 := by simp [lef, mag]
theorem neg_yes {a : Int} (h : a < 0) : neg a = true := by simp [neg, h]
theorem neg_no {a : Int} (h : 0 ≤ a) : neg a = false := by simp [neg]; omega
theorem upF_yes {a : Int} (n d : Int) (h : a < 0) : upF a n d = decide (0 < lef a n d) := by unfold upF; rw [neg_yes h]; rfl
theorem upF_no {a : Int} (n d : Int) (h : 0 ≤ a) : upF a n d = false := by unfold upF; rw [neg_no h]; rfl
theorem upC_no {a : Int} (n d : Int) (h : a < 0) : upC a n d = false := by unfold upC; rw [neg_yes h]; rfl
theorem upC_yes {a : Int} (n d : Int) (h : 0 ≤ a) : upC a n d = decide (0 < lef a n d) := by unfold upC; rw [neg_no h]; rfl
theorem sC_neg (a n d : Int) : sC (-a) n d = -(sF a n d) := by
  rcases Int.lt_trichotomy a 0 with h | h | h
  · unfold sC sF; rw [rnd_pos _ _ (by omega), rnd_neg _ _ h, upC_yes _ _ (by omega), upF_yes _ _ h, who_neg, lef_neg]; omega
  · subst h; rw [Int.neg_zero]; unfold sC sF; rw [rnd_pos _ _ (by omega), rnd_pos _ _ (by omega), upC_yes _ _ (by omega), upF_no _ _ (by omega), who_zero]; simp [lef_zero]
  · unfold sC sF; rw [rnd_neg _ _ (by omega), rnd_pos _ _ (by omega), upC_no _ _ (by omega), upF_no _ _ (by omega), who_neg]
theorem sF_neg (a n d : Int) : sF (-a) n d = -(sC a n d) := by
  have := sC_neg (-a) n d; rw [Int.neg_neg] at this; omega
theorem upN_neg (a n d : Int) : upN (-a) n d = upN a n d := by unfold upN; rw [lef_neg]
theorem sN_neg (a n d : Int) (hd : 1 ≤ d) : sN (-a) n d = -(sN a n d) := by
  rcases Int.lt_trichotomy a 0 with h | h | h
  · unfold sN; rw [rnd_pos _ _ (by omega), rnd_neg _ _ h, who_neg, upN_neg]; omega
  · subst h; rw [Int.neg_zero]
    have hu : upN 0 n d = false := by unfold upN; rw [lef_zero]; simp; omega
    unfold sN; rw [rnd_pos _ _ (by omega), who_zero, hu]; rfl
  · unfold sN; rw [rnd_neg _ _ (by omega), rnd_pos _ _ (by omega), who_neg, upN_neg]
theorem okB_neg (a n d : Int) : okB (-a) n d = okB a n d := by unfold okB; rw [decide_eq_decide]; omega
theorem isT_neg (v : Int) : isT (-v) = isT v := by unfold isT; rw [decide_eq_decide]; omega
theorem rE_neg (a n d v : Int) : rE (-a) n d (-v) = rE a n d v := by unfold rE; rw [okB_neg, isT_neg]
theorem rV_neg (a n d v : Int) : rV (-a) n d (-v) = -(rV a n d v) := by unfold rV; rw [okB_neg, isT_neg]; split <;> simp
theorem rV_bd (a n d v : Int) : -3000000000000000 ≤ rV a n d v ∧ rV a n d v ≤ 3000000000000000 := by
  unfold rV; split
  · rename_i h; simp only [Bool.and_eq_true] at h; exact isT_bd h.2
  · omega
/-- where the arguments are wrong, or d is, nothing depends on the rounding -/
theorem okB_d {a n d : Int} (h : okB a n d = true) : -3000000000000000 ≤ a ∧ a ≤ 3000000000000000 ∧ 0 ≤ n ∧ n ≤ 2000000000 ∧ 1 ≤ d ∧ d ≤ 2000000000 := of_decide_eq_true h
theorem N_neg (a n d : Int) : rV (-a) n d (sN (-a) n d) = -(rV a n d (sN a n d)) ∧ rE (-a) n d (sN (-a) n d) = rE a n d (sN a n d) := by
  cases h : okB a n d
  · have h' := okB_neg a n d; rw [h] at h'
    rw [(r_no h').1, (r_no h').2, (r_no h).1, (r_no h).2]; simp
  · rw [sN_neg a n d (okB_d h).2.2.2.2.1, rV_neg, rE_neg]; simp

/-! floor and rest -/
theorem sF_rest {a n d : Int} (hd : 1 ≤ d) : 0 ≤ a * n - sF a n d * d ∧ a * n - sF a n d * d < d := by
  have e := Int.mul_ediv_add_emod (mag a * n) d
  have l0 := Int.emod_nonneg (mag a * n) (show d ≠ 0 by omega)
  have l1 := Int.emod_lt_of_pos (mag a * n) (show 0 < d by omega)
  rcases Int.lt_or_le a 0 with h | h
  · have hm : a * n = -(mag a * n) := by unfold mag; rw [if_pos h, Int.neg_mul]; omega
    unfold sF; rw [rnd_neg _ _ h, upF_yes _ _ h, hm]
    unfold who lef
    generalize mag a * n = P at *
    generalize P / d = q at *
    generalize P % d = r at *
    by_cases h0 : 0 < r
    · simp only [h0, decide_true, if_true]
      have : -(q + 1) * d = -(d * q) - d := by rw [Int.neg_mul, Int.add_mul, Int.one_mul, Int.mul_comm q d]; omega
      omega
    · simp only [h0, decide_false, Bool.false_eq_true, if_false, Int.add_zero]
      have : -q * d = -(d * q) := by rw [Int.neg_mul, Int.mul_comm q d]
      omega
  · have hm : a * n = mag a * n := by unfold mag; rw [if_neg (by omega)]
    unfold sF; rw [rnd_pos _ _ h, upF_no _ _ h, hm]
    unfold who
    generalize mag a * n = P at *
    generalize P / d = q at *
    simp only [Bool.false_eq_true, if_false, Int.add_zero]
    rw [Int.mul_comm q d]; omega
end Go.Proofs.Ytlmdjkkeocmehaa.Scm
