/- Plain facts on the roundings, continued: order, multiples, sums. No program in sight. -/
import Derived.Test.YtlmdjkkeocmehaaScMath2
set_option linter.unusedVariables false
namespace Go.Proofs.Ytlmdjkkeocmehaa.Scm

/-- Ceil is Floor, or one more where something is left -/
theorem sC_eq {a n d : Int} (hd : 1 ≤ d) : (a * n - sF a n d * d = 0 ∧ sC a n d = sF a n d) ∨ (0 < a * n - sF a n d * d ∧ sC a n d = sF a n d + 1) := by
  have hr := sF_rest (a := a) (n := n) hd
  have hc := sF_rest (a := -a) (n := n) hd
  rw [sF_neg, Int.neg_mul] at hc
  generalize hX : sF a n d = X at *
  generalize hY : sC a n d = Y at *
  have e1 : -Y * d = -(Y * d) := Int.neg_mul _ _
  rw [e1] at hc
  have hdiff : Y * d - X * d = (Y - X) * d := (Int.sub_mul _ _ _).symm
  -- 0 <= Yd - an < d, 0 <= an - Xd < d: so 0 <= (Y - X) d < 2 d
  have h0 : 0 ≤ (Y - X) * d := by omega
  have h2 : (Y - X) * d < 2 * d := by omega
  have hk : 0 ≤ Y - X ∧ Y - X ≤ 1 := by
    constructor
    · rcases Int.lt_or_le (Y - X) 0 with h | h
      · have := Int.mul_neg_of_neg_of_pos h (show 0 < d by omega); omega
      · exact h
    · rcases Int.lt_or_le (Y - X) 2 with h | h
      · omega
      · have := Int.mul_le_mul_of_nonneg_right h (show 0 ≤ d by omega); omega
  rcases (show Y - X = 0 ∨ Y - X = 1 by omega) with h | h
  · rw [h] at hdiff; left; omega
  · rw [h] at hdiff; right; omega
/-- Near of the absolute value as one floor -/
def nr (P d : Int) : Int := P / d + (if d ≤ 2 * (P % d) then 1 else 0)
theorem nr_eq {P d : Int} (hd : 1 ≤ d) : nr P d = (2 * P + d) / (2 * d) := by
  have e := Int.mul_ediv_add_emod P d
  have l0 := Int.emod_nonneg P (show d ≠ 0 by omega)
  have l1 := Int.emod_lt_of_pos P (show 0 < d by omega)
  unfold nr
  generalize P / d = q at *
  generalize P % d = r at *
  symm
  by_cases h : d ≤ 2 * r
  · rw [if_pos h]
    refine ((Int.ediv_emod_unique (a := 2 * P + d) (b := 2 * d) (q := q + 1) (r := 2 * r - d) (by omega)).2 ⟨?_, by omega, by omega⟩).1
    have : 2 * d * (q + 1) = 2 * (d * q) + 2 * d := by rw [Int.mul_add, Int.mul_assoc]; omega
    omega
  · rw [if_neg h]
    refine ((Int.ediv_emod_unique (a := 2 * P + d) (b := 2 * d) (q := q + 0) (r := 2 * r + d) (by omega)).2 ⟨?_, by omega, by omega⟩).1
    have : 2 * d * (q + 0) = 2 * (d * q) := by rw [Int.add_zero, Int.mul_assoc]
    omega
theorem sN_eq {a n d : Int} (hd : 1 ≤ d) : sN a n d = if a < 0 then -((2 * (mag a * n) + d) / (2 * d)) else (2 * (mag a * n) + d) / (2 * d) := by
  rw [← nr_eq hd]
  unfold sN rnd nr upN who lef
  simp
theorem div_mono {a b c : Int} (h : a ≤ b) (hc : 0 < c) : a / c ≤ b / c := Int.ediv_le_ediv hc h
theorem sF_mono {a b n d : Int} (hn : 0 ≤ n) (hd : 1 ≤ d) (h : a ≤ b) : sF a n d ≤ sF b n d := by
  have ha := sF_rest (a := a) (n := n) hd
  have hb := sF_rest (a := b) (n := n) hd
  have hm := Int.mul_le_mul_of_nonneg_right h hn
  rcases Int.lt_or_le (sF b n d) (sF a n d) with hc | hc
  · have : (sF b n d + 1) * d ≤ sF a n d * d := Int.mul_le_mul_of_nonneg_right (by omega) (by omega)
    rw [Int.add_mul, Int.one_mul] at this; omega
  · exact hc
theorem sC_mono {a b n d : Int} (hn : 0 ≤ n) (hd : 1 ≤ d) (h : a ≤ b) : sC a n d ≤ sC b n d := by
  have := sF_mono (a := -b) (b := -a) hn hd (by omega)
  rw [sF_neg, sF_neg] at this; omega
theorem nr_nonneg {a n d : Int} (hn : 0 ≤ n) (hd : 1 ≤ d) : 0 ≤ (2 * (mag a * n) + d) / (2 * d) := by
  have hm : 0 ≤ mag a := by unfold mag; split <;> omega
  have := Int.mul_nonneg hm hn
  exact Int.ediv_nonneg (by omega) (by omega)
theorem sN_mono {a b n d : Int} (hn : 0 ≤ n) (hd : 1 ≤ d) (h : a ≤ b) : sN a n d ≤ sN b n d := by
  have p := nr_nonneg (a := a) hn hd
  have q := nr_nonneg (a := b) hn hd
  rw [sN_eq hd, sN_eq hd]
  by_cases ha : a < 0
  · rw [if_pos ha]
    by_cases hb : b < 0
    · rw [if_pos hb]
      have hm : mag b * n ≤ mag a * n := Int.mul_le_mul_of_nonneg_right (by unfold mag; rw [if_pos ha, if_pos hb]; omega) hn
      have := div_mono (a := 2 * (mag b * n) + d) (b := 2 * (mag a * n) + d) (c := 2 * d) (by omega) (by omega)
      omega
    · rw [if_neg hb]; omega
  · rw [if_neg ha, if_neg (by omega)]
    have hm : mag a * n ≤ mag b * n := Int.mul_le_mul_of_nonneg_right (by unfold mag; rw [if_neg ha, if_neg (by omega)]; exact h) hn
    exact div_mono (by omega) (by omega)
/-- Near is Floor or Ceil, the nearer one -/
theorem sN_ways {a n d : Int} (hd : 1 ≤ d) : (sN a n d = sF a n d ∧ 2 * (a * n - sF a n d * d) ≤ d) ∨ (sN a n d = sC a n d ∧ d ≤ 2 * (a * n - sF a n d * d)) := by
  have e := Int.mul_ediv_add_emod (mag a * n) d
  have l0 := Int.emod_nonneg (mag a * n) (show d ≠ 0 by omega)
  have l1 := Int.emod_lt_of_pos (mag a * n) (show 0 < d by omega)
  rcases Int.lt_or_le a 0 with h | h
  · have hm : a * n = -(mag a * n) := by unfold mag; rw [if_pos h, Int.neg_mul]; omega
    unfold sN sF sC
    rw [rnd_neg _ _ h, rnd_neg _ _ h, rnd_neg _ _ h, upF_yes _ _ h, upC_no _ _ h, hm]
    unfold upN who lef
    generalize mag a * n = P at *
    generalize P / d = q at *
    generalize P % d = r at *
    have e1 : -(q + 1) * d = -(d * q) - d := by rw [Int.neg_mul, Int.add_mul, Int.one_mul, Int.mul_comm q d]; omega
    have e2 : -(q + 0) * d = -(d * q) := by rw [Int.add_zero, Int.neg_mul, Int.mul_comm q d]
    by_cases h0 : 0 < r
    · simp only [h0, decide_true, if_true, Bool.false_eq_true, if_false]
      by_cases h1 : d ≤ 2 * r
      · simp only [h1, decide_true, if_true]; left; refine ⟨trivial, ?_⟩; rw [e1]; omega
      · simp only [h1, decide_false, Bool.false_eq_true, if_false]; right; refine ⟨trivial, ?_⟩; rw [e1]; omega
    · have h1 : ¬ d ≤ 2 * r := by omega
      simp only [h0, h1, decide_false, Bool.false_eq_true, if_false]
      left; refine ⟨trivial, ?_⟩; rw [e2]; omega
  · have hm : a * n = mag a * n := by unfold mag; rw [if_neg (by omega)]
    unfold sN sF sC
    rw [rnd_pos _ _ h, rnd_pos _ _ h, rnd_pos _ _ h, upF_no _ _ h, upC_yes _ _ h, hm]
    unfold upN who lef
    generalize mag a * n = P at *
    generalize P / d = q at *
    generalize P % d = r at *
    have e2 : (q + 0) * d = d * q := by rw [Int.add_zero, Int.mul_comm q d]
    simp only [Bool.false_eq_true, if_false]
    by_cases h1 : d ≤ 2 * r
    · have h0 : 0 < r := by omega
      simp only [h0, h1, decide_true, if_true]; right; refine ⟨trivial, ?_⟩; rw [e2]; omega
    · simp only [h1, decide_false, Bool.false_eq_true, if_false]; left; refine ⟨trivial, ?_⟩; rw [e2]; omega
theorem allT3 (a b c : Int) : allT [a, b, c] = (isT a && (isT b && isT c)) := by simp [allT]
theorem su_perm {l m : List Int} (h1 : allT l = allT m) (h2 : tot l = tot m) : suV l = suV m ∧ suE l = suE m := by unfold suV suE; rw [h1, h2]; exact ⟨rfl, rfl⟩
theorem su_cab (a b c : Int) : suV [c, a, b] = suV [a, b, c] ∧ suE [c, a, b] = suE [a, b, c] :=
  su_perm (by rw [allT3, allT3]; cases isT a <;> cases isT b <;> cases isT c <;> rfl) (by simp only [tot]; omega)
theorem su_bac (a b c : Int) : suV [b, a, c] = suV [a, b, c] ∧ suE [b, a, c] = suE [a, b, c] :=
  su_perm (by rw [allT3, allT3]; cases isT a <;> cases isT b <;> cases isT c <;> rfl) (by simp only [tot]; omega)
theorem su_two {a b : Int} (h : suE [a, b] = 0) : suV [a, b] = a + b := by
  unfold suE at h
  cases ha : allT [a, b]
  · rw [ha] at h; simp at h
  · cases ht : isT (tot [a, b])
    · rw [ha, ht] at h; simp at h
    · rw [(su_yes ha ht).1]; simp [tot]
/-- an error that is 0 -/
theorem r_ok {a n d v : Int} (h : rE a n d v = 0) : okB a n d = true ∧ isT v = true ∧ rV a n d v = v := by
  unfold rE at h
  cases ho : okB a n d
  · rw [ho] at h; simp at h
  · cases ht : isT v
    · rw [ho, ht] at h; simp at h
    · exact ⟨rfl, rfl, (r_yes ho ht).1⟩
theorem sF_sum {a b n d : Int} (hd : 1 ≤ d) : sF (a + b) n d = sF a n d + sF b n d ∨ sF (a + b) n d = sF a n d + sF b n d + 1 := by
  have ha := sF_rest (a := a) (n := n) hd
  have hb := sF_rest (a := b) (n := n) hd
  have hc := sF_rest (a := a + b) (n := n) hd
  rw [Int.add_mul] at hc
  generalize sF a n d = X at *
  generalize sF b n d = Y at *
  generalize sF (a + b) n d = Z at *
  have e : (Z - X - Y) * d = Z * d - X * d - Y * d := by rw [Int.sub_mul, Int.sub_mul]
  have h0 : -1 * d < (Z - X - Y) * d := by omega
  have h2 : (Z - X - Y) * d < 2 * d := by omega
  have k0 : -1 < Z - X - Y := Int.lt_of_mul_lt_mul_right h0 (by omega)
  have k2 : Z - X - Y < 2 := Int.lt_of_mul_lt_mul_right h2 (by omega)
  omega
end Go.Proofs.Ytlmdjkkeocmehaa.Scm
