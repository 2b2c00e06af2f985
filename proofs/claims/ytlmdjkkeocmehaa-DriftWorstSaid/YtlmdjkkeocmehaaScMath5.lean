/- Plain facts on the roundings as floor division. No program in sight. -/
import Derived.Test.YtlmdjkkeocmehaaScMath4
set_option linter.unusedVariables false
namespace Go.Proofs.Ytlmdjkkeocmehaa.Scm
theorem sF_div {a n d : Int} (hd : 1 ≤ d) : sF a n d = a * n / d ∧ a * n - sF a n d * d = a * n % d := by
  have h := sF_rest (a := a) (n := n) hd
  have u := (Int.ediv_emod_unique (a := a * n) (b := d) (q := sF a n d) (r := a * n - sF a n d * d) (by omega)).2 ⟨by rw [Int.mul_comm d]; omega, h.1, h.2⟩
  exact ⟨u.1.symm, u.2.symm⟩
theorem sC_div {a n d : Int} (hd : 1 ≤ d) : sC a n d = if 0 < a * n % d then a * n / d + 1 else a * n / d := by
  have h := sC_eq (a := a) (n := n) hd
  obtain ⟨e1, e2⟩ := sF_div (a := a) (n := n) hd
  rw [e2, e1] at h
  rcases h with ⟨h1, h2⟩ | ⟨h1, h2⟩
  · rw [if_neg (by omega)]; exact h2
  · rw [if_pos h1]; exact h2
theorem sN_exact {a n d : Int} (hn : 0 ≤ n) (hd : 1 ≤ d) : sN a n d = if d < 2 * (a * n % d) ∨ 2 * (a * n % d) = d ∧ 0 ≤ a * n / d then a * n / d + 1 else a * n / d := by
  rw [sN_eq hd]
  have hm := Int.mul_ediv_add_emod (a * n) d
  have h0 := Int.emod_nonneg (a * n) (show d ≠ 0 by omega)
  have h1 := Int.emod_lt_of_pos (a * n) (show 0 < d by omega)
  have hW0 : 0 ≤ a → 0 ≤ a * n / d := fun h => Int.ediv_nonneg (Int.mul_nonneg h hn) (by omega)
  have hP : a < 0 → a * n ≤ 0 := fun h => Int.mul_nonpos_of_nonpos_of_nonneg (by omega) hn
  have hmag : mag a * n = if a < 0 then -(a * n) else a * n := by unfold mag; split; (rw [Int.neg_mul]); rfl
  generalize a * n / d = W at *
  generalize a * n % d = f at *
  generalize a * n = P at *
  have hWn : 0 ≤ W → 0 ≤ d * W := fun h => Int.mul_nonneg (by omega) h
  by_cases ha : a < 0
  · rw [if_pos ha] at hmag ⊢
    rw [hmag]
    have e : 2 * -P + d = (d - 2 * f) + (-W) * (2 * d) := by
      rw [← hm, Int.neg_mul, Int.mul_comm W, Int.mul_assoc]; omega
    rw [e, Int.add_mul_ediv_right _ _ (by omega)]
    have hP0 := hP ha
    by_cases hc : d < 2 * f
    · rw [if_pos (.inl hc)]
      have : (d - 2 * f) / (2 * d) = -1 := by
        apply Int.le_antisymm
        · have := Int.ediv_lt_of_lt_mul (a := d - 2 * f) (b := 0) (c := 2 * d) (by omega) (by omega); omega
        · exact Int.le_ediv_of_mul_le (by omega) (by omega)
      omega
    · rw [if_neg (by rintro (h | ⟨h, h'⟩); exact hc h; have := hWn h'; omega)]
      have : (d - 2 * f) / (2 * d) = 0 := Int.ediv_eq_zero_of_lt (by omega) (by omega)
      omega
  · rw [if_neg ha] at hmag ⊢
    rw [hmag]
    have e : 2 * P + d = (2 * f + d) + W * (2 * d) := by
      rw [← hm, Int.mul_comm W, Int.mul_assoc]; omega
    rw [e, Int.add_mul_ediv_right _ _ (by omega)]
    have := hW0 (by omega)
    by_cases hc : d ≤ 2 * f
    · rw [if_pos (by omega)]
      have : (2 * f + d) / (2 * d) = 1 := by
        apply Int.le_antisymm
        · have := Int.ediv_lt_of_lt_mul (a := 2 * f + d) (b := 2) (c := 2 * d) (by omega) (by omega); omega
        · exact Int.le_ediv_of_mul_le (by omega) (by omega)
      omega
    · rw [if_neg (by omega)]
      have : (2 * f + d) / (2 * d) = 0 := Int.ediv_eq_zero_of_lt (by omega) (by omega)
      omega
theorem tdiv_ways {a d : Int} (hd : 1 ≤ d) : (0 ≤ a.tmod d ∧ a.tdiv d = a / d ∧ a.tmod d = a % d) ∨ (a.tmod d < 0 ∧ a.tdiv d = a / d + 1 ∧ a.tmod d = a % d - d) := by
  have hm := Int.mul_tdiv_add_tmod a d
  have he := Int.mul_ediv_add_emod a d
  have h0 := Int.emod_nonneg a (show d ≠ 0 by omega)
  have h1 := Int.emod_lt_of_pos a (show 0 < d by omega)
  have h2 := Int.tmod_lt_of_pos a (show 0 < d by omega)
  by_cases h : 0 ≤ a.tmod d
  · have u := (Int.ediv_emod_unique (a := a) (b := d) (q := a.tdiv d) (r := a.tmod d) (by omega)).2 ⟨by omega, h, h2⟩
    exact .inl ⟨h, u.1.symm, u.2.symm⟩
  · have h3 : -d < a.tmod d := Int.lt_tmod_of_pos a (by omega)
    have u := (Int.ediv_emod_unique (a := a) (b := d) (q := a.tdiv d - 1) (r := a.tmod d + d) (by omega)).2 ⟨by rw [Int.mul_sub]; omega, by omega, by omega⟩
    exact .inr ⟨by omega, by omega, by omega⟩
theorem split_eq {a n d : Int} (hd : 1 ≤ d) : a * n / d = a / d * n + a % d * n / d ∧ a * n % d = a % d * n % d := by
  have he := Int.mul_ediv_add_emod a d
  have e : a * n = a % d * n + a / d * n * d := by
    have : a * n = (d * (a / d) + a % d) * n := by rw [he]
    rw [this, Int.add_mul, Int.mul_assoc, Int.mul_comm d]; omega
  rw [e, Int.add_mul_ediv_right _ _ (by omega), Int.add_mul_emod_self_right]
  exact ⟨by omega, rfl⟩
/-- the part that is left of a division, times a factor -/
theorem part_bd {R n d : Int} (hd : 1 ≤ d) (hd2 : d ≤ 2000000000) (h0 : 0 ≤ R) (h1 : R < d) (hn : 0 ≤ n) (hn2 : n ≤ 2000000000) : 0 ≤ R * n ∧ R * n ≤ 2000000000 * 2000000000 ∧ 0 ≤ R * n / d ∧ (R * n / d < n ∨ n = 0 ∧ R * n / d = 0) := by
  have a0 : 0 ≤ R * n := Int.mul_nonneg h0 hn
  have a1 : R * n ≤ 2000000000 * 2000000000 := Int.mul_le_mul (by omega) hn2 hn (by omega)
  refine ⟨a0, a1, Int.ediv_nonneg a0 (by omega), ?_⟩
  by_cases hz : n = 0
  · right; subst hz; simp
  · left
    refine Int.ediv_lt_of_lt_mul (by omega) ?_
    rw [Int.mul_comm n]
    exact Int.mul_lt_mul_of_pos_right h1 (by omega)
/-- how far the whole part goes -/
theorem far_bd {Q n : Int} (hn : 1 ≤ n) (h : 3000000000000000 / n < Q) : 3000000000000000 < Q * n := by
  have := Int.lt_ediv_add_one_mul_self 3000000000000000 (show 0 < n by omega)
  have h2 := Int.mul_le_mul_of_nonneg_right (show 3000000000000000 / n + 1 ≤ Q by omega) (show 0 ≤ n by omega)
  omega
theorem near_bd {Q n : Int} (hn : 1 ≤ n) (h : Q ≤ 3000000000000000 / n) : Q * n ≤ 3000000000000000 := by
  have := Int.ediv_mul_le 3000000000000000 (show n ≠ 0 by omega)
  have h2 := Int.mul_le_mul_of_nonneg_right h (show 0 ≤ n by omega)
  omega
/-- where the reference says 'by far', no rounding is a time -/
theorem far_no {a n d v : Int} (hd : 1 ≤ d) (hd2 : d ≤ 2000000000) (hn : 1 ≤ n) (hn2 : n ≤ 2000000000) (hv : v = a * n / d ∨ v = a * n / d + 1) (h : 3000000000000000 / n < a / d ∨ 3000000000000000 / n + 1 < -(a / d)) : isT v = false := by
  have hs := (split_eq (a := a) (n := n) hd).1
  have h0 := Int.emod_nonneg a (show d ≠ 0 by omega)
  have h1 := Int.emod_lt_of_pos a (show 0 < d by omega)
  have hp := part_bd hd hd2 h0 h1 (show 0 ≤ n by omega) hn2
  unfold isT; rw [decide_eq_false_iff_not]
  rcases h with h | h
  · have := far_bd hn h; omega
  · have h3 : 3000000000000000 < (-(a / d) - 1) * n := far_bd hn (by omega)
    rw [Int.sub_mul, Int.neg_mul] at h3; omega
end Go.Proofs.Ytlmdjkkeocmehaa.Scm
