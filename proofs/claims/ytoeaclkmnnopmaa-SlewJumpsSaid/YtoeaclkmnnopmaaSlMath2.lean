/- Plain facts on what is left. No program in sight. -/
import Derived.Test.YtoeaclkmnnopmaaSlMath
set_option linter.unusedVariables false
namespace Go.Proofs.Ytoeaclkmnnopmaa.Slm
theorem spd_zero {l h : Int} (h1 : 1 ≤ h) (hl : 0 ≤ l) : spd 0 l h = 0 := by
  unfold spd nr9 cut
  rw [if_neg (by omega)]
  have : (2 * (0 * 1000000000) + h) / (2 * h) = 0 := Int.ediv_eq_zero_of_lt (by omega) (by omega)
  rw [this, if_neg (by omega)]
theorem spd_pos {d l h : Int} (h1 : 1 ≤ h) (hl : 0 ≤ l) (hd : 0 ≤ d) : 0 ≤ spd d l h := by
  unfold spd; rw [if_neg (by omega)]; exact cut_nonneg (nr9_nonneg hd h1) hl
theorem spd_neg {d l h : Int} (h1 : 1 ≤ h) (hl : 0 ≤ l) (hd : d ≤ 0) : spd d l h ≤ 0 := by
  by_cases h0 : d = 0
  · subst h0; rw [spd_zero h1 hl]; omega
  · unfold spd; rw [if_pos (by omega)]
    have := cut_nonneg (nr9_nonneg (d := -d) (by omega) h1) hl; omega
/-- what is left after the horizon, where the limit did not cut -/
theorem left_free {d l h : Int} (h1 : 1 ≤ h) (hl : 0 ≤ l) (hr1 : -l < spd d l h) (hr2 : spd d l h < l) :
    -(h / 2000000000 + 1) ≤ d - part h (spd d l h) ∧ d - part h (spd d l h) ≤ h / 2000000000 + 1 := by
  by_cases hd : d < 0
  · have e : spd d l h = -(nr9 (-d) h) := by
      unfold spd at *; rw [if_pos hd] at *; unfold cut at *
      by_cases hc : l < nr9 (-d) h
      · rw [if_pos hc] at hr1; omega
      · rw [if_neg hc]
    have b := nr9_bd (d := -d) h1
    have p := part_rest h (spd d l h)
    rw [e, Int.mul_neg, Int.mul_comm h] at p
    rw [e]
    generalize nr9 (-d) h * h = X at *
    generalize part h (-(nr9 (-d) h)) = P at *
    omega
  · have e : spd d l h = nr9 d h := by
      unfold spd at *; rw [if_neg hd] at *; unfold cut at *
      by_cases hc : l < nr9 d h
      · rw [if_pos hc] at hr2; omega
      · rw [if_neg hc]
    have b := nr9_bd (d := d) h1
    have p := part_rest h (spd d l h)
    rw [e, Int.mul_comm h] at p
    rw [e]
    generalize nr9 d h * h = X at *
    generalize part h (nr9 d h) = P at *
    omega
def abz (n : Int) : Int := if n < 0 then -n else n
/-- what is left after the horizon, whatever the limit -/
theorem left_cut {d l h : Int} (h1 : 1 ≤ h) (hl : 0 ≤ l) : -(abz d + h / 2000000000 + 1) ≤ d - part h (spd d l h) ∧ d - part h (spd d l h) ≤ abz d + h / 2000000000 + 1 := by
  unfold abz
  by_cases hd : d < 0
  · have e : spd d l h = -(cut (nr9 (-d) h) l) := by unfold spd; rw [if_pos hd]
    have b := nr9_bd (d := -d) h1
    have c0 := cut_nonneg (nr9_nonneg (d := -d) (by omega) h1) hl
    have c1 := (cut_le (n := nr9 (-d) h) (l := l)).2
    have p := part_rest h (spd d l h)
    rw [e, Int.mul_neg] at p
    rw [e, if_pos hd]
    generalize cut (nr9 (-d) h) l = c at *
    have m1 := Int.mul_le_mul_of_nonneg_left c1 (show 0 ≤ h by omega)
    have m0 := Int.mul_nonneg (show 0 ≤ h by omega) c0
    rw [Int.mul_comm h (nr9 (-d) h)] at m1
    generalize nr9 (-d) h * h = X at *
    generalize h * c = Y at *
    generalize part h (-c) = P at *
    omega
  · have e : spd d l h = cut (nr9 d h) l := by unfold spd; rw [if_neg hd]
    have b := nr9_bd (d := d) h1
    have c0 := cut_nonneg (nr9_nonneg (d := d) (by omega) h1) hl
    have c1 := (cut_le (n := nr9 d h) (l := l)).2
    have p := part_rest h (spd d l h)
    rw [e] at p
    rw [e, if_neg hd]
    generalize cut (nr9 d h) l = c at *
    have m1 := Int.mul_le_mul_of_nonneg_left c1 (show 0 ≤ h by omega)
    have m0 := Int.mul_nonneg (show 0 ≤ h by omega) c0
    rw [Int.mul_comm h (nr9 d h)] at m1
    generalize nr9 d h * h = X at *
    generalize h * c = Y at *
    generalize part h c = P at *
    omega
theorem lf_off {a s r t want l h : Int} (e : stE a s r t want l h ≠ 0) : lfE a s r t want l h = stE a s r t want l h := by unfold lfE; rw [if_neg e]
theorem lf_ok {a s r t want l h : Int} (e : lfE a s r t want l h = 0) : stE a s r t want l h = 0 ∧ t ≤ 3000000000000000 - h ∧ want ≤ 3000000000000000 - h ∧
    lfV a s r t want l h = (want - shn a s r t) - part h (spd (want - shn a s r t) l h) := by
  have hv : lfV a s r t want l h = want + h - shn t (shn a s r t) (spd (want - shn a s r t) l h) (t + h) := by unfold lfV; rw [if_pos e]
  by_cases h0 : stE a s r t want l h = 0
  · unfold lfE at e; rw [if_pos h0] at e
    by_cases hf : 3000000000000000 - h < t ∨ 3000000000000000 - h < want
    · rw [if_pos hf] at e; omega
    · refine ⟨h0, by omega, by omega, ?_⟩
      rw [hv]; unfold shn; rw [show t + h - t = h by omega]; omega
  · rw [lf_off h0] at e; exact absurd e h0
end Go.Proofs.Ytoeaclkmnnopmaa.Slm
