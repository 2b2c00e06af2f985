/- Plain facts on output clocks. No program in sight. -/
import Derived.Test.YtoeaclkmnnopmaaScMath5
set_option linter.unusedVariables false
namespace Go.Proofs.Ytoeaclkmnnopmaa.Slm
open Go.Proofs.Ytoeaclkmnnopmaa
/-- n * r / 10^9, rounded down -/
def part (n r : Int) : Int := n * r / 1000000000
def tT (x : Int) : Bool := decide (0 ≤ x ∧ x ≤ 3000000000000000)
def rR (r : Int) : Bool := decide (-100000000 ≤ r ∧ r ≤ 100000000)
def vO (a s r : Int) : Bool := tT a && tT s && rR r
def shn (a s r at' : Int) : Int := s + (at' - a) + part (at' - a) r
def shE (a s r at' : Int) : Int := if vO a s r && tT at' then (if at' < a then 30 else if 3000000000000000 < shn a s r at' then 3 else 0) else 1
def shV (a s r at' : Int) : Int := if shE a s r at' = 0 then shn a s r at' else 0
theorem tT_bd {x : Int} (h : tT x = true) : 0 ≤ x ∧ x ≤ 3000000000000000 := of_decide_eq_true h
theorem tT_no {x : Int} (h : tT x = false) : ¬ (0 ≤ x ∧ x ≤ 3000000000000000) := of_decide_eq_false h
theorem tT_yes {x : Int} (h : 0 ≤ x ∧ x ≤ 3000000000000000) : tT x = true := decide_eq_true h
theorem rR_bd {x : Int} (h : rR x = true) : -100000000 ≤ x ∧ x ≤ 100000000 := of_decide_eq_true h
theorem rR_yes {x : Int} (h : -100000000 ≤ x ∧ x ≤ 100000000) : rR x = true := decide_eq_true h
theorem vO_bd {a s r : Int} (h : vO a s r = true) : (0 ≤ a ∧ a ≤ 3000000000000000) ∧ (0 ≤ s ∧ s ≤ 3000000000000000) ∧ -100000000 ≤ r ∧ r ≤ 100000000 := by
  unfold vO at h; simp only [Bool.and_eq_true] at h; exact ⟨tT_bd h.1.1, tT_bd h.1.2, rR_bd h.2⟩
theorem vO_yes {a s r : Int} (h1 : 0 ≤ a ∧ a ≤ 3000000000000000) (h2 : 0 ≤ s ∧ s ≤ 3000000000000000) (h3 : -100000000 ≤ r ∧ r ≤ 100000000) : vO a s r = true := by
  unfold vO; rw [tT_yes h1, tT_yes h2, rR_yes h3]; rfl

/-! division by 10^9 -/
theorem part_rest (n r : Int) : 0 ≤ n * r - part n r * 1000000000 ∧ n * r - part n r * 1000000000 < 1000000000 := by unfold part; omega
theorem part_zero (r : Int) : part 0 r = 0 := by unfold part; simp
theorem part_zero' (n : Int) : part n 0 = 0 := by unfold part; simp
theorem part_add (m n r : Int) : part (m + n) r = part m r + part n r ∨ part (m + n) r = part m r + part n r + 1 := by
  unfold part; rw [Int.add_mul]; generalize m * r = x; generalize n * r = y; omega
theorem part_mono {n r s : Int} (hn : 0 ≤ n) (h : r ≤ s) : part n r ≤ part n s := by
  have := Int.mul_le_mul_of_nonneg_left h hn
  unfold part; omega
/-- how much a clock goes on: at least nine tenths, at most eleven tenths -/
theorem part_bd {n r : Int} (hn : 0 ≤ n) (h1 : -100000000 ≤ r) (h2 : r ≤ 100000000) : -n ≤ 10 * part n r + 9 ∧ 10 * part n r ≤ n := by
  have a := Int.mul_le_mul_of_nonneg_left h1 hn
  have b := Int.mul_le_mul_of_nonneg_left h2 hn
  unfold part; omega
theorem part_lo {n r : Int} (hn : 0 ≤ n) (h1 : -100000000 ≤ r) (h2 : r ≤ 100000000) : 0 ≤ n + part n r := by
  have := part_bd hn h1 h2; omega
theorem floor_part {n r : Int} : Scm.sF n (1000000000 + r) 1000000000 = n + part n r := by
  rw [(Scm.sF_div (by omega)).1, Int.mul_add, part]; generalize n * r = x; omega

/-! rates -/
/-- d * 10^9 / h, rounded to the nearest integer -/
def nr9 (d h : Int) : Int := (2 * (d * 1000000000) + h) / (2 * h)
def cut (n l : Int) : Int := if l < n then l else n
def spd (d l h : Int) : Int := if d < 0 then -(cut (nr9 (-d) h) l) else cut (nr9 d h) l
theorem nr9_bd {d h : Int} (h1 : 1 ≤ h) : -h ≤ 2 * (d * 1000000000 - nr9 d h * h) ∧ 2 * (d * 1000000000 - nr9 d h * h) ≤ h := by
  unfold nr9
  have e := Int.mul_ediv_add_emod (2 * (d * 1000000000) + h) (2 * h)
  have e0 := Int.emod_nonneg (2 * (d * 1000000000) + h) (show 2 * h ≠ 0 by omega)
  have e1 := Int.emod_lt_of_pos (2 * (d * 1000000000) + h) (show 0 < 2 * h by omega)
  generalize (2 * (d * 1000000000) + h) / (2 * h) = q at *
  rw [Int.mul_assoc, Int.mul_comm h q] at e
  omega
theorem nr9_nonneg {d h : Int} (h0 : 0 ≤ d) (h1 : 1 ≤ h) : 0 ≤ nr9 d h := Int.ediv_nonneg (by omega) (by omega)
theorem cut_le {n l : Int} : cut n l ≤ l ∧ cut n l ≤ n := by unfold cut; split <;> omega
theorem cut_nonneg {n l : Int} (h1 : 0 ≤ n) (h2 : 0 ≤ l) : 0 ≤ cut n l := by unfold cut; split <;> omega
theorem spd_bd {d l h : Int} (h1 : 1 ≤ h) (h2 : 0 ≤ l) : -l ≤ spd d l h ∧ spd d l h ≤ l := by
  unfold spd; split
  · have a := cut_nonneg (nr9_nonneg (d := -d) (h := h) (by omega) h1) h2
    have b := cut_le (n := nr9 (-d) h) (l := l); omega
  · have a := cut_nonneg (nr9_nonneg (d := d) (h := h) (by omega) h1) h2
    have b := cut_le (n := nr9 d h) (l := l); omega
/-- the two steps of the division -/
theorem nr9_steps {d h : Int} (h0 : 0 ≤ d) (h1 : 1 ≤ h) : d * 100000 / h * 10000 + d * 100000 % h * 10000 / h = d * 1000000000 / h ∧ d * 100000 % h * 10000 % h = d * 1000000000 % h := by
  have e := Int.mul_ediv_add_emod (d * 100000) h
  generalize d * 100000 / h = q at *
  generalize d * 100000 % h = r at *
  have : d * 1000000000 = r * 10000 + q * 10000 * h := by
    have : d * 1000000000 = (d * 100000) * 10000 := by omega
    rw [this, ← e, Int.add_mul, Int.mul_assoc, Int.mul_comm h]; omega
  rw [this, Int.add_mul_ediv_right _ _ (by omega), Int.add_mul_emod_self_right]
  exact ⟨by omega, rfl⟩
theorem nr9_eq {d h : Int} (h0 : 0 ≤ d) (h1 : 1 ≤ h) : nr9 d h = if h ≤ 2 * (d * 1000000000 % h) then d * 1000000000 / h + 1 else d * 1000000000 / h := by
  unfold nr9
  have e := Int.mul_ediv_add_emod (d * 1000000000) h
  have e0 := Int.emod_nonneg (d * 1000000000) (show h ≠ 0 by omega)
  have e1 := Int.emod_lt_of_pos (d * 1000000000) (show 0 < h by omega)
  generalize d * 1000000000 / h = q at *
  generalize d * 1000000000 % h = r at *
  have e2 : 2 * (d * 1000000000) + h = (2 * r + h) + q * (2 * h) := by
    rw [← e, Int.mul_comm q, Int.mul_assoc]; omega
  rw [e2, Int.add_mul_ediv_right _ _ (by omega)]
  split
  · have : (2 * r + h) / (2 * h) = 1 := by
      apply Int.le_antisymm
      · have := Int.ediv_lt_of_lt_mul (a := 2 * r + h) (b := 2) (c := 2 * h) (by omega) (by omega); omega
      · exact Int.le_ediv_of_mul_le (by omega) (by omega)
    omega
  · have : (2 * r + h) / (2 * h) = 0 := Int.ediv_eq_zero_of_lt (by omega) (by omega)
    omega
/-- where the difference is not less than the horizon, the limit cuts -/
theorem nr9_far {d h l : Int} (h1 : 1 ≤ h) (hd : h ≤ d) (hl : l ≤ 100000000) : cut (nr9 d h) l = l := by
  have : 1000000000 ≤ nr9 d h := by
    unfold nr9
    refine Int.le_ediv_of_mul_le (by omega) ?_
    omega
  unfold cut; rw [if_pos (by omega)]

/-! steering -/
def stB (a s r at' want l h : Int) : Bool := vO a s r && tT at' && tT want && decide (0 ≤ l) && decide (l ≤ 100000000) && decide (1 ≤ h) && decide (h ≤ 1000000000000)
def stE (a s r at' want l h : Int) : Int := if stB a s r at' want l h then shE a s r at' else 1
def stA (a s r at' want l h : Int) : Int := if stE a s r at' want l h = 0 then at' else 0
def stS (a s r at' want l h : Int) : Int := if stE a s r at' want l h = 0 then shn a s r at' else 0
def stR (a s r at' want l h : Int) : Int := if stE a s r at' want l h = 0 then spd (want - shn a s r at') l h else 0
def lfE (a s r at' want l h : Int) : Int := if stE a s r at' want l h = 0 then (if 3000000000000000 - h < at' ∨ 3000000000000000 - h < want then 3 else shE at' (shn a s r at') (spd (want - shn a s r at') l h) (at' + h)) else stE a s r at' want l h
def lfV (a s r at' want l h : Int) : Int := if lfE a s r at' want l h = 0 then want + h - shn at' (shn a s r at') (spd (want - shn a s r at') l h) (at' + h) else 0
theorem sh_ok {a s r t : Int} (h : shE a s r t = 0) : vO a s r = true ∧ tT t = true ∧ a ≤ t ∧ shn a s r t ≤ 3000000000000000 ∧ shV a s r t = shn a s r t := by
  have hv : shV a s r t = shn a s r t := by unfold shV; rw [if_pos h]
  unfold shE at h
  cases h1 : vO a s r && tT t
  · rw [h1] at h; simp at h
  · rw [h1, if_pos rfl] at h
    by_cases c1 : t < a
    · rw [if_pos c1] at h; omega
    rw [if_neg c1] at h
    by_cases c2 : 3000000000000000 < shn a s r t
    · rw [if_pos c2] at h; omega
    simp only [Bool.and_eq_true] at h1
    exact ⟨h1.1, h1.2, by omega, by omega, hv⟩
theorem sh_yes {a s r t : Int} (h1 : vO a s r = true) (h2 : tT t = true) (h3 : a ≤ t) (h4 : shn a s r t ≤ 3000000000000000) : shE a s r t = 0 ∧ shV a s r t = shn a s r t := by
  have e : shE a s r t = 0 := by unfold shE; rw [h1, h2, Bool.true_and, if_pos rfl, if_neg (by omega), if_neg (by omega)]
  exact ⟨e, by unfold shV; rw [if_pos e]⟩
theorem sh_off {a s r t : Int} (h : shE a s r t ≠ 0) : shV a s r t = 0 := by unfold shV; rw [if_neg h]
theorem sh_three (a s r t : Int) : shE a s r t = 0 ∨ shE a s r t = 1 ∨ shE a s r t = 3 ∨ shE a s r t = 30 := by
  unfold shE; split
  · split
    · omega
    · split <;> omega
  · omega
theorem shn_bd {a s r t : Int} (h1 : vO a s r = true) (h3 : a ≤ t) : s ≤ shn a s r t := by
  obtain ⟨_, _, b⟩ := vO_bd h1
  have := part_lo (n := t - a) (by omega) b.1 b.2
  unfold shn; omega
theorem st_ok {a s r t want l h : Int} (e : stE a s r t want l h = 0) : stB a s r t want l h = true ∧ shE a s r t = 0 ∧ stA a s r t want l h = t ∧ stS a s r t want l h = shn a s r t ∧ stR a s r t want l h = spd (want - shn a s r t) l h := by
  have h1 : stA a s r t want l h = t := by unfold stA; rw [if_pos e]
  have h2 : stS a s r t want l h = shn a s r t := by unfold stS; rw [if_pos e]
  have h3 : stR a s r t want l h = spd (want - shn a s r t) l h := by unfold stR; rw [if_pos e]
  unfold stE at e
  cases hb : stB a s r t want l h
  · rw [hb] at e; simp at e
  · rw [hb, if_pos rfl] at e; exact ⟨rfl, e, h1, h2, h3⟩
theorem st_off {a s r t want l h : Int} (e : stE a s r t want l h ≠ 0) : stA a s r t want l h = 0 ∧ stS a s r t want l h = 0 ∧ stR a s r t want l h = 0 := by
  unfold stA stS stR; simp only [if_neg e]; exact ⟨trivial, trivial, trivial⟩
theorem stB_bd {a s r t want l h : Int} (e : stB a s r t want l h = true) : vO a s r = true ∧ (0 ≤ t ∧ t ≤ 3000000000000000) ∧ (0 ≤ want ∧ want ≤ 3000000000000000) ∧ (0 ≤ l ∧ l ≤ 100000000) ∧ 1 ≤ h ∧ h ≤ 1000000000000 := by
  unfold stB at e; simp only [Bool.and_eq_true, decide_eq_true_eq] at e
  obtain ⟨⟨⟨⟨⟨⟨e1, e2⟩, e3⟩, e4⟩, e5⟩, e6⟩, e7⟩ := e
  exact ⟨e1, tT_bd e2, tT_bd e3, ⟨e4, e5⟩, e6, e7⟩
end Go.Proofs.Ytoeaclkmnnopmaa.Slm
