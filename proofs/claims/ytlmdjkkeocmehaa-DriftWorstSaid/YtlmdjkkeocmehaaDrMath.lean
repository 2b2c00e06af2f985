/- Plain facts on how much true time goes by while a counter counts. No program in sight. -/
import Derived.Test.YtlmdjkkeocmehaaScMath5
set_option linter.unusedVariables false
namespace Go.Proofs.Ytlmdjkkeocmehaa.Drm
open Go.Proofs.Ytlmdjkkeocmehaa
def rB (r : Int) : Bool := decide (0 ≤ r ∧ r ≤ 1000000)
def sB (n : Int) : Bool := decide (0 ≤ n ∧ n ≤ 1000000000000000)
theorem rB_bd {r : Int} (h : rB r = true) : 0 ≤ r ∧ r ≤ 1000000 := of_decide_eq_true h
theorem rB_no {r : Int} (h : rB r = false) : ¬ (0 ≤ r ∧ r ≤ 1000000) := of_decide_eq_false h
theorem rB_yes {r : Int} (h : 0 ≤ r ∧ r ≤ 1000000) : rB r = true := decide_eq_true h
theorem sB_bd {r : Int} (h : sB r = true) : 0 ≤ r ∧ r ≤ 1000000000000000 := of_decide_eq_true h
theorem sB_no {r : Int} (h : sB r = false) : ¬ (0 ≤ r ∧ r ≤ 1000000000000000) := of_decide_eq_false h
theorem sB_yes {r : Int} (h : 0 ≤ r ∧ r ≤ 1000000000000000) : sB r = true := decide_eq_true h
/-- the ends of both ranges -/
def elLo (r n : Int) : Int := (n - 1) * 1000000000 / (1000000000 + r) + 1
def elHi (r n : Int) : Int := ((n + 1) * 1000000000 - 1) / (1000000000 - r)
def coLo (r e : Int) : Int := e * (1000000000 - r) / 1000000000
def coHi (r e : Int) : Int := (e * (1000000000 + r) + 999999999) / 1000000000
/-- how far a counter can have counted -/
def can (r e n : Int) : Prop := (n - 1) * 1000000000 < e * (1000000000 + r) ∧ e * (1000000000 - r) < (n + 1) * 1000000000
theorem sC_up {a n d : Int} (hd : 1 ≤ d) : Scm.sC a n d = (a * n + (d - 1)) / d := by
  rw [Scm.sC_div hd]
  have e := Int.mul_ediv_add_emod (a * n) d
  have e0 := Int.emod_nonneg (a * n) (show d ≠ 0 by omega)
  have e1 := Int.emod_lt_of_pos (a * n) (show 0 < d by omega)
  generalize a * n / d = q at *
  generalize a * n % d = r at *
  rw [← e, show d * q + r + (d - 1) = (r + (d - 1)) + q * d by rw [Int.mul_comm]; omega, Int.add_mul_ediv_right _ _ (by omega)]
  split
  · have : (r + (d - 1)) / d = 1 := by
      apply Int.le_antisymm
      · have := Int.ediv_lt_of_lt_mul (a := r + (d - 1)) (b := 2) (c := d) (by omega) (by omega); omega
      · exact Int.le_ediv_of_mul_le (by omega) (by omega)
    omega
  · have : (r + (d - 1)) / d = 0 := Int.ediv_eq_zero_of_lt (by omega) (by omega)
    omega
theorem el_lo {r n : Int} (h : 0 ≤ r) : Scm.sF (n - 1) 1000000000 (1000000000 + r) + 1 = elLo r n := by unfold elLo; rw [(Scm.sF_div (by omega)).1]
theorem el_hi {r n : Int} (h : 0 ≤ r) (h2 : r ≤ 1000000) : Scm.sC (n + 1) 1000000000 (1000000000 - r) - 1 = elHi r n := by
  unfold elHi; rw [sC_up (by omega)]
  rw [show (n + 1) * 1000000000 + (1000000000 - r - 1) = ((n + 1) * 1000000000 - 1) + 1 * (1000000000 - r) by omega, Int.add_mul_ediv_right _ _ (by omega)]; omega
theorem co_lo {r e : Int} : Scm.sF e (1000000000 - r) 1000000000 = coLo r e := by unfold coLo; rw [(Scm.sF_div (by omega)).1]
theorem co_hi {r e : Int} : Scm.sC e (1000000000 + r) 1000000000 = coHi r e := by unfold coHi; rw [sC_up (by omega)]; rfl
/-- exactly those that can be -/
theorem lo_iff {r n e : Int} (h : 0 ≤ r) : elLo r n ≤ e ↔ (n - 1) * 1000000000 < e * (1000000000 + r) := by
  unfold elLo
  rw [show (n - 1) * 1000000000 / (1000000000 + r) + 1 ≤ e ↔ (n - 1) * 1000000000 / (1000000000 + r) < e by omega]
  exact Int.ediv_lt_iff_lt_mul (by omega)
theorem hi_iff {r n e : Int} (h : r ≤ 1000000) : e ≤ elHi r n ↔ e * (1000000000 - r) < (n + 1) * 1000000000 := by
  unfold elHi; rw [Int.le_ediv_iff_mul_le (by omega)]; omega
theorem colo_iff {r n e : Int} : coLo r e ≤ n ↔ e * (1000000000 - r) < (n + 1) * 1000000000 := by
  unfold coLo; generalize e * (1000000000 - r) = x; omega
theorem cohi_iff {r n e : Int} : n ≤ coHi r e ↔ (n - 1) * 1000000000 < e * (1000000000 + r) := by
  unfold coHi; generalize e * (1000000000 + r) = x; omega
theorem el_bd {r n : Int} (r1 : 0 ≤ r) (r2 : r ≤ 1000000) (n1 : 0 ≤ n) : 0 ≤ elLo r n ∧ elLo r n ≤ n ∧ n ≤ elHi r n ∧ elHi r n ≤ n + n / 900 + 1 := by
  have m1 := Int.mul_nonneg n1 r1
  refine ⟨?_, ?_, ?_, ?_⟩
  · rcases Int.lt_or_le (elLo r n) 0 with h | h
    · have := (lo_iff (n := n) (e := -1) r1).1 (by omega); omega
    · exact h
  · refine (lo_iff r1).2 ?_
    rw [Int.mul_add]; omega
  · refine (hi_iff r2).2 ?_
    rw [Int.mul_sub]; omega
  · rcases Int.lt_or_le (n + n / 900 + 1) (elHi r n) with h | h
    · have h2 := (hi_iff (n := n) (e := n + n / 900 + 2) r2).1 (by omega)
      have m2 := Int.mul_le_mul_of_nonneg_left r2 (show 0 ≤ n + n / 900 + 2 by omega)
      rw [Int.mul_sub] at h2
      omega
    · exact h
theorem co_bd {r e : Int} (r1 : 0 ≤ r) (r2 : r ≤ 1000000) (e1 : 0 ≤ e) : 0 ≤ coLo r e ∧ coLo r e ≤ e ∧ e ≤ coHi r e ∧ coHi r e ≤ e + e / 1000 + 1 := by
  have m1 := Int.mul_nonneg e1 r1
  have m2 := Int.mul_le_mul_of_nonneg_left r2 e1
  unfold coLo coHi
  rw [Int.mul_sub, Int.mul_add]
  generalize e * r = x at *
  omega
/-- a greater bound: wider ranges -/
theorem elLo_mono {r s n : Int} (h : 0 ≤ r) (hs : r ≤ s) (n1 : 0 ≤ n) : elLo s n ≤ elLo r n := by
  have h0 : 0 ≤ elLo r n := by
    rcases Int.lt_or_le (elLo r n) 0 with h' | h'
    · have := (lo_iff (n := n) (e := -1) h).1 (by omega); omega
    · exact h'
  have h1 := (lo_iff (n := n) h).1 (Int.le_refl _)
  refine (lo_iff (by omega)).2 ?_
  have := Int.mul_le_mul_of_nonneg_left hs h0
  rw [Int.mul_add] at *; omega
theorem elHi_mono {r s n : Int} (h : 0 ≤ r) (hs : r ≤ s) (hs2 : s ≤ 1000000) (n1 : 0 ≤ n) : elHi r n ≤ elHi s n := by
  have h0 := (el_bd h (by omega) n1).2.2.1
  have h1 := (hi_iff (n := n) (show r ≤ 1000000 by omega)).1 (Int.le_refl _)
  refine (hi_iff hs2).2 ?_
  have := Int.mul_le_mul_of_nonneg_left hs (show 0 ≤ elHi r n by omega)
  rw [Int.mul_sub] at *; omega
theorem el_zero {n : Int} : elLo 0 n = n ∧ elHi 0 n = n := by unfold elLo elHi; omega
theorem co_zero {n : Int} : coLo 0 n = n ∧ coHi 0 n = n := by unfold coLo coHi; omega
/-- two steps -/
theorem elHi_add {r m n : Int} (r1 : 0 ≤ r) (r2 : r ≤ 1000000) : elHi r (m + n) ≤ elHi r m + elHi r n := by
  rcases Int.lt_or_le (elHi r m + elHi r n) (elHi r (m + n)) with h | h
  · have h1 : ¬ (elHi r m + 1 ≤ elHi r m) := by omega
    have h2 : ¬ (elHi r n + 1 ≤ elHi r n) := by omega
    rw [hi_iff r2] at h1 h2
    have h3 := (hi_iff (n := m + n) (e := elHi r m + elHi r n + 1) r2).1 (by omega)
    rw [show elHi r m + elHi r n + 1 = (elHi r m + 1) + (elHi r n + 1) - 1 by omega, Int.sub_mul, Int.add_mul] at h3
    generalize (elHi r m + 1) * (1000000000 - r) = x at *
    generalize (elHi r n + 1) * (1000000000 - r) = y at *
    omega
  · exact h
theorem elLo_up {r m n : Int} (r1 : 0 ≤ r) (hm : m ≤ n) : elLo r m ≤ elLo r n := by
  have h1 := (lo_iff (n := n) r1).1 (Int.le_refl _)
  exact (lo_iff r1).2 (by omega)
theorem elHi_up {r m n : Int} (r2 : r ≤ 1000000) (hm : m ≤ n) : elHi r m ≤ elHi r n := by
  have h1 := (hi_iff (n := m) r2).1 (Int.le_refl _)
  exact (hi_iff r2).2 (by omega)
theorem coLo_mono {r s e : Int} (h : r ≤ s) (e0 : 0 ≤ e) : coLo s e ≤ coLo r e := by
  have := Int.mul_le_mul_of_nonneg_left h e0
  unfold coLo; rw [Int.mul_sub, Int.mul_sub]; omega
theorem coHi_mono {r s e : Int} (h : r ≤ s) (e0 : 0 ≤ e) : coHi r e ≤ coHi s e := by
  have := Int.mul_le_mul_of_nonneg_left h e0
  unfold coHi; rw [Int.mul_add, Int.mul_add]; omega
theorem coLo_up {r d e : Int} (h : r ≤ 1000000) (hd : d ≤ e) : coLo r d ≤ coLo r e := by
  have := Int.mul_le_mul_of_nonneg_right hd (show 0 ≤ 1000000000 - r by omega)
  unfold coLo; omega
theorem coHi_up {r d e : Int} (h : 0 ≤ r) (hd : d ≤ e) : coHi r d ≤ coHi r e := by
  have := Int.mul_le_mul_of_nonneg_right hd (show 0 ≤ 1000000000 + r by omega)
  unfold coHi; omega
def canB (r e n : Int) : Bool := decide ((n - 1) * 1000000000 < e * (1000000000 + r)) && decide (e * (1000000000 - r) < (n + 1) * 1000000000)
/-- the results of the two functions -/
def okE (r n : Int) : Bool := rB r && sB n
def eE (r n : Int) : Int := if okE r n then 0 else 1
def eLo (r n : Int) : Int := if okE r n then elLo r n else 0
def eHi (r n : Int) : Int := if okE r n then elHi r n else 0
def cLo (r n : Int) : Int := if okE r n then coLo r n else 0
def cHi (r n : Int) : Int := if okE r n then coHi r n else 0
theorem okE_no {r n : Int} (h : okE r n = false) : eE r n = 1 ∧ eLo r n = 0 ∧ eHi r n = 0 ∧ cLo r n = 0 ∧ cHi r n = 0 := by unfold eE eLo eHi cLo cHi; rw [h]; simp
theorem okE_yes {r n : Int} (h : okE r n = true) : eE r n = 0 ∧ eLo r n = elLo r n ∧ eHi r n = elHi r n ∧ cLo r n = coLo r n ∧ cHi r n = coHi r n := by unfold eE eLo eHi cLo cHi; rw [h]; simp
theorem okE_bd {r n : Int} (h : okE r n = true) : (0 ≤ r ∧ r ≤ 1000000) ∧ 0 ≤ n ∧ n ≤ 1000000000000000 := by unfold okE at h; simp only [Bool.and_eq_true] at h; exact ⟨rB_bd h.1, sB_bd h.2⟩
theorem okE_mk {r n : Int} (h1 : 0 ≤ r ∧ r ≤ 1000000) (h2 : 0 ≤ n ∧ n ≤ 1000000000000000) : okE r n = true := by unfold okE; rw [rB_yes h1, sB_yes h2]; rfl
end Go.Proofs.Ytlmdjkkeocmehaa.Drm
