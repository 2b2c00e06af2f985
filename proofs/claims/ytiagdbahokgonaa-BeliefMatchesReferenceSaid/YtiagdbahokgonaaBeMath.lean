/- Plain facts on beliefs. No program in sight. -/
import Derived.Test.YtiagdbahokgonaaDrMath
set_option linter.unusedVariables false
namespace Go.Proofs.Ytiagdbahokgonaa.Blm
open Go.Proofs.Ytiagdbahokgonaa
def tT (x : Int) : Bool := decide (0 ≤ x ∧ x ≤ 3000000000000000)
def iV (lo hi : Int) : Bool := decide (0 ≤ lo ∧ lo ≤ hi ∧ hi ≤ 3000000000000000)
def vB (a lo hi : Int) : Bool := tT a && iV lo hi
theorem tT_bd {x : Int} (h : tT x = true) : 0 ≤ x ∧ x ≤ 3000000000000000 := of_decide_eq_true h
theorem tT_no {x : Int} (h : tT x = false) : ¬ (0 ≤ x ∧ x ≤ 3000000000000000) := of_decide_eq_false h
theorem tT_yes {x : Int} (h : 0 ≤ x ∧ x ≤ 3000000000000000) : tT x = true := decide_eq_true h
theorem iV_bd {x y : Int} (h : iV x y = true) : 0 ≤ x ∧ x ≤ y ∧ y ≤ 3000000000000000 := of_decide_eq_true h
theorem iV_no {x y : Int} (h : iV x y = false) : ¬ (0 ≤ x ∧ x ≤ y ∧ y ≤ 3000000000000000) := of_decide_eq_false h
theorem iV_yes {x y : Int} (h : 0 ≤ x ∧ x ≤ y ∧ y ≤ 3000000000000000) : iV x y = true := decide_eq_true h
theorem vB_bd {a x y : Int} (h : vB a x y = true) : (0 ≤ a ∧ a ≤ 3000000000000000) ∧ 0 ≤ x ∧ x ≤ y ∧ y ≤ 3000000000000000 := by
  unfold vB at h; simp only [Bool.and_eq_true] at h; exact ⟨tT_bd h.1, iV_bd h.2⟩
theorem vB_yes {a x y : Int} (h1 : 0 ≤ a ∧ a ≤ 3000000000000000) (h2 : 0 ≤ x ∧ x ≤ y ∧ y ≤ 3000000000000000) : vB a x y = true := by unfold vB; rw [tT_yes h1, iV_yes h2]; rfl
/-- at most the last time -/
def mn (x : Int) : Int := if 3000000000000000 < x then 3000000000000000 else x
def mnA (x y : Int) : Int := if y < x then y else x
def mxA (x y : Int) : Int := if x < y then y else x
theorem mn_bd {x : Int} (h : 0 ≤ x) : 0 ≤ mn x ∧ mn x ≤ 3000000000000000 ∧ mn x ≤ x := by unfold mn; split <;> omega
theorem mn_mono {x y : Int} (h : x ≤ y) : mn x ≤ mn y := by unfold mn; split <;> split <;> omega
/-! the interval at a later reading -/
def atB (a lo hi r t : Int) : Bool := vB a lo hi && tT t && Drm.rB r
def atE (a lo hi r t : Int) : Int := if atB a lo hi r t then (if t < a then 30 else if t - a ≤ 1000000000000000 then 0 else 3) else 1
def atLo (a lo hi r t : Int) : Int := if atE a lo hi r t = 0 then mn (lo + Drm.elLo r (t - a)) else 0
def atHi (a lo hi r t : Int) : Int := if atE a lo hi r t = 0 then mn (hi + Drm.elHi r (t - a)) else 0
def adA (a lo hi r t : Int) : Int := if atE a lo hi r t = 0 then t else 0
theorem at_off {a lo hi r t : Int} (h : atE a lo hi r t ≠ 0) : atLo a lo hi r t = 0 ∧ atHi a lo hi r t = 0 ∧ adA a lo hi r t = 0 := by unfold atLo atHi adA; simp only [if_neg h]; exact ⟨trivial, trivial, trivial⟩
theorem atB_bd {a lo hi r t : Int} (h : atB a lo hi r t = true) : ((0 ≤ a ∧ a ≤ 3000000000000000) ∧ 0 ≤ lo ∧ lo ≤ hi ∧ hi ≤ 3000000000000000) ∧ (0 ≤ t ∧ t ≤ 3000000000000000) ∧ 0 ≤ r ∧ r ≤ 1000000 := by
  unfold atB at h; simp only [Bool.and_eq_true] at h; exact ⟨vB_bd h.1.1, tT_bd h.1.2, Drm.rB_bd h.2⟩
theorem atB_yes {a lo hi r t : Int} (h1 : vB a lo hi = true) (h2 : 0 ≤ t ∧ t ≤ 3000000000000000) (h3 : 0 ≤ r ∧ r ≤ 1000000) : atB a lo hi r t = true := by unfold atB; rw [h1, tT_yes h2, Drm.rB_yes h3]; rfl
theorem at_ok {a lo hi r t : Int} (h : atE a lo hi r t = 0) : atB a lo hi r t = true ∧ a ≤ t ∧ t - a ≤ 1000000000000000 ∧ atLo a lo hi r t = mn (lo + Drm.elLo r (t - a)) ∧ atHi a lo hi r t = mn (hi + Drm.elHi r (t - a)) ∧ adA a lo hi r t = t := by
  have h1 : atLo a lo hi r t = mn (lo + Drm.elLo r (t - a)) := by unfold atLo; rw [if_pos h]
  have h2 : atHi a lo hi r t = mn (hi + Drm.elHi r (t - a)) := by unfold atHi; rw [if_pos h]
  have h3 : adA a lo hi r t = t := by unfold adA; rw [if_pos h]
  unfold atE at h
  cases hB : atB a lo hi r t
  · rw [hB] at h; simp at h
  · rw [hB, if_pos rfl] at h
    by_cases c1 : t < a
    · rw [if_pos c1] at h; omega
    rw [if_neg c1] at h
    by_cases c2 : t - a ≤ 1000000000000000
    · exact ⟨rfl, by omega, c2, h1, h2, h3⟩
    · rw [if_neg c2] at h; omega
theorem at_yes {a lo hi r t : Int} (h1 : atB a lo hi r t = true) (h2 : a ≤ t) (h3 : t - a ≤ 1000000000000000) : atE a lo hi r t = 0 := by
  unfold atE; rw [h1, if_pos rfl, if_neg (by omega), if_pos h3]
/-! what two intervals have in common -/
def meV (a lo hi lo2 hi2 : Int) : Bool := vB a lo hi && iV lo2 hi2
def meS (a lo hi lo2 hi2 : Int) : Bool := meV a lo hi lo2 hi2 && decide (mxA lo lo2 ≤ mnA hi hi2)
def meE (a lo hi lo2 hi2 : Int) : Int := if meV a lo hi lo2 hi2 then 0 else 1
def meA (a lo hi lo2 hi2 : Int) : Int := if meV a lo hi lo2 hi2 then a else 0
def meLo (a lo hi lo2 hi2 : Int) : Int := if meV a lo hi lo2 hi2 then (if meS a lo hi lo2 hi2 then mxA lo lo2 else lo) else 0
def meHi (a lo hi lo2 hi2 : Int) : Int := if meV a lo hi lo2 hi2 then (if meS a lo hi lo2 hi2 then mnA hi hi2 else hi) else 0
theorem mx_bd (x y : Int) : x ≤ mxA x y ∧ y ≤ mxA x y ∧ (mxA x y = x ∨ mxA x y = y) := by unfold mxA; split <;> omega
theorem mnA_bd (x y : Int) : mnA x y ≤ x ∧ mnA x y ≤ y ∧ (mnA x y = x ∨ mnA x y = y) := by unfold mnA; split <;> omega
theorem meV_bd {a lo hi lo2 hi2 : Int} (h : meV a lo hi lo2 hi2 = true) : vB a lo hi = true ∧ iV lo2 hi2 = true := by unfold meV at h; simpa using h
/-! how wrong a shown time can be -/
def woE (lo hi s : Int) : Int := if iV lo hi && tT s then 0 else 1
def woV (lo hi s : Int) : Int := if iV lo hi && tT s then mxA (s - lo) (hi - s) else 0
end Go.Proofs.Ytiagdbahokgonaa.Blm
