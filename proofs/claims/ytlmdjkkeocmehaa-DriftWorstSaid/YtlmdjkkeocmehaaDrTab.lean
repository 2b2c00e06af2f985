/- Plain facts on tables of rate bounds. No program in sight. -/
import Derived.Test.YtlmdjkkeocmehaaDrC
set_option linter.unusedVariables false
namespace Go.Proofs.Ytlmdjkkeocmehaa.Tab
open Go.Proofs.Ytlmdjkkeocmehaa
/-- a list has bands -/
def rising (l : List Int) : Bool := decide (1 ≤ l.length) && decide (l.length ≤ 8) && decide (-1000000 ≤ ai l 0) && decide (ai l (l.length - 1) ≤ 1000000) && (nb l (l.length - 1)).all lt2
theorem rising_n {l : List Int} {n : Nat} (h : l.length = n) : rising l = (decide (1 ≤ n) && decide (n ≤ 8) && decide (-1000000 ≤ ai l 0) && decide (ai l (n - 1) ≤ 1000000) && (nb l (n - 1)).all lt2) := by unfold rising; rw [h]
structure Tb where
  te : List Int
  ag : List Int
  ra : List (List Int)
def row (r : List (List Int)) (k : Nat) : List Int := r[k]?.getD []
def okR (m : Nat) (r : List Int) : Bool := decide (r.length = m) && r.all Drm.rB
def valid (t : Tb) : Bool := rising t.te && rising t.ag && decide (t.ra.length = t.te.length) && t.ra.all (okR t.ag.length)
theorem allR_snoc {l : List (List Int)} {k n : Nat} (p : List Int → Bool) (h : l.length = n) (hk : k < n) : (l.take (k + 1)).all p = ((l.take k).all p && p (row l k)) := by
  unfold row; rw [List.take_succ_eq_append_getElem (by omega), List.all_append]; simp [show k < l.length by omega]
theorem allR_no {l : List (List Int)} {k : Nat} {p : List Int → Bool} (h : (l.take k).all p = false) : l.all p = false := by
  rw [List.all_eq_false] at *; obtain ⟨x, hx, hp⟩ := h; exact ⟨x, List.mem_of_mem_take hx, hp⟩
/-- strictly rising, as a fact for every two -/
def Up (l : List Int) : Prop := ∀ j, j + 1 < l.length → ai l j < ai l (j + 1)
theorem up_of {l : List Int} (h : (nb l (l.length - 1)).all lt2 = true) : Up l := by
  intro j hj
  rw [List.all_eq_true] at h
  have := h (ai l j, ai l (j + 1)) (by unfold nb; exact List.mem_map.2 ⟨j, List.mem_range.2 (by omega), rfl⟩)
  exact of_decide_eq_true this
theorem up_to {l : List Int} (h : Up l) : (nb l (l.length - 1)).all lt2 = true := by
  rw [List.all_eq_true]
  intro x hx
  obtain ⟨j, hj, rfl⟩ := List.mem_map.1 hx
  exact decide_eq_true (h j (by have := List.mem_range.1 hj; omega))
theorem up_lt {l : List Int} (h : Up l) : ∀ d i, i + d + 1 < l.length → ai l i < ai l (i + d + 1) := by
  intro d
  induction d with
  | zero => intro i hi; exact h i (by omega)
  | succ d ih =>
    intro i hi
    have h1 := ih i (by omega)
    have h2 := h (i + d + 1) (by omega)
    rw [show i + (d + 1) + 1 = i + d + 1 + 1 by omega]; omega
theorem up_le {l : List Int} (h : Up l) {i k : Nat} (hi : i ≤ k) (hk : k < l.length) : ai l i ≤ ai l k := by
  rcases Nat.lt_or_ge i k with h1 | h1
  · have := up_lt h (k - i - 1) i (by omega)
    rw [show i + (k - i - 1) + 1 = k by omega] at this; omega
  · rw [show i = k by omega]; exact Int.le_refl _
/-- the band: the last one that begins up to here -/
theorem bd_lt {l : List Int} {x : Int} : ∀ k : Nat, -1 ≤ bd l x k ∧ bd l x k < k := by
  intro k
  induction k with
  | zero => exact ⟨by simp [bd], by simp [bd]⟩
  | succ k ih => unfold bd; split <;> omega
theorem bd_at {l : List Int} {x : Int} : ∀ k : Nat, 0 ≤ bd l x k → ai l (bd l x k).toNat ≤ x := by
  intro k
  induction k with
  | zero => intro h; simp [bd] at h
  | succ k ih =>
    intro h
    by_cases h1 : x < ai l k
    · have e : bd l x (k + 1) = bd l x k := if_pos h1
      rw [e] at h ⊢; exact ih h
    · have e : bd l x (k + 1) = k := if_neg h1
      rw [e]; simp; omega
theorem bd_above {l : List Int} {x : Int} : ∀ k j : Nat, j < k → bd l x k < j → x < ai l j := by
  intro k
  induction k with
  | zero => intro j h; omega
  | succ k ih =>
    intro j hj h
    by_cases h1 : x < ai l k
    · have e : bd l x (k + 1) = bd l x k := if_pos h1
      rw [e] at h
      rcases Nat.lt_or_ge j k with h2 | h2
      · exact ih j h2 h
      · rw [show j = k by omega]; exact h1
    · have e : bd l x (k + 1) = k := if_neg h1
      rw [e] at h; omega
/-- with rising beginnings: up to the band all begin up to here -/
theorem bd_iff {l : List Int} {x : Int} (h : Up l) {j : Nat} (hj : j < l.length) : (j : Int) ≤ bd l x l.length ↔ ai l j ≤ x := by
  have h0 := @bd_lt l x l.length
  constructor
  · intro h1
    have h2 := bd_at (l := l) (x := x) l.length (by omega)
    have h3 := up_le h (i := j) (k := (bd l x l.length).toNat) (by omega) (by omega)
    omega
  · intro h1
    rcases Int.lt_or_le (bd l x l.length) j with h2 | h2
    · have := bd_above (l := l) (x := x) l.length j hj h2; omega
    · exact h2
theorem bd_mono {l : List Int} {x y : Int} (h : Up l) (hxy : x ≤ y) : bd l x l.length ≤ bd l y l.length := by
  have h0 := @bd_lt l x l.length
  rcases Int.lt_or_le (bd l x l.length) 0 with h1 | h1
  · have := @bd_lt l y l.length; omega
  · have h2 := bd_at (l := l) (x := x) l.length h1
    have h3 := (bd_iff (x := y) h (j := (bd l x l.length).toNat) (by omega)).2 (by omega)
    omega
/-- the greater of two -/
def mx (a b : Int) : Int := if a < b then b else a
theorem mx_le {a b : Int} : a ≤ mx a b ∧ b ≤ mx a b := by unfold mx; split <;> omega
theorem mx_or {a b : Int} : mx a b = a ∨ mx a b = b := by unfold mx; split <;> simp
/-- the greatest of a row from b on, up to an age -/
def inn (ag r : List Int) (y : Int) : Nat → Nat → Int → Int
  | 0, _, m => m
  | f + 1, b, m => if y < ai ag b then m else inn ag r y f (b + 1) (mx m (ai r b))
/-- the greatest of the rows from a on, up to a temperature -/
def out (t : Tb) (x y : Int) (k : Nat) : Nat → Nat → Int → Int
  | 0, _, m => m
  | f + 1, a, m => if x < ai t.te a then m else out t x y k f (a + 1) (inn t.ag (row t.ra a) y (t.ag.length - k) k m)
def wB (t : Tb) (x1 x2 y1 y2 : Int) : Bool := valid t && decide (x1 ≤ x2) && decide (y1 ≤ y2)
def wN (t : Tb) (x y : Int) : Bool := decide (0 ≤ bd t.te x t.te.length) && decide (0 ≤ bd t.ag y t.ag.length)
def wE (t : Tb) (x1 x2 y1 y2 : Int) : Int := if wB t x1 x2 y1 y2 then (if wN t x1 y1 then 0 else 3) else 1
def wI (t : Tb) (x : Int) : Nat := (bd t.te x t.te.length).toNat
def wK (t : Tb) (y : Int) : Nat := (bd t.ag y t.ag.length).toNat
def wV (t : Tb) (x1 x2 y1 y2 : Int) : Int := if wB t x1 x2 y1 y2 && wN t x1 y1 then out t x2 y2 (wK t y1) (t.te.length - wI t x1) (wI t x1) 0 else 0
structure Ok (t : Tb) : Prop where
  a1 : 1 ≤ t.te.length
  a8 : t.te.length ≤ 8
  b1 : 1 ≤ t.ag.length
  b8 : t.ag.length ≤ 8
  n : t.ra.length = t.te.length
  r : ∀ j, j < t.te.length → (row t.ra j).length = t.ag.length ∧ ∀ k, k < t.ag.length → 0 ≤ ai (row t.ra j) k ∧ ai (row t.ra j) k ≤ 1000000
  ua : Up t.te
  ub : Up t.ag
theorem rising_facts {l : List Int} (h : rising l = true) : 1 ≤ l.length ∧ l.length ≤ 8 ∧ -1000000 ≤ ai l 0 ∧ ai l (l.length - 1) ≤ 1000000 ∧ Up l := by
  unfold rising at h
  simp only [Bool.and_eq_true, decide_eq_true_eq] at h
  obtain ⟨⟨⟨⟨h1, h2⟩, h3⟩, h4⟩, h5⟩ := h
  exact ⟨h1, h2, h3, h4, up_of h5⟩
theorem valid_ok {t : Tb} (h : valid t = true) : Ok t := by
  unfold valid at h
  simp only [Bool.and_eq_true, decide_eq_true_eq] at h
  obtain ⟨⟨⟨h1, h2⟩, h3⟩, h4⟩ := h
  obtain ⟨a1, a2, -, -, a5⟩ := rising_facts h1
  obtain ⟨b1, b2, -, -, b5⟩ := rising_facts h2
  refine ⟨a1, a2, b1, b2, h3, fun j hj => ?_, a5, b5⟩
  rw [List.all_eq_true] at h4
  have h5 := h4 (row t.ra j) (by unfold row; rw [List.getElem?_eq_getElem (by omega)]; exact List.getElem_mem _)
  unfold okR at h5
  simp only [Bool.and_eq_true, decide_eq_true_eq, List.all_eq_true] at h5
  refine ⟨h5.1, fun k hk => ?_⟩
  have := h5.2 (ai (row t.ra j) k) (by unfold ai; rw [List.getElem?_eq_getElem (by omega)]; exact List.getElem_mem _)
  exact Drm.rB_bd this
theorem wN_ways {t : Tb} {x y : Int} (h : wN t x y = false) : bd t.te x t.te.length < 0 ∨ 0 ≤ bd t.te x t.te.length ∧ bd t.ag y t.ag.length < 0 := by
  unfold wN at h
  by_cases h1 : 0 ≤ bd t.te x t.te.length
  · refine .inr ⟨h1, ?_⟩
    rw [decide_eq_true h1] at h
    simpa using h
  · exact .inl (by omega)
theorem wN_is {t : Tb} {x y : Int} (h : wN t x y = true) : bd t.te x t.te.length = (wI t x : Int) ∧ wI t x < t.te.length ∧ bd t.ag y t.ag.length = (wK t y : Int) ∧ wK t y < t.ag.length := by
  unfold wN at h
  simp only [Bool.and_eq_true, decide_eq_true_eq] at h
  have h1 := @bd_lt t.te x t.te.length
  have h2 := @bd_lt t.ag y t.ag.length
  unfold wI wK
  omega
theorem inn_stop {ag r : List Int} {y : Int} {f b : Nat} {m : Int} (h : y < ai ag b) : inn ag r y f b m = m := by
  cases f with
  | zero => rfl
  | succ f => exact if_pos h
theorem inn_go {ag r : List Int} {y : Int} {f b : Nat} {m : Int} (h : ¬ y < ai ag b) : inn ag r y (f + 1) b m = inn ag r y f (b + 1) (mx m (ai r b)) := if_neg h
theorem out_stop {t : Tb} {x y : Int} {k f a : Nat} {m : Int} (h : x < ai t.te a) : out t x y k f a m = m := by
  cases f with
  | zero => rfl
  | succ f => exact if_pos h
theorem out_go {t : Tb} {x y : Int} {k f a : Nat} {m : Int} (h : ¬ x < ai t.te a) : out t x y k (f + 1) a m = out t x y k f (a + 1) (inn t.ag (row t.ra a) y (t.ag.length - k) k m) := if_neg h
end Go.Proofs.Ytlmdjkkeocmehaa.Tab
