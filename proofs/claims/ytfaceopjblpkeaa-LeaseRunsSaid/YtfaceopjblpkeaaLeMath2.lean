/- Plain facts on valid leases: in pairs; with one more; with some left out. No program in sight. -/
import Derived.Test.YtfaceopjblpkeaaLeMath
set_option linter.unusedVariables false
namespace Go.Proofs.Ytfaceopjblpkeaa.Lem
theorem vp_iff {l : List T3} {n : Nat} (hn : n ≤ l.length) : vp l n = true ↔ (∀ x ∈ l.take n, form x = true) ∧ (l.take n).Pairwise (fun x y => clash y x = false) := by
  induction n with
  | zero => simp [vp]
  | succ m ih =>
    have h1 := ih (by omega)
    rw [take_snoc rfl (by omega), List.pairwise_append]
    simp only [vp, Bool.and_eq_true, Bool.not_eq_true', h1, List.any_eq_false, List.mem_append, List.mem_singleton, List.pairwise_cons, List.not_mem_nil, false_imp_iff, implies_true, List.Pairwise.nil, and_self, true_and]
    constructor
    · rintro ⟨⟨a, b⟩, c, d⟩
      refine ⟨fun x hx => ?_, b, fun x hx y hy => ?_⟩
      · rcases hx with hx | rfl
        · exact a x hx
        · exact c
      · rw [hy]; have := d x hx; simpa using this
    · rintro ⟨a, b, c⟩
      exact ⟨⟨fun x hx => a x (.inl hx), b⟩, a _ (.inr rfl), fun x hx => by have := c x hx _ rfl; simpa using this⟩
theorem valid_iff (l : List T3) : valid l = true ↔ (∀ x ∈ l, form x = true) ∧ l.Pairwise (fun x y => clash y x = false) ∧ l.length ≤ 64 := by
  unfold valid
  rw [Bool.and_eq_true, vp_iff (Nat.le_refl _), List.take_length, decide_eq_true_eq]
  exact ⟨fun ⟨⟨a, b⟩, c⟩ => ⟨a, b, c⟩, fun ⟨a, b, c⟩ => ⟨⟨a, b⟩, c⟩⟩
theorem valid_filter {l : List T3} (p : T3 → Bool) (h : valid l = true) : valid (l.filter p) = true := by
  rw [valid_iff] at *
  refine ⟨fun x hx => h.1 x ((List.mem_filter.1 hx).1), h.2.1.filter _, ?_⟩
  have := List.length_filter_le p l; omega
theorem valid_snoc {l : List T3} {h len lo hi : Int} (e : grE l h len lo hi = 0) : valid (l ++ [(h, lo, lo + len)]) = true ∧ valid l = true ∧ hB h = true ∧ 1 ≤ len ∧ len ≤ 3000000000000000 ∧ iV lo hi = true ∧ lo + len ≤ 3000000000000000 ∧ l.any (blocks h lo) = false ∧ l.length ≤ 63 := by
  unfold grE at e
  cases hB' : grB l h len lo hi
  · rw [hB'] at e; simp at e
  rw [hB', if_pos rfl] at e
  by_cases c1 : 3000000000000000 < lo + len
  · rw [if_pos c1] at e; omega
  rw [if_neg c1] at e
  cases hb : l.any (blocks h lo)
  · rw [hb] at e
    by_cases c2 : l.length = 64
    · rw [if_neg (by simp), if_pos c2] at e; omega
    unfold grB at hB'
    simp only [Bool.and_eq_true, decide_eq_true_eq] at hB'
    obtain ⟨⟨⟨⟨v, hh⟩, g1⟩, g2⟩, g3⟩ := hB'
    have v' := (valid_iff l).1 v
    have i := iV_bd g3
    have h' := hB_bd hh
    refine ⟨?_, v, hh, g1, g2, g3, by omega, rfl, by omega⟩
    rw [valid_iff]
    refine ⟨fun x hx => ?_, ?_, by simp; omega⟩
    · rw [List.mem_append, List.mem_singleton] at hx
      rcases hx with hx | rfl
      · exact v'.1 x hx
      · unfold form; exact decide_eq_true ⟨by show (1:Int) ≤ h; omega, by show h ≤ 64; omega, by show (0:Int) ≤ lo; omega, by show lo < lo + len; omega, by show lo + len ≤ _; omega⟩
    · rw [List.pairwise_append]
      refine ⟨v'.2.1, by simp, fun x hx y hy => ?_⟩
      rw [List.mem_singleton] at hy
      subst hy
      rw [List.any_eq_false] at hb
      have := hb x hx
      unfold clash
      rw [decide_eq_false_iff_not]
      simp only [blocks, over, Bool.and_eq_true, decide_eq_true_eq, Bool.not_eq_true', decide_eq_false_iff_not] at this
      show ¬ (x.1 ≠ h ∧ x.2.1 < lo + len ∧ lo < x.2.2)
      omega
  · rw [hb, if_pos rfl] at e; omega
/-- with what is over left out, the same may serve, and the same is refused -/
theorem any_stays {l : List T3} {b : Int} (p : T3 → Bool) (h : ∀ x ∈ l, over b x = true → p x = false) : (l.filter (stays b)).any p = l.any p := by
  induction l with
  | nil => rfl
  | cons x r ih =>
    have ih' := ih (fun y hy => h y (List.mem_cons_of_mem _ hy))
    rw [List.filter_cons]
    cases hs : stays b x
    · have ho : over b x = true := by simpa [stays] using hs
      rw [if_neg (by simp), ih', List.any_cons, h x List.mem_cons_self ho]; rfl
    · rw [if_pos rfl, List.any_cons, List.any_cons, ih']
end Go.Proofs.Ytfaceopjblpkeaa.Lem
