/- Plain facts on tables of leap seconds for the laws of chapter 17. No program in sight. -/
import Derived.Test.YtmicbniipbcapaaDoorLpMath
set_option linter.unusedVariables false
namespace Go.Proofs.YtmicbniipbcapaaDoor.Lpm

theorem flt_nil {l : LL} {last day : Int} (h : okFrom last l = true) (hd : day ≤ last + 1) : flt l day = [] := by
  unfold flt; rw [List.filter_eq_nil_iff]; intro x hx; have := okFrom_mem h x hx; simp; omega
theorem flt_succ {l : LL} {day : Int} : ∀ {last : Int}, okFrom last l = true → -1 ≤ sum (flt l (day + 1)) - sum (flt l day) ∧ sum (flt l (day + 1)) - sum (flt l day) ≤ 1 := by
  induction l with
  | nil => intro last _; simp [flt, sum]
  | cons x r ih =>
    intro last h
    have hx := okFrom_mem h x (List.mem_cons_self ..)
    rw [okFrom_cons] at h
    simp only [Bool.and_eq_true] at h
    have a := ih h.2
    have cons : ∀ d : Int, sum (flt (x :: r) d) = (if x.1 < d then x.2 else 0) + sum (flt r d) := fun d => by
      unfold flt; by_cases hc : x.1 < d <;> simp [hc, sum]
    rw [cons, cons]
    by_cases h1 : x.1 < day
    · rw [if_pos h1, if_pos (by omega)]; omega
    · by_cases h2 : x.1 = day
      · rw [if_neg h1, if_pos (by omega), flt_nil h.2 (by omega), flt_nil h.2 (by omega)]; simp only [sum]; omega
      · rw [if_neg h1, if_neg (by omega)]; omega
theorem ofs_succ {l : LL} {day : Int} (h : valid l = true) : -1 ≤ ofs l (day + 1) - ofs l day ∧ ofs l (day + 1) - ofs l day ≤ 1 := by
  rw [ofs_flt h, ofs_flt h]; exact flt_succ (valid_ok h)
theorem len_bd {l : LL} {day : Int} (h : valid l = true) : 86399000000 ≤ start l (day + 1) - start l day ∧ start l (day + 1) - start l day ≤ 86401000000 := by
  have := ofs_succ (day := day) h; unfold start; omega
theorem ofs_len {l : LL} {day : Int} (h : valid l = true) : ofs l day ≤ l.length ∧ -ofs l day ≤ l.length := by
  have a := sum_bd (l := pre l day) fun x hx => (valid_mem h x (pre_sub x hx)).2.2
  have b := pre_len (l := l) (day := day)
  unfold ofs; omega
theorem flt_all {l : LL} {a b : Int} (h : ∀ x ∈ l, x.1 < a) (hab : a ≤ b) : flt l b = l := by
  unfold flt; rw [List.filter_eq_self]; intro x hx; have := h x hx; simp; omega
theorem start_last {l : LL} (h : valid l = true) : start l 34001 = start l 34000 + 86400000000 := by
  have a : ofs l 34001 = ofs l 34000 := by
    rw [ofs_flt h, ofs_flt h, flt_all (fun x hx => (valid_mem h x hx).2.1) (by omega), flt_all (fun x hx => (valid_mem h x hx).2.1) (Int.le_refl _)]
  unfold start; rw [a]; omega

/-! a table and its first part -/
theorem okFrom_append {a b : LL} : ∀ {last : Int}, okFrom last (a ++ b) = true → okFrom last a = true := by
  induction a with
  | nil => intro last _; rfl
  | cons x r ih =>
    intro last h
    rw [List.cons_append, okFrom_cons] at h
    simp only [Bool.and_eq_true] at h
    rw [okFrom_cons]; simp only [Bool.and_eq_true]
    exact ⟨h.1, ih h.2⟩
theorem valid_append {a b : LL} (h : valid (a ++ b) = true) : valid a = true := by
  have := valid_len h; simp at this
  have h1 := okFrom_append (valid_ok h)
  unfold valid; simp [h1]; omega
theorem valid_take {l : LL} {k : Nat} (h : valid l = true) : valid (l.take k) = true := by
  have e : l = l.take k ++ l.drop k := (List.take_append_drop k l).symm
  rw [e] at h; exact valid_append h
theorem start_snoc {l : LL} {x : Int × Int} {day : Int} (h : valid (l ++ [x]) = true) : start (l ++ [x]) day = start l day + (if x.1 < day then x.2 * 1000000 else 0) := by
  unfold start; rw [ofs_flt h, ofs_flt (valid_append h), flt_snoc]; split <;> omega
theorem okFrom_rest {a : LL} {x : Int × Int} {r : LL} : ∀ {last : Int}, okFrom last (a ++ x :: r) = true → ∀ y ∈ x :: r, x.1 ≤ y.1 := by
  induction a with
  | nil =>
    intro last h y hy
    rw [List.nil_append, okFrom_cons] at h
    simp only [Bool.and_eq_true] at h
    rcases List.mem_cons.1 hy with rfl | hy
    · omega
    · have := okFrom_mem h.2 y hy; omega
  | cons z a ih =>
    intro last h
    rw [List.cons_append, okFrom_cons] at h
    simp only [Bool.and_eq_true] at h
    exact ih h.2
theorem ofs_take {a : LL} {x : Int × Int} {r : LL} {day : Int} (h : valid (a ++ x :: r) = true) (hd : day ≤ x.1) : ofs (a ++ x :: r) day = ofs a day := by
  rw [ofs_flt h, ofs_flt (valid_append h)]
  unfold flt; rw [List.filter_append]
  have : (x :: r).filter (fun y => decide (y.1 < day)) = [] := by
    rw [List.filter_eq_nil_iff]; intro y hy; have := okFrom_rest (valid_ok h) y hy; simp; omega
  rw [this, List.append_nil]
theorem start_take {a : LL} {x : Int × Int} {r : LL} {day : Int} (h : valid (a ++ x :: r) = true) (hd : day ≤ x.1) : start (a ++ x :: r) day = start a day := by
  unfold start; rw [ofs_take h hd]
/-- up to the beginning of the day of a leap second, the table without this one and the later ones says the same -/
theorem dayNo_take {a : LL} {x : Int × Int} {r : LL} {t : Int} (h : valid (a ++ x :: r) = true) (h0 : 0 ≤ t) (ht : t ≤ start (a ++ x :: r) x.1) :
    dayNo a t = dayNo (a ++ x :: r) t ∧ dayNo (a ++ x :: r) t ≤ 34000 ∧ ofs a (dayNo (a ++ x :: r) t) = ofs (a ++ x :: r) (dayNo (a ++ x :: r) t) := by
  have hx := valid_mem h x (by simp)
  have hin := dayNo_in (t := t) h h0 (Int.lt_of_le_of_lt ht (start_lt h (by omega)))
  have g0 := (dayNo_spec (a ++ x :: r) t).1
  generalize dayNo (a ++ x :: r) t = d at *
  have hd : d ≤ x.1 := by
    rcases Int.lt_or_le x.1 d with hlt | hle
    · have := start_lt h hlt; omega
    · exact hle
  refine ⟨dayNo_of (valid_append h) g0 hin.1 (by rw [← start_take h hd]; exact hin.2.1) ?_, hin.1, (ofs_take h hd).symm⟩
  by_cases e : d = x.1
  · have h1 : start a d = start (a ++ x :: r) d := (start_take h hd).symm
    have h2 := start_lt (valid_append h) (show d < d + 1 by omega)
    rw [e] at h1 h2 hin ⊢
    omega
  · rw [← start_take h (by omega : d + 1 ≤ x.1)]; exact hin.2.2
end Go.Proofs.YtmicbniipbcapaaDoor.Lpm
