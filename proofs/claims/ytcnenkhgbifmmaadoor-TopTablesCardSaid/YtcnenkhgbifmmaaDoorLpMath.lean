/- Plain facts on tables of leap seconds: which are valid, the sum of the steps before a day, when a day begins. No program in sight. -/
set_option linter.unusedVariables false
namespace Go.Proofs.YtcnenkhgbifmmaaDoor.Lpm
abbrev LL := List (Int × Int)
/-- a leap second that cannot stand behind one of day last -/
def bad (last : Int) (x : Int × Int) : Bool := decide (x.1 ≤ last ∨ 34000 ≤ x.1 ∨ (x.2 ≠ 1 ∧ x.2 ≠ -1))
def okFrom (last : Int) : LL → Bool
  | [] => true
  | x :: r => if bad last x then false else okFrom x.1 r
def valid (l : LL) : Bool := okFrom (-1) l && decide (l.length ≤ 100)
/-- the sum of the steps -/
def sum : LL → Int
  | [] => 0
  | x :: r => x.2 + sum r
/-- the leap seconds before a day -/
def pre (l : LL) (day : Int) : LL := l.takeWhile fun x => decide (x.1 < day)
def ofs (l : LL) (day : Int) : Int := sum (pre l day)
def start (l : LL) (day : Int) : Int := day * 86400000000 + ofs l day * 1000000

theorem okFrom_cons {last : Int} {x : Int × Int} {r : LL} : okFrom last (x :: r) = (!bad last x && okFrom x.1 r) := by
  rw [okFrom]; cases bad last x <;> rfl
theorem okFrom_mem {l : LL} : ∀ {last : Int}, okFrom last l = true → ∀ x ∈ l, last < x.1 ∧ x.1 < 34000 ∧ (x.2 = 1 ∨ x.2 = -1) := by
  induction l with
  | nil => intro last _ x hx; cases hx
  | cons y r ih =>
    intro last h x hx
    rw [okFrom_cons] at h
    simp only [Bool.and_eq_true, Bool.not_eq_true', bad, decide_eq_false_iff_not] at h
    rcases List.mem_cons.1 hx with rfl | hx
    · exact ⟨by omega, by omega, by omega⟩
    · have := ih h.2 x hx
      exact ⟨by omega, by omega, by omega⟩
theorem sum_append (a b : LL) : sum (a ++ b) = sum a + sum b := by
  induction a with
  | nil => simp [sum]
  | cons x r ih => simp [sum, ih]; omega
theorem sum_bd {l : LL} (h : ∀ x ∈ l, x.2 = 1 ∨ x.2 = -1) : -(l.length : Int) ≤ sum l ∧ sum l ≤ l.length := by
  induction l with
  | nil => simp [sum]
  | cons x r ih =>
    have a := ih fun y hy => h y (List.mem_cons_of_mem _ hy)
    have b := h x (List.mem_cons_self ..)
    simp only [sum, List.length_cons]; omega
theorem valid_len {l : LL} (h : valid l = true) : l.length ≤ 100 := by simp [valid] at h; exact h.2
theorem valid_ok {l : LL} (h : valid l = true) : okFrom (-1) l = true := by simp [valid] at h; exact h.1
theorem valid_mem {l : LL} (h : valid l = true) : ∀ x ∈ l, 0 ≤ x.1 ∧ x.1 < 34000 ∧ (x.2 = 1 ∨ x.2 = -1) := fun x hx => by
  have := okFrom_mem (valid_ok h) x hx; exact ⟨by omega, by omega, by omega⟩
theorem pre_sub {l : LL} {day : Int} : ∀ x ∈ pre l day, x ∈ l := fun x hx => List.takeWhile_sublist _ |>.subset hx
theorem pre_len {l : LL} {day : Int} : (pre l day).length ≤ l.length := (List.takeWhile_sublist _).length_le
theorem ofs_bd {l : LL} {day : Int} (h : valid l = true) : -100 ≤ ofs l day ∧ ofs l day ≤ 100 := by
  have a := sum_bd (l := pre l day) fun x hx => (valid_mem h x (pre_sub x hx)).2.2
  have b := pre_len (l := l) (day := day)
  have c := valid_len h
  unfold ofs; omega
def flt (l : LL) (day : Int) : LL := l.filter fun x => decide (x.1 < day)
theorem pre_eq_flt {l : LL} {day : Int} : ∀ {last : Int}, okFrom last l = true → pre l day = flt l day := by
  induction l with
  | nil => intro last _; rfl
  | cons y r ih =>
    intro last h
    rw [okFrom_cons] at h
    simp only [Bool.and_eq_true] at h
    have hm := okFrom_mem h.2
    unfold pre flt at *
    by_cases hy : y.1 < day
    · simp [hy, ih h.2]
    · have : r.filter (fun x => decide (x.1 < day)) = [] := by
        rw [List.filter_eq_nil_iff]; intro x hx; have := hm x hx; simp; omega
      simp [hy, this]
theorem ofs_flt {l : LL} {day : Int} (h : valid l = true) : ofs l day = sum (flt l day) := by unfold ofs; rw [pre_eq_flt (valid_ok h)]
theorem flt_snoc (l : LL) (day : Int) (x : Int × Int) : sum (flt (l ++ [x]) day) = sum (flt l day) + (if x.1 < day then x.2 else 0) := by
  unfold flt; rw [List.filter_append, sum_append]; by_cases h : x.1 < day <;> simp [h, sum]
theorem flt_bd {l : LL} {day : Int} {k : Nat} (h : valid l = true) : -100 ≤ sum (flt (l.take k) day) ∧ sum (flt (l.take k) day) ≤ 100 := by
  have a := sum_bd (l := flt (l.take k) day) fun x hx => (valid_mem h x (List.mem_of_mem_take (List.mem_filter.1 hx).1)).2.2
  have b : (flt (l.take k) day).length ≤ l.length := Nat.le_trans (List.length_filter_le _ _) (List.length_take_le' _ _)
  have c := valid_len h
  omega
theorem pre_ok {l : LL} {day : Int} (h : valid l = true) : (∀ x ∈ pre l day, x.2 = 1 ∨ x.2 = -1) ∧ (pre l day).length ≤ 100 :=
  ⟨fun x hx => (valid_mem h x (pre_sub x hx)).2.2, by have := pre_len (l := l) (day := day); have := valid_len h; omega⟩ -- stepsOk
theorem start_lt {l : LL} {a b : Int} (h : valid l = true) (hab : a < b) : start l a < start l b := by
  have := ofs_bd (day := a) h; have := ofs_bd (day := b) h
  unfold start; omega
theorem start_le {l : LL} {a b : Int} (h : valid l = true) (hab : a ≤ b) : start l a ≤ start l b := by
  by_cases e : a = b
  · rw [e]; exact Int.le_refl _
  · exact Int.le_of_lt (start_lt h (by omega))
theorem start_bd {l : LL} {a : Int} (h : valid l = true) : a * 86400000000 - 100000000 ≤ start l a ∧ start l a ≤ a * 86400000000 + 100000000 := by
  have := ofs_bd (day := a) h
  unfold start; omega
theorem ofs_zero {l : LL} (h : valid l = true) {day : Int} (h0 : day ≤ 0) : ofs l day = 0 := by
  unfold ofs pre
  cases l with
  | nil => rfl
  | cons x r =>
    have := valid_mem h x (List.mem_cons_self ..)
    rw [List.takeWhile_cons_of_neg (by simp; omega)]; rfl
theorem start_zero {l : LL} (h : valid l = true) : start l 0 = 0 := by unfold start; rw [ofs_zero h (Int.le_refl _)]; rfl

/-- d is the first day that has not ended at time t (34001: none) -/
def IsDayNo (l : LL) (t d : Int) : Prop := 0 ≤ d ∧ d ≤ 34001 ∧ (∀ k, 0 ≤ k → k < d → start l (k + 1) ≤ t) ∧ (d < 34001 → t < start l (d + 1))
theorem IsDayNo.one {l : LL} {t d d' : Int} (h : IsDayNo l t d) (h' : IsDayNo l t d') : d = d' := by
  obtain ⟨a1, a2, a3, a4⟩ := h
  obtain ⟨b1, b2, b3, b4⟩ := h'
  rcases Int.lt_trichotomy d d' with h | h | h
  · have := b3 d a1 h; have := a4 (by omega); omega
  · exact h
  · have := a3 d' b1 h; have := b4 (by omega); omega
noncomputable def dayNo (l : LL) (t : Int) : Int := Classical.epsilon (IsDayNo l t)
theorem dayNo_is {l : LL} {t d : Int} (h : IsDayNo l t d) : dayNo l t = d := (Classical.epsilon_spec ⟨d, h⟩ : IsDayNo l t (dayNo l t)).one h
/-- each time from 0 on has one -/
theorem dayNo_some {l : LL} {t : Int} : ∃ d, IsDayNo l t d := by
  have aux : ∀ n : Nat, (n : Int) ≤ 34001 → (∃ d, IsDayNo l t d) ∨ ∀ k : Int, 0 ≤ k → k < n → start l (k + 1) ≤ t := by
    intro n
    induction n with
    | zero => intro _; right; intro k h0 h1; omega
    | succ n ih =>
      intro hn
      rcases ih (by omega) with h | h
      · exact .inl h
      · by_cases hc : t < start l ((n : Int) + 1)
        · exact .inl ⟨n, by omega, by omega, h, fun _ => hc⟩
        · right; intro k h0 h1
          by_cases e : k = n
          · rw [e]; omega
          · exact h k h0 (by omega)
  rcases aux 34001 (by omega) with h | h
  · exact h
  · exact ⟨34001, by omega, by omega, h, fun h => absurd h (by omega)⟩
theorem dayNo_spec (l : LL) (t : Int) : IsDayNo l t (dayNo l t) := Classical.epsilon_spec dayNo_some
/-- where it is: a time of a valid table that is before the end of the last day lies in it -/
theorem dayNo_in {l : LL} {t : Int} (h : valid l = true) (h0 : 0 ≤ t) (h1 : t < start l 34001) : dayNo l t ≤ 34000 ∧ start l (dayNo l t) ≤ t ∧ t < start l (dayNo l t + 1) := by
  obtain ⟨a1, a2, a3, a4⟩ := dayNo_spec l t
  have hd : dayNo l t < 34001 := by
    rcases Int.lt_or_le (dayNo l t) 34001 with h | h
    · exact h
    · have := a3 34000 (by omega) (by omega); simp at this; omega
  refine ⟨by omega, ?_, a4 hd⟩
  by_cases e : dayNo l t = 0
  · rw [e, start_zero h]; exact h0
  · have := a3 (dayNo l t - 1) (by omega) (by omega); rwa [Int.sub_add_cancel] at this
theorem dayNo_out {l : LL} {t : Int} (h : valid l = true) (h1 : start l 34001 ≤ t) : dayNo l t = 34001 :=
  dayNo_is ⟨by omega, by omega, fun k _ hk => Int.le_trans (start_le h (by omega)) h1, fun h => absurd h (by omega)⟩
theorem dayNo_of {l : LL} {t d : Int} (h : valid l = true) (h0 : 0 ≤ d) (hd : d ≤ 34000) (a : start l d ≤ t) (b : t < start l (d + 1)) : dayNo l t = d :=
  dayNo_is ⟨h0, by omega, fun k _ hk => Int.le_trans (start_le h (by omega)) a, fun _ => b⟩

/-! what the functions return -/
def isDay (day : Int) : Bool := decide (0 ≤ day ∧ day ≤ 34000)
def isT (t : Int) : Bool := decide (0 ≤ t ∧ t ≤ 3000000000000000)
def stE (l : LL) (day : Int) : Int := if valid l && isDay day then 0 else 1
def stV (l : LL) (day : Int) : Int := if valid l && isDay day then start l day else 0
def leV (l : LL) (day : Int) : Int := if valid l && isDay day then start l (day + 1) - start l day else 0
noncomputable def dE (l : LL) (t : Int) : Int := if valid l && isT t then (if 34000 < dayNo l t then 3 else 0) else 1
noncomputable def dV (l : LL) (t : Int) : Int := if valid l && isT t then (if 34000 < dayNo l t then 0 else dayNo l t) else 0
noncomputable def oV (l : LL) (t : Int) : Int := if valid l && isT t then (if 34000 < dayNo l t then 0 else ofs l (dayNo l t)) else 0
theorem st_no {l : LL} {day : Int} (h : ¬ (valid l = true ∧ 0 ≤ day ∧ day ≤ 34000)) : stE l day = 1 ∧ stV l day = 0 ∧ leV l day = 0 := by
  have : (valid l && isDay day) = false := by
    cases hv : valid l
    · rfl
    · simp [isDay]; simp [hv] at h; omega
  simp [stE, stV, leV, this]
theorem st_yes {l : LL} {day : Int} (hv : valid l = true) (h0 : 0 ≤ day) (h1 : day ≤ 34000) : stE l day = 0 ∧ stV l day = start l day ∧ leV l day = start l (day + 1) - start l day := by
  have : (valid l && isDay day) = true := by simp [hv, isDay, h0, h1]
  simp [stE, stV, leV, this]
theorem d_no {l : LL} {t : Int} (h : ¬ (valid l = true ∧ 0 ≤ t ∧ t ≤ 3000000000000000)) : dE l t = 1 ∧ dV l t = 0 ∧ oV l t = 0 := by
  have : (valid l && isT t) = false := by
    cases hv : valid l
    · rfl
    · simp [isT]; simp [hv] at h; omega
  simp [dE, dV, oV, this]
theorem d_far {l : LL} {t : Int} (hv : valid l = true) (h0 : 0 ≤ t) (h1 : t ≤ 3000000000000000) (h : 34000 < dayNo l t) : dE l t = 3 ∧ dV l t = 0 ∧ oV l t = 0 := by
  have : (valid l && isT t) = true := by simp [hv, isT, h0, h1]
  simp [dE, dV, oV, this, h]
theorem d_yes {l : LL} {t : Int} (hv : valid l = true) (h0 : 0 ≤ t) (h1 : t ≤ 3000000000000000) (h : dayNo l t ≤ 34000) : dE l t = 0 ∧ dV l t = dayNo l t ∧ oV l t = ofs l (dayNo l t) := by
  have : (valid l && isT t) = true := by simp [hv, isT, h0, h1]
  have h' : ¬ 34000 < dayNo l t := by omega
  simp [dE, dV, oV, this, h']
end Go.Proofs.YtcnenkhgbifmmaaDoor.Lpm

/- Plain facts on tables of leap seconds for the laws of chapter 17. No program in sight. -/
set_option linter.unusedVariables false
namespace Go.Proofs.YtcnenkhgbifmmaaDoor.Lpm

theorem flt_nil {l : LL} {last day : Int} (h : okFrom last l = true) (hd : day ≤ last + 1) : flt l day = [] := by
  unfold flt; rw [List.filter_eq_nil_iff]; intro x hx; have := okFrom_mem h x hx; simp; omega
theorem flt_succ {l : LL} {day : Int} : ∀ {last : Int}, okFrom last l = true → -1 ≤ sum (flt l (day + 1)) - sum (flt l day) ∧ sum (flt l (day + 1)) - sum (flt l day) ≤ 1 := by
  induction l with
  | nil => intro last _; simp [flt, sum]
  | cons x r ih =>
    intro last h
    have hx := okFrom_mem h x (List.mem_cons_self ..)
    rw [okFrom_cons] at h
    simp only [Bool.and_eq_true] at h
    have a := ih h.2
    have cons : ∀ d : Int, sum (flt (x :: r) d) = (if x.1 < d then x.2 else 0) + sum (flt r d) := fun d => by
      unfold flt; by_cases hc : x.1 < d <;> simp [hc, sum]
    rw [cons, cons]
    by_cases h1 : x.1 < day
    · rw [if_pos h1, if_pos (by omega)]; omega
    · by_cases h2 : x.1 = day
      · rw [if_neg h1, if_pos (by omega), flt_nil h.2 (by omega), flt_nil h.2 (by omega)]; simp only [sum]; omega
      · rw [if_neg h1, if_neg (by omega)]; omega
theorem ofs_succ {l : LL} {day : Int} (h : valid l = true) : -1 ≤ ofs l (day + 1) - ofs l day ∧ ofs l (day + 1) - ofs l day ≤ 1 := by
  rw [ofs_flt h, ofs_flt h]; exact flt_succ (valid_ok h)
theorem len_bd {l : LL} {day : Int} (h : valid l = true) : 86399000000 ≤ start l (day + 1) - start l day ∧ start l (day + 1) - start l day ≤ 86401000000 := by
  have := ofs_succ (day := day) h; unfold start; omega
theorem ofs_len {l : LL} {day : Int} (h : valid l = true) : ofs l day ≤ l.length ∧ -ofs l day ≤ l.length := by
  have a := sum_bd (l := pre l day) fun x hx => (valid_mem h x (pre_sub x hx)).2.2
  have b := pre_len (l := l) (day := day)
  unfold ofs; omega
theorem flt_all {l : LL} {a b : Int} (h : ∀ x ∈ l, x.1 < a) (hab : a ≤ b) : flt l b = l := by
  unfold flt; rw [List.filter_eq_self]; intro x hx; have := h x hx; simp; omega
theorem start_last {l : LL} (h : valid l = true) : start l 34001 = start l 34000 + 86400000000 := by
  have a : ofs l 34001 = ofs l 34000 := by
    rw [ofs_flt h, ofs_flt h, flt_all (fun x hx => (valid_mem h x hx).2.1) (by omega), flt_all (fun x hx => (valid_mem h x hx).2.1) (Int.le_refl _)]
  unfold start; rw [a]; omega

/-! a table and its first part -/
theorem okFrom_append {a b : LL} : ∀ {last : Int}, okFrom last (a ++ b) = true → okFrom last a = true := by
  induction a with
  | nil => intro last _; rfl
  | cons x r ih =>
    intro last h
    rw [List.cons_append, okFrom_cons] at h
    simp only [Bool.and_eq_true] at h
    rw [okFrom_cons]; simp only [Bool.and_eq_true]
    exact ⟨h.1, ih h.2⟩
theorem valid_append {a b : LL} (h : valid (a ++ b) = true) : valid a = true := by
  have := valid_len h; simp at this
  have h1 := okFrom_append (valid_ok h)
  unfold valid; simp [h1]; omega
theorem valid_take {l : LL} {k : Nat} (h : valid l = true) : valid (l.take k) = true := by
  have e : l = l.take k ++ l.drop k := (List.take_append_drop k l).symm
  rw [e] at h; exact valid_append h
theorem start_snoc {l : LL} {x : Int × Int} {day : Int} (h : valid (l ++ [x]) = true) : start (l ++ [x]) day = start l day + (if x.1 < day then x.2 * 1000000 else 0) := by
  unfold start; rw [ofs_flt h, ofs_flt (valid_append h), flt_snoc]; split <;> omega
theorem okFrom_rest {a : LL} {x : Int × Int} {r : LL} : ∀ {last : Int}, okFrom last (a ++ x :: r) = true → ∀ y ∈ x :: r, x.1 ≤ y.1 := by
  induction a with
  | nil =>
    intro last h y hy
    rw [List.nil_append, okFrom_cons] at h
    simp only [Bool.and_eq_true] at h
    rcases List.mem_cons.1 hy with rfl | hy
    · omega
    · have := okFrom_mem h.2 y hy; omega
  | cons z a ih =>
    intro last h
    rw [List.cons_append, okFrom_cons] at h
    simp only [Bool.and_eq_true] at h
    exact ih h.2
theorem ofs_take {a : LL} {x : Int × Int} {r : LL} {day : Int} (h : valid (a ++ x :: r) = true) (hd : day ≤ x.1) : ofs (a ++ x :: r) day = ofs a day := by
  rw [ofs_flt h, ofs_flt (valid_append h)]
  unfold flt; rw [List.filter_append]
  have : (x :: r).filter (fun y => decide (y.1 < day)) = [] := by
    rw [List.filter_eq_nil_iff]; intro y hy; have := okFrom_rest (valid_ok h) y hy; simp; omega
  rw [this, List.append_nil]
theorem start_take {a : LL} {x : Int × Int} {r : LL} {day : Int} (h : valid (a ++ x :: r) = true) (hd : day ≤ x.1) : start (a ++ x :: r) day = start a day := by
  unfold start; rw [ofs_take h hd]
/-- up to the beginning of the day of a leap second, the table without this one and the later ones says the same -/
theorem dayNo_take {a : LL} {x : Int × Int} {r : LL} {t : Int} (h : valid (a ++ x :: r) = true) (h0 : 0 ≤ t) (ht : t ≤ start (a ++ x :: r) x.1) :
    dayNo a t = dayNo (a ++ x :: r) t ∧ dayNo (a ++ x :: r) t ≤ 34000 ∧ ofs a (dayNo (a ++ x :: r) t) = ofs (a ++ x :: r) (dayNo (a ++ x :: r) t) := by
  have hx := valid_mem h x (by simp)
  have hin := dayNo_in (t := t) h h0 (Int.lt_of_le_of_lt ht (start_lt h (by omega)))
  have g0 := (dayNo_spec (a ++ x :: r) t).1
  generalize dayNo (a ++ x :: r) t = d at *
  have hd : d ≤ x.1 := by
    rcases Int.lt_or_le x.1 d with hlt | hle
    · have := start_lt h hlt; omega
    · exact hle
  refine ⟨dayNo_of (valid_append h) g0 hin.1 (by rw [← start_take h hd]; exact hin.2.1) ?_, hin.1, (ofs_take h hd).symm⟩
  by_cases e : d = x.1
  · have h1 : start a d = start (a ++ x :: r) d := (start_take h hd).symm
    have h2 := start_lt (valid_append h) (show d < d + 1 by omega)
    rw [e] at h1 h2 hin ⊢
    omega
  · rw [← start_take h (by omega : d + 1 ≤ x.1)]; exact hin.2.2
end Go.Proofs.YtcnenkhgbifmmaaDoor.Lpm
