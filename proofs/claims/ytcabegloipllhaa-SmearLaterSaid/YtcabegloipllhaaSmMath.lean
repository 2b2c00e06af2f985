/- Plain facts on smeared time: windows, where a time is among them, how smeared time goes on. No program in sight. -/
import Derived.Test.YtcabegloipllhaaLpMath2
set_option linter.unusedVariables false
namespace Go.Proofs.Ytcabegloipllhaa.Smm
open Go.Proofs.Ytcabegloipllhaa Go.Proofs.Ytcabegloipllhaa.Lpm
def el (l : LL) (k : Nat) : Int × Int := l[k]?.getD (0, 0)
/-- the middle of a leap second -/
def mid (l : LL) (k : Nat) : Int := start l ((el l k).1 + 1)
/-- the sum of the first k steps -/
def os (l : LL) (k : Nat) : Int := sum (l.take k)
def gap (l : LL) (h : Int) (k : Nat) : Bool := decide (mid l k + h ≤ mid l (k + 1) - h)
def half (h : Int) : Bool := decide (1000000 ≤ h ∧ h ≤ 43200000000)
def can (l : LL) (h : Int) : Bool := valid l && (half h && (List.range (l.length - 1)).all (gap l h))
structure Can (l : LL) (h : Int) : Prop where
  v : valid l = true
  h1 : 1000000 ≤ h
  h2 : h ≤ 43200000000
  g : ∀ k, k + 1 < l.length → mid l k + h ≤ mid l (k + 1) - h
theorem can_yes {l : LL} {h : Int} (c : can l h = true) : Can l h := by
  unfold can half at c
  simp only [Bool.and_eq_true, decide_eq_true_eq, List.all_eq_true] at c
  obtain ⟨c1, ⟨c2, c3⟩, c4⟩ := c
  exact ⟨c1, c2, c3, fun k hk => of_decide_eq_true (c4 k (List.mem_range.2 (by omega)))⟩
theorem can_mk {l : LL} {h : Int} (c : Can l h) : can l h = true := by
  unfold can half
  simp only [Bool.and_eq_true, decide_eq_true_eq, List.all_eq_true]
  exact ⟨c.v, ⟨c.h1, c.h2⟩, fun k hk => decide_eq_true (c.g k (by have := List.mem_range.1 hk; omega))⟩
theorem el_mem {l : LL} (hv : valid l = true) {k : Nat} (hk : k < l.length) : 0 ≤ (el l k).1 ∧ (el l k).1 < 34000 ∧ ((el l k).2 = 1 ∨ (el l k).2 = -1) := by
  have : el l k = l[k] := by unfold el; simp [hk]
  rw [this]; exact valid_mem hv _ (List.getElem_mem _)
theorem okFrom_up {l : LL} : ∀ {last : Int} {j k : Nat}, okFrom last l = true → j < k → k < l.length → (el l j).1 < (el l k).1 := by
  induction l with
  | nil => intro last j k _ _ h; simp at h
  | cons x r ih =>
    intro last j k h hj hk
    rw [okFrom_cons] at h
    simp only [Bool.and_eq_true] at h
    cases k with
    | zero => omega
    | succ k =>
      have hk' : k < r.length := by simpa using hk
      cases j with
      | zero =>
        have e : el (x :: r) (k + 1) = r[k] := by unfold el; simp [hk']
        have := okFrom_mem h.2 (r[k]) (List.getElem_mem _)
        rw [e]; exact this.1
      | succ j => exact ih (last := x.1) h.2 (by omega) hk'
theorem day_up {l : LL} (hv : valid l = true) {j k : Nat} (hj : j < k) (hk : k < l.length) : (el l j).1 < (el l k).1 := okFrom_up (valid_ok hv) hj hk
theorem mid_up {l : LL} (hv : valid l = true) {j k : Nat} (hj : j < k) (hk : k < l.length) : mid l j < mid l k := start_lt hv (by have := day_up hv hj hk; omega)
theorem Can.le {l : LL} {h : Int} (c : Can l h) {j k : Nat} (hj : j < k) (hk : k < l.length) : mid l j + h ≤ mid l k - h := by
  have h1 := c.g j (by omega)
  rcases Nat.lt_or_ge (j + 1) k with e | e
  · have := mid_up c.v e hk; omega
  · rw [show k = j + 1 by omega]; exact h1
theorem mid_bd {l : LL} (hv : valid l = true) {k : Nat} (hk : k < l.length) : 86399000000 ≤ mid l k ∧ mid l k ≤ start l 34000 := by
  have h1 := el_mem hv hk
  have h2 := start_le hv (show (1 : Int) ≤ (el l k).1 + 1 by omega)
  have h3 := len_bd (day := 0) hv
  rw [start_zero hv] at h3
  simp only [Int.zero_add] at h3
  exact ⟨by unfold mid; omega, start_le hv (by omega)⟩
theorem end_bd {l : LL} (hv : valid l = true) : start l 34001 = start l 34000 + 86400000000 ∧ 2937499900000000 ≤ start l 34000 ∧ start l 34000 ≤ 2937700000000000 := by
  have h1 := start_bd (a := 34000) hv
  exact ⟨start_last hv, by omega, by omega⟩
theorem os_succ {l : LL} {k : Nat} (hk : k < l.length) : os l (k + 1) = os l k + (el l k).2 := by
  unfold os el
  rw [List.take_succ_eq_append_getElem hk, sum_append]
  simp [sum, hk]
theorem os_bd {l : LL} (hv : valid l = true) (k : Nat) : -100 ≤ os l k ∧ os l k ≤ 100 := by
  have a := sum_bd (l := l.take k) fun x hx => (valid_mem hv x (List.mem_of_mem_take hx)).2.2
  have b : (l.take k).length ≤ l.length := List.length_take_le' _ _
  have c := valid_len hv
  unfold os; omega
/-- how much of a leap second is smeared at a time of its window, the ends included -/
def adj (h s x : Int) : Int := if s < 0 then -(x * 1000000 / (2 * h)) else (x * 1000000 + (2 * h - 1)) / (2 * h)
def clp (h x : Int) : Int := if x < 0 then 0 else if 2 * h < x then 2 * h else x
theorem adj_zero {h s : Int} (hh : 1000000 ≤ h) : adj h s 0 = 0 := by
  unfold adj; split
  · simp
  · simp only [Int.zero_mul, Int.zero_add]; exact Int.ediv_eq_zero_of_lt (by omega) (by omega)
theorem adj_full {h s : Int} (hh : 1000000 ≤ h) (hs : s = 1 ∨ s = -1) : adj h s (2 * h) = 1000000 * s := by
  have e0 : 2 * h * 1000000 / (2 * h) = 1000000 := Int.mul_ediv_cancel_left _ (by omega)
  unfold adj
  rcases hs with rfl | rfl
  · rw [if_neg (by omega)]
    rw [show 2 * h * 1000000 + (2 * h - 1) = (2 * h - 1) + 1000000 * (2 * h) by omega, Int.add_mul_ediv_right _ _ (by omega), Int.ediv_eq_zero_of_lt (by omega) (by omega)]; rfl
  · rw [if_pos (by omega), e0]; rfl
theorem div_step {a d : Int} (hd : 1000000 ≤ d) : a / d ≤ (a + 1000000) / d ∧ (a + 1000000) / d ≤ a / d + 1 := by
  constructor
  · exact Int.ediv_le_ediv (by omega) (by omega)
  · have := Int.ediv_le_ediv (a := a + 1000000) (b := a + 1 * d) (c := d) (by omega) (by omega)
    rw [Int.add_mul_ediv_right _ _ (by omega)] at this; omega
theorem adj_step {h s x : Int} (hh : 1000000 ≤ h) : (s < 0 → adj h s (x + 1) ≤ adj h s x ∧ adj h s x ≤ adj h s (x + 1) + 1) ∧ (¬ s < 0 → adj h s x ≤ adj h s (x + 1) ∧ adj h s (x + 1) ≤ adj h s x + 1) := by
  constructor
  · intro hs
    unfold adj; rw [if_pos hs, if_pos hs]
    have := div_step (a := x * 1000000) (d := 2 * h) (by omega)
    rw [show (x + 1) * 1000000 = x * 1000000 + 1000000 by omega]; omega
  · intro hs
    unfold adj; rw [if_neg hs, if_neg hs]
    have := div_step (a := x * 1000000 + (2 * h - 1)) (d := 2 * h) (by omega)
    rw [show (x + 1) * 1000000 + (2 * h - 1) = x * 1000000 + (2 * h - 1) + 1000000 by omega]; omega
/-- half of it on each side of the middle -/
theorem adj_half {h s x : Int} (hh : 1000000 ≤ h) (h0 : 0 ≤ x) (h1 : x ≤ 2 * h) (hs : s = 1 ∨ s = -1) :
    (x < h → (s = 1 → 0 ≤ adj h s x ∧ adj h s x ≤ 500000) ∧ (s = -1 → -500000 ≤ adj h s x ∧ adj h s x ≤ 0)) ∧ (h ≤ x → (s = 1 → 500000 ≤ adj h s x ∧ adj h s x ≤ 1000000) ∧ (s = -1 → -1000000 ≤ adj h s x ∧ adj h s x ≤ -500000)) := by
  have p0 : 0 ≤ x * 1000000 / (2 * h) := Int.ediv_nonneg (by omega) (by omega)
  have c0 : 0 ≤ (x * 1000000 + (2 * h - 1)) / (2 * h) := Int.ediv_nonneg (by omega) (by omega)
  have p1 : x * 1000000 / (2 * h) ≤ 1000000 := Int.ediv_le_of_le_mul (by omega) (by omega)
  have c1 : (x * 1000000 + (2 * h - 1)) / (2 * h) ≤ 1000000 := by
    have := Int.ediv_lt_of_lt_mul (a := x * 1000000 + (2 * h - 1)) (b := 1000001) (c := 2 * h) (by omega) (by omega); omega
  refine ⟨fun hx => ?_, fun hx => ?_⟩
  · have p2 : x * 1000000 / (2 * h) ≤ 500000 := Int.ediv_le_of_le_mul (by omega) (by omega)
    have c2 : (x * 1000000 + (2 * h - 1)) / (2 * h) ≤ 500000 := by
      have := Int.ediv_lt_of_lt_mul (a := x * 1000000 + (2 * h - 1)) (b := 500001) (c := 2 * h) (by omega) (by omega); omega
    refine ⟨fun e => ?_, fun e => ?_⟩
    · unfold adj; rw [if_neg (by omega)]; omega
    · unfold adj; rw [if_pos (by omega)]; omega
  · have p2 : 500000 ≤ x * 1000000 / (2 * h) := Int.le_ediv_of_mul_le (by omega) (by omega)
    have c2 : 500000 ≤ (x * 1000000 + (2 * h - 1)) / (2 * h) := Int.le_ediv_of_mul_le (by omega) (by omega)
    refine ⟨fun e => ?_, fun e => ?_⟩
    · unfold adj; rw [if_neg (by omega)]; omega
    · unfold adj; rw [if_pos (by omega)]; omega
theorem adj_mid {h s : Int} (hh : 1000000 ≤ h) (hs : s = 1 ∨ s = -1) : adj h s h = 500000 * s := by
  unfold adj
  rcases hs with rfl | rfl
  · rw [if_neg (by omega)]
    rw [show h * 1000000 + (2 * h - 1) = (2 * h - 1) + 500000 * (2 * h) by omega, Int.add_mul_ediv_right _ _ (by omega), Int.ediv_eq_zero_of_lt (by omega) (by omega)]; rfl
  · rw [if_pos (by omega), show h * 1000000 = 500000 * (2 * h) by omega, Int.mul_ediv_cancel _ (by omega)]; rfl
/-- the window in which a time is -/
def inW (l : LL) (h t : Int) (k : Nat) : Bool := decide (mid l k - h ≤ t) && decide (t < mid l k + h)
def wi (l : LL) (h t : Int) : Option Nat := (List.range l.length).find? (inW l h t)
/-- smeared time in the window k -/
def smW (l : LL) (h t : Int) (k : Nat) : Int := t - 1000000 * os l k - adj h (el l k).2 (t - (mid l k - h))
noncomputable def smV (l : LL) (h t : Int) : Int := match wi l h t with
  | some k => smW l h t k
  | none => t - 1000000 * ofs l (dayNo l t)
/-- where a time is among the windows: k of them are over -/
def At (l : LL) (h t : Int) (k : Nat) : Prop := k ≤ l.length ∧ (∀ j, j < k → mid l j + h ≤ t) ∧ (k < l.length → t < mid l k + h)
theorem at_some (l : LL) (h t : Int) : ∃ k, At l h t k := by
  have aux : ∀ n : Nat, n ≤ l.length → (∃ k, At l h t k) ∨ ∀ j, j < n → mid l j + h ≤ t := by
    intro n
    induction n with
    | zero => intro _; right; intro j hj; omega
    | succ n ih =>
      intro hn
      rcases ih (by omega) with e | e
      · exact .inl e
      · by_cases hc : mid l n + h ≤ t
        · right; intro j hj
          rcases Nat.lt_or_ge j n with e2 | e2
          · exact e j e2
          · rw [show j = n by omega]; exact hc
        · exact .inl ⟨n, by omega, e, fun _ => by omega⟩
  rcases aux l.length (Nat.le_refl _) with e | e
  · exact e
  · exact ⟨l.length, Nat.le_refl _, e, fun h => absurd h (by omega)⟩
theorem At.wi_in {l : LL} {h t : Int} {k : Nat} (a : At l h t k) (hk : k < l.length) (hb : mid l k - h ≤ t) : wi l h t = some k := by
  unfold wi
  rw [List.find?_range_eq_some]
  refine ⟨by unfold inW; rw [decide_eq_true hb, decide_eq_true (a.2.2 hk)]; rfl, List.mem_range.2 hk, fun j hj => ?_⟩
  have := a.2.1 j hj
  unfold inW; rw [decide_eq_false (show ¬ t < mid l j + h by omega)]; simp
theorem At.wi_out {l : LL} {h t : Int} {k : Nat} (c : Can l h) (a : At l h t k) (hb : k < l.length → t < mid l k - h) : wi l h t = none := by
  unfold wi
  rw [List.find?_eq_none]
  intro j hj
  have hj := List.mem_range.1 hj
  rcases Nat.lt_or_ge j k with e | e
  · have := a.2.1 j e
    unfold inW; rw [decide_eq_false (show ¬ t < mid l j + h by omega)]; simp
  · have h1 := hb (by omega)
    have h2 : ¬ mid l j - h ≤ t := by
      rcases Nat.lt_or_ge k j with e2 | e2
      · have := c.le e2 hj; have := c.h1; omega
      · rw [show j = k by omega]; omega
    unfold inW; rw [decide_eq_false h2]; simp
theorem ofs_at {l : LL} {t : Int} (hv : valid l = true) (h0 : 0 ≤ t) (h1 : t < start l 34001) {k : Nat} (hk : k ≤ l.length) (a : ∀ j, j < k → mid l j ≤ t) (b : k < l.length → t < mid l k) : ofs l (dayNo l t) = os l k := by
  obtain ⟨d1, d2, d3⟩ := dayNo_in hv h0 h1
  have up : ∀ j, j < k → (el l j).1 < dayNo l t := fun j hj => by
    rcases Int.lt_or_le (el l j).1 (dayNo l t) with e | e
    · exact e
    · have := start_le hv (show dayNo l t + 1 ≤ (el l j).1 + 1 by omega)
      have := a j hj; unfold mid at this; omega
  have dn : k < l.length → dayNo l t ≤ (el l k).1 := fun hk => by
    rcases Int.lt_or_le (el l k).1 (dayNo l t) with e | e
    · have := start_le hv (show (el l k).1 + 1 ≤ dayNo l t by omega)
      have := b hk; unfold mid at this; omega
    · exact e
  have e : pre l (dayNo l t) = l.take k := by
    unfold pre
    conv => lhs; rw [← List.take_append_drop k l]
    rw [List.takeWhile_append_of_pos]
    · rcases Nat.lt_or_ge k l.length with e | e
      · rw [List.drop_eq_getElem_cons e, List.takeWhile_cons_of_neg]
        · simp
        · have := dn e
          have e2 : el l k = l[k] := by unfold el; simp [e]
          rw [e2] at this; simp; omega
      · rw [List.drop_of_length_le e]; simp
    · intro x hx
      obtain ⟨j, hj, rfl⟩ := List.mem_iff_getElem.1 hx
      rw [List.length_take] at hj
      have := up j (by omega)
      have e2 : el l j = l[j]'(by omega) := by unfold el; simp [show j < l.length by omega]
      rw [e2] at this
      simpa [List.getElem_take] using this
  unfold ofs os; rw [e]
/-- smeared time, by a line for each place among the windows -/
def adjK (l : LL) (h t : Int) (k : Nat) : Int := if k < l.length then adj h (el l k).2 (clp h (t - (mid l k - h))) else 0
def line (l : LL) (h t : Int) (k : Nat) : Int := t - 1000000 * os l k - adjK l h t k
theorem sm_at {l : LL} {h t : Int} (c : Can l h) (h0 : 0 ≤ t) (h1 : t < start l 34001) {k : Nat} (a : At l h t k) : smV l h t = line l h t k := by
  by_cases hb : k < l.length ∧ mid l k - h ≤ t
  · obtain ⟨hk, hb⟩ := hb
    unfold smV; rw [a.wi_in hk hb]
    have := a.2.2 hk
    have e : clp h (t - (mid l k - h)) = t - (mid l k - h) := by unfold clp; rw [if_neg (by omega), if_neg (by omega)]
    show smW l h t k = _
    unfold smW line adjK; rw [if_pos hk, e]
  · have hb' : k < l.length → t < mid l k - h := fun hk => by
      rcases Int.lt_or_le t (mid l k - h) with e | e
      · exact e
      · exact absurd ⟨hk, e⟩ hb
    unfold smV; rw [a.wi_out c hb']
    have hh := c.h1
    have e := ofs_at c.v h0 h1 a.1 (fun j hj => by have := a.2.1 j hj; omega) (fun hk => by have := hb' hk; omega)
    show t - 1000000 * ofs l (dayNo l t) = _
    rw [e]
    unfold line adjK
    split
    · rename_i hk
      have := hb' hk
      have e2 : clp h (t - (mid l k - h)) = 0 := by unfold clp; rw [if_pos (by omega)]
      rw [e2, adj_zero hh]; omega
    · omega
theorem At.next {l : LL} {h t : Int} {k : Nat} (c : Can l h) (hk : k < l.length) (a : ∀ j, j < k → mid l j + h ≤ t) (e : t = mid l k + h) : At l h t (k + 1) := by
  refine ⟨by omega, fun j hj => ?_, fun hk2 => ?_⟩
  · rcases Nat.lt_or_ge j k with e2 | e2
    · exact a j e2
    · rw [show j = k by omega]; omega
  · have := c.g k hk2; have := c.h1; omega
/-- the same at the end of a window -/
theorem sm_line {l : LL} {h t : Int} (c : Can l h) (h0 : 0 ≤ t) (h1 : t < start l 34001) {k : Nat} (hk : k ≤ l.length) (a : ∀ j, j < k → mid l j + h ≤ t) (b : k < l.length → t ≤ mid l k + h) : smV l h t = line l h t k := by
  by_cases e : k < l.length ∧ t = mid l k + h
  · obtain ⟨hk, e⟩ := e
    have a' := At.next c hk a e
    rw [sm_at c h0 h1 a']
    have hh := c.h1
    have z : adjK l h t (k + 1) = 0 := by
      unfold adjK; split
      · rename_i h2
        have := c.g k h2
        have : clp h (t - (mid l (k + 1) - h)) = 0 := by unfold clp; split; rfl; split <;> omega
        rw [this, adj_zero hh]
      · rfl
    have y : adjK l h t k = 1000000 * (el l k).2 := by
      unfold adjK; rw [if_pos hk]
      have : clp h (t - (mid l k - h)) = 2 * h := by unfold clp; rw [if_neg (by omega), if_neg (by omega)]; omega
      rw [this, adj_full hh (el_mem c.v hk).2.2]
    unfold line; rw [z, y, os_succ hk]; omega
  · exact sm_at c h0 h1 ⟨hk, a, fun hk => by have := b hk; rcases Int.lt_or_le t (mid l k + h) with e2 | e2; exact e2; exact absurd ⟨hk, by omega⟩ e⟩
theorem line_step {l : LL} {h t : Int} (c : Can l h) {k : Nat} (b : k < l.length → t < mid l k + h) : line l h t k ≤ line l h (t + 1) k ∧ line l h (t + 1) k ≤ line l h t k + 2 ∧
    (¬ (k < l.length ∧ mid l k - h ≤ t) → line l h (t + 1) k = line l h t k + 1) ∧ (k < l.length → mid l k - h ≤ t → ((el l k).2 = 1 → line l h (t + 1) k ≤ line l h t k + 1) ∧ ((el l k).2 = -1 → line l h t k + 1 ≤ line l h (t + 1) k)) := by
  have hh := c.h1
  unfold line
  by_cases hk : k < l.length
  · have hb := b hk
    by_cases hw : mid l k - h ≤ t
    · have e1 : clp h (t - (mid l k - h)) = t - (mid l k - h) := by unfold clp; rw [if_neg (by omega), if_neg (by omega)]
      have e2 : clp h (t + 1 - (mid l k - h)) = t - (mid l k - h) + 1 := by unfold clp; rw [if_neg (by omega), if_neg (by omega)]; omega
      obtain ⟨s1, s2⟩ := adj_step (s := (el l k).2) (x := t - (mid l k - h)) hh
      have hs := (el_mem c.v hk).2.2
      unfold adjK; rw [if_pos hk, if_pos hk, e1, e2]
      generalize adj h (el l k).2 (t - (mid l k - h)) = A at *
      generalize adj h (el l k).2 (t - (mid l k - h) + 1) = B at *
      generalize (el l k).2 = s at *
      rcases hs with rfl | rfl
      · have := s2 (by omega)
        refine ⟨by omega, by omega, fun h => absurd ⟨hk, hw⟩ h, fun _ _ => ⟨fun _ => by omega, fun h => by omega⟩⟩
      · have := s1 (by omega)
        refine ⟨by omega, by omega, fun h => absurd ⟨hk, hw⟩ h, fun _ _ => ⟨fun h => by omega, fun _ => by omega⟩⟩
    · have e1 : clp h (t - (mid l k - h)) = 0 := by unfold clp; rw [if_pos (by omega)]
      have e2 : clp h (t + 1 - (mid l k - h)) = 0 := by unfold clp; split; rfl; split <;> omega
      unfold adjK; rw [if_pos hk, if_pos hk, e1, e2, adj_zero hh]
      refine ⟨by omega, by omega, fun h => by omega, fun _ h => absurd h hw⟩
  · unfold adjK; rw [if_neg hk, if_neg hk]
    exact ⟨by omega, by omega, fun _ => by omega, fun h => absurd h hk⟩
theorem sm_step {l : LL} {h t : Int} (c : Can l h) (h0 : 0 ≤ t) (h1 : t + 1 < start l 34001) {k : Nat} (a : At l h t k) : smV l h t = line l h t k ∧ smV l h (t + 1) = line l h (t + 1) k :=
  ⟨sm_at c h0 (by omega) a, sm_line c (by omega) h1 a.1 (fun j hj => by have := a.2.1 j hj; omega) (fun hk => by have := a.2.2 hk; omega)⟩
theorem sm_up1 {l : LL} {h t : Int} (c : Can l h) (h0 : 0 ≤ t) (h1 : t + 1 < start l 34001) : smV l h t ≤ smV l h (t + 1) ∧ smV l h (t + 1) ≤ smV l h t + 2 := by
  obtain ⟨k, a⟩ := at_some l h t
  obtain ⟨e1, e2⟩ := sm_step c h0 h1 a
  have := line_step c a.2.2
  rw [e1, e2]; exact ⟨this.1, this.2.1⟩
theorem sm_up {l : LL} {h : Int} (c : Can l h) {s t : Int} (h0 : 0 ≤ s) (hst : s ≤ t) (h1 : t < start l 34001) : smV l h s ≤ smV l h t := by
  have aux : ∀ n : Nat, s + n < start l 34001 → smV l h s ≤ smV l h (s + n) := by
    intro n
    induction n with
    | zero => intro _; simp
    | succ n ih =>
      intro hn
      have h2 := ih (by omega)
      have h3 := (sm_up1 (t := s + n) c (by omega) (by omega)).1
      rw [show s + ((n + 1 : Nat) : Int) = s + n + 1 by omega]; omega
  have := aux (t - s).toNat (by omega)
  rwa [show s + ((t - s).toNat : Int) = t by omega] at this
theorem adjK_bd {l : LL} {h t : Int} (c : Can l h) (k : Nat) : (k < l.length → (el l k).2 = 1 → 0 ≤ adjK l h t k ∧ adjK l h t k ≤ 1000000) ∧ (k < l.length → (el l k).2 = -1 → -1000000 ≤ adjK l h t k ∧ adjK l h t k ≤ 0) ∧ (¬ k < l.length → adjK l h t k = 0) := by
  have hh := c.h1
  have cl : 0 ≤ clp h (t - (mid l k - h)) ∧ clp h (t - (mid l k - h)) ≤ 2 * h := by unfold clp; split; omega; split <;> omega
  refine ⟨fun hk hs => ?_, fun hk hs => ?_, fun hk => by unfold adjK; rw [if_neg hk]⟩
  all_goals
    obtain ⟨g1, g2⟩ := adj_half (s := (el l k).2) hh cl.1 cl.2 (el_mem c.v hk).2.2
    unfold adjK; rw [if_pos hk]
    rcases Int.lt_or_le (clp h (t - (mid l k - h))) h with e | e
    · have := g1 e; first | (have := this.1 hs; omega) | (have := this.2 hs; omega)
    · have := g2 e; first | (have := this.1 hs; omega) | (have := this.2 hs; omega)
/-- smeared time is near the time -/
theorem sm_near {l : LL} {h t : Int} (c : Can l h) (h0 : 0 ≤ t) (h1 : t < start l 34001) : t - 100000000 ≤ smV l h t ∧ smV l h t ≤ t + 100000000 := by
  obtain ⟨k, a⟩ := at_some l h t
  rw [sm_at c h0 h1 a]
  obtain ⟨b1, b2, b3⟩ := adjK_bd (t := t) c k
  have o1 := os_bd c.v k
  have o2 := os_bd c.v (k + 1)
  unfold line
  by_cases hk : k < l.length
  · rw [os_succ hk] at o2
    rcases (el_mem c.v hk).2.2 with e | e
    · have := b1 hk e; rw [e] at o2; omega
    · have := b2 hk e; rw [e] at o2; omega
  · have := b3 hk; omega
/-- at the beginning all is as it is -/
theorem sm_zero {l : LL} {h : Int} (c : Can l h) : smV l h 0 = 0 := by
  have hh := c.h2
  have he := end_bd c.v
  have a : At l h 0 0 := ⟨Nat.zero_le _, fun j hj => by omega, fun hk => by have := mid_bd c.v hk; have := c.h1; omega⟩
  rw [sm_at c (Int.le_refl _) (by omega) a]
  have o : os l 0 = 0 := rfl
  have z : adjK l h 0 0 = 0 := by
    unfold adjK; split
    · rename_i hk
      have := mid_bd c.v hk
      have : clp h (0 - (mid l 0 - h)) = 0 := by unfold clp; rw [if_pos (by omega)]
      rw [this, adj_zero c.h1]
    · rfl
  unfold line; rw [o, z]; rfl
end Go.Proofs.Ytcabegloipllhaa.Smm
