/- Plain facts on smeared time: windows, where a time is among them, how smeared time goes on. No program in sight. -/
import Derived.Test.YtcnenkhgbifmmaaDoorLpMath
set_option linter.unusedVariables false
namespace Go.Proofs.YtcnenkhgbifmmaaDoor.Smm
open Go.Proofs.YtcnenkhgbifmmaaDoor Go.Proofs.YtcnenkhgbifmmaaDoor.Lpm
def el (l : LL) (k : Nat) : Int × Int := l[k]?.getD (0, 0)
/-- the middle of a leap second -/
def mid (l : LL) (k : Nat) : Int := start l ((el l k).1 + 1)
/-- the sum of the first k steps -/
def os (l : LL) (k : Nat) : Int := sum (l.take k)
def gap (l : LL) (h : Int) (k : Nat) : Bool := decide (mid l k + h ≤ mid l (k + 1) - h)
def half (h : Int) : Bool := decide (1000000 ≤ h ∧ h ≤ 43200000000)
def can (l : LL) (h : Int) : Bool := valid l && (half h && (List.range (l.length - 1)).all (gap l h))
structure Can (l : LL) (h : Int) : Prop where
  v : valid l = true
  h1 : 1000000 ≤ h
  h2 : h ≤ 43200000000
  g : ∀ k, k + 1 < l.length → mid l k + h ≤ mid l (k + 1) - h
theorem can_yes {l : LL} {h : Int} (c : can l h = true) : Can l h := by
  unfold can half at c
  simp only [Bool.and_eq_true, decide_eq_true_eq, List.all_eq_true] at c
  obtain ⟨c1, ⟨c2, c3⟩, c4⟩ := c
  exact ⟨c1, c2, c3, fun k hk => of_decide_eq_true (c4 k (List.mem_range.2 (by omega)))⟩
theorem can_mk {l : LL} {h : Int} (c : Can l h) : can l h = true := by
  unfold can half
  simp only [Bool.and_eq_true, decide_eq_true_eq, List.all_eq_true]
  exact ⟨c.v, ⟨c.h1, c.h2⟩, fun k hk => decide_eq_true (c.g k (by have := List.mem_range.1 hk; omega))⟩
theorem el_mem {l : LL} (hv : valid l = true) {k : Nat} (hk : k < l.length) : 0 ≤ (el l k).1 ∧ (el l k).1 < 34000 ∧ ((el l k).2 = 1 ∨ (el l k).2 = -1) := by
  have : el l k = l[k] := by unfold el; simp [hk]
  rw [this]; exact valid_mem hv _ (List.getElem_mem _)
theorem okFrom_up {l : LL} : ∀ {last : Int} {j k : Nat}, okFrom last l = true → j < k → k < l.length → (el l j).1 < (el l k).1 := by
  induction l with
  | nil => intro last j k _ _ h; simp at h
  | cons x r ih =>
    intro last j k h hj hk
    rw [okFrom_cons] at h
    simp only [Bool.and_eq_true] at h
    cases k with
    | zero => omega
    | succ k =>
      have hk' : k < r.length := by simpa using hk
      cases j with
      | zero =>
        have e : el (x :: r) (k + 1) = r[k] := by unfold el; simp [hk']
        have := okFrom_mem h.2 (r[k]) (List.getElem_mem _)
        rw [e]; exact this.1
      | succ j => exact ih (last := x.1) h.2 (by omega) hk'
theorem day_up {l : LL} (hv : valid l = true) {j k : Nat} (hj : j < k) (hk : k < l.length) : (el l j).1 < (el l k).1 := okFrom_up (valid_ok hv) hj hk
theorem mid_up {l : LL} (hv : valid l = true) {j k : Nat} (hj : j < k) (hk : k < l.length) : mid l j < mid l k := start_lt hv (by have := day_up hv hj hk; omega)
theorem Can.le {l : LL} {h : Int} (c : Can l h) {j k : Nat} (hj : j < k) (hk : k < l.length) : mid l j + h ≤ mid l k - h := by
  have h1 := c.g j (by omega)
  rcases Nat.lt_or_ge (j + 1) k with e | e
  · have := mid_up c.v e hk; omega
  · rw [show k = j + 1 by omega]; exact h1
theorem mid_bd {l : LL} (hv : valid l = true) {k : Nat} (hk : k < l.length) : 86399000000 ≤ mid l k ∧ mid l k ≤ start l 34000 := by
  have h1 := el_mem hv hk
  have h2 := start_le hv (show (1 : Int) ≤ (el l k).1 + 1 by omega)
  have h3 := len_bd (day := 0) hv
  rw [start_zero hv] at h3
  simp only [Int.zero_add] at h3
  exact ⟨by unfold mid; omega, start_le hv (by omega)⟩
theorem end_bd {l : LL} (hv : valid l = true) : start l 34001 = start l 34000 + 86400000000 ∧ 2937499900000000 ≤ start l 34000 ∧ start l 34000 ≤ 2937700000000000 := by
  have h1 := start_bd (a := 34000) hv
  exact ⟨start_last hv, by omega, by omega⟩
theorem os_succ {l : LL} {k : Nat} (hk : k < l.length) : os l (k + 1) = os l k + (el l k).2 := by
  unfold os el
  rw [List.take_succ_eq_append_getElem hk, sum_append]
  simp [sum, hk]
theorem os_bd {l : LL} (hv : valid l = true) (k : Nat) : -100 ≤ os l k ∧ os l k ≤ 100 := by
  have a := sum_bd (l := l.take k) fun x hx => (valid_mem hv x (List.mem_of_mem_take hx)).2.2
  have b : (l.take k).length ≤ l.length := List.length_take_le' _ _
  have c := valid_len hv
  unfold os; omega
/-- how much of a leap second is smeared at a time of its window, the ends included -/
def adj (h s x : Int) : Int := if s < 0 then -(x * 1000000 / (2 * h)) else (x * 1000000 + (2 * h - 1)) / (2 * h)
def clp (h x : Int) : Int := if x < 0 then 0 else if 2 * h < x then 2 * h else x
theorem adj_zero {h s : Int} (hh : 1000000 ≤ h) : adj h s 0 = 0 := by
  unfold adj; split
  · simp
  · simp only [Int.zero_mul, Int.zero_add]; exact Int.ediv_eq_zero_of_lt (by omega) (by omega)
theorem adj_full {h s : Int} (hh : 1000000 ≤ h) (hs : s = 1 ∨ s = -1) : adj h s (2 * h) = 1000000 * s := by
  have e0 : 2 * h * 1000000 / (2 * h) = 1000000 := Int.mul_ediv_cancel_left _ (by omega)
  unfold adj
  rcases hs with rfl | rfl
  · rw [if_neg (by omega)]
    rw [show 2 * h * 1000000 + (2 * h - 1) = (2 * h - 1) + 1000000 * (2 * h) by omega, Int.add_mul_ediv_right _ _ (by omega), Int.ediv_eq_zero_of_lt (by omega) (by omega)]; rfl
  · rw [if_pos (by omega), e0]; rfl
theorem div_step {a d : Int} (hd : 1000000 ≤ d) : a / d ≤ (a + 1000000) / d ∧ (a + 1000000) / d ≤ a / d + 1 := by
  constructor
  · exact Int.ediv_le_ediv (by omega) (by omega)
  · have := Int.ediv_le_ediv (a := a + 1000000) (b := a + 1 * d) (c := d) (by omega) (by omega)
    rw [Int.add_mul_ediv_right _ _ (by omega)] at this; omega
theorem adj_step {h s x : Int} (hh : 1000000 ≤ h) : (s < 0 → adj h s (x + 1) ≤ adj h s x ∧ adj h s x ≤ adj h s (x + 1) + 1) ∧ (¬ s < 0 → adj h s x ≤ adj h s (x + 1) ∧ adj h s (x + 1) ≤ adj h s x + 1) := by
  constructor
  · intro hs
    unfold adj; rw [if_pos hs, if_pos hs]
    have := div_step (a := x * 1000000) (d := 2 * h) (by omega)
    rw [show (x + 1) * 1000000 = x * 1000000 + 1000000 by omega]; omega
  · intro hs
    unfold adj; rw [if_neg hs, if_neg hs]
    have := div_step (a := x * 1000000 + (2 * h - 1)) (d := 2 * h) (by omega)
    rw [show (x + 1) * 1000000 + (2 * h - 1) = x * 1000000 + (2 * h - 1) + 1000000 by omega]; omega
/-- half of it on each side of the middle -/
theorem adj_half {h s x : Int} (hh : 1000000 ≤ h) (h0 : 0 ≤ x) (h1 : x ≤ 2 * h) (hs : s = 1 ∨ s = -1) :
    (x < h → (s = 1 → 0 ≤ adj h s x ∧ adj h s x ≤ 500000) ∧ (s = -1 → -500000 ≤ adj h s x ∧ adj h s x ≤ 0)) ∧ (h ≤ x → (s = 1 → 500000 ≤ adj h s x ∧ adj h s x ≤ 1000000) ∧ (s = -1 → -1000000 ≤ adj h s x ∧ adj h s x ≤ -500000)) := by
  have p0 : 0 ≤ x * 1000000 / (2 * h) := Int.ediv_nonneg (by omega) (by omega)
  have c0 : 0 ≤ (x * 1000000 + (2 * h - 1)) / (2 * h) := Int.ediv_nonneg (by omega) (by omega)
  have p1 : x * 1000000 / (2 * h) ≤ 1000000 := Int.ediv_le_of_le_mul (by omega) (by omega)
  have c1 : (x * 1000000 + (2 * h - 1)) / (2 * h) ≤ 1000000 := by
    have := Int.ediv_lt_of_lt_mul (a := x * 1000000 + (2 * h - 1)) (b := 1000001) (c := 2 * h) (by omega) (by omega); omega
  refine ⟨fun hx => ?_, fun hx => ?_⟩
  · have p2 : x * 1000000 / (2 * h) ≤ 500000 := Int.ediv_le_of_le_mul (by omega) (by omega)
    have c2 : (x * 1000000 + (2 * h - 1)) / (2 * h) ≤ 500000 := by
      have := Int.ediv_lt_of_lt_mul (a := x * 1000000 + (2 * h - 1)) (b := 500001) (c := 2 * h) (by omega) (by omega); omega
    refine ⟨fun e => ?_, fun e => ?_⟩
    · unfold adj; rw [if_neg (by omega)]; omega
    · unfold adj; rw [if_pos (by omega)]; omega
  · have p2 : 500000 ≤ x * 1000000 / (2 * h) := Int.le_ediv_of_mul_le (by omega) (by omega)
    have c2 : 500000 ≤ (x * 1000000 + (2 * h - 1)) / (2 * h) := Int.le_ediv_of_mul_le (by omega) (by omega)
    refine ⟨fun e => ?_, fun e => ?_⟩
    · unfold adj; rw [if_neg (by omega)]; omega
    · unfold adj; rw [if_pos (by omega)]; omega
theorem adj_mid {h s : Int} (hh : 1000000 ≤ h) (hs : s = 1 ∨ s = -1) : adj h s h = 500000 * s := by
  unfold adj
  rcases hs with rfl | rfl
  · rw [if_neg (by omega)]
    rw [show h * 1000000 + (2 * h - 1) = (2 * h - 1) + 500000 * (2 * h) by omega, Int.add_mul_ediv_right _ _ (by omega), Int.ediv_eq_zero_of_lt (by omega) (by omega)]; rfl
  · rw [if_pos (by omega), show h * 1000000 = 500000 * (2 * h) by omega, Int.mul_ediv_cancel _ (by omega)]; rfl
/-- the window in which a time is -/
def inW (l : LL) (h t : Int) (k : Nat) : Bool := decide (mid l k - h ≤ t) && decide (t < mid l k + h)
def wi (l : LL) (h t : Int) : Option Nat := (List.range l.length).find? (inW l h t)
/-- smeared time in the window k -/
def smW (l : LL) (h t : Int) (k : Nat) : Int := t - 1000000 * os l k - adj h (el l k).2 (t - (mid l k - h))
noncomputable def smV (l : LL) (h t : Int) : Int := match wi l h t with
  | some k => smW l h t k
  | none => t - 1000000 * ofs l (dayNo l t)
/-- where a time is among the windows: k of them are over -/
def At (l : LL) (h t : Int) (k : Nat) : Prop := k ≤ l.length ∧ (∀ j, j < k → mid l j + h ≤ t) ∧ (k < l.length → t < mid l k + h)
theorem at_some (l : LL) (h t : Int) : ∃ k, At l h t k := by
  have aux : ∀ n : Nat, n ≤ l.length → (∃ k, At l h t k) ∨ ∀ j, j < n → mid l j + h ≤ t := by
    intro n
    induction n with
    | zero => intro _; right; intro j hj; omega
    | succ n ih =>
      intro hn
      rcases ih (by omega) with e | e
      · exact .inl e
      · by_cases hc : mid l n + h ≤ t
        · right; intro j hj
          rcases Nat.lt_or_ge j n with e2 | e2
          · exact e j e2
          · rw [show j = n by omega]; exact hc
        · exact .inl ⟨n, by omega, e, fun _ => by omega⟩
  rcases aux l.length (Nat.le_refl _) with e | e
  · exact e
  · exact ⟨l.length, Nat.le_refl _, e, fun h => absurd h (by omega)⟩
theorem At.wi_in {l : LL} {h t : Int} {k : Nat} (a : At l h t k) (hk : k < l.length) (hb : mid l k - h ≤ t) : wi l h t = some k := by
  unfold wi
  rw [List.find?_range_eq_some]
  refine ⟨by unfold inW; rw [decide_eq_true hb, decide_eq_true (a.2.2 hk)]; rfl, List.mem_range.2 hk, fun j hj => ?_⟩
  have := a.2.1 j hj
  unfold inW; rw [decide_eq_false (show ¬ t < mid l j + h by omega)]; simp
theorem At.wi_out {l : LL} {h t : Int} {k : Nat} (c : Can l h) (a : At l h t k) (hb : k < l.length → t < mid l k - h) : wi l h t = none := by
  unfold wi
  rw [List.find?_eq_none]
  intro j hj
  have hj := List.mem_range.1 hj
  rcases Nat.lt_or_ge j k with e | e
  · have := a.2.1 j e
    unfold inW; rw [decide_eq_false (show ¬ t < mid l j + h by omega)]; simp
  · have h1 := hb (by omega)
    have h2 : ¬ mid l j - h ≤ t := by
      rcases Nat.lt_or_ge k j with e2 | e2
      · have := c.le e2 hj; have := c.h1; omega
      · rw [show j = k by omega]; omega
    unfold inW; rw [decide_eq_false h2]; simp
theorem ofs_at {l : LL} {t : Int} (hv : valid l = true) (h0 : 0 ≤ t) (h1 : t < start l 34001) {k : Nat} (hk : k ≤ l.length) (a : ∀ j, j < k → mid l j ≤ t) (b : k < l.length → t < mid l k) : ofs l (dayNo l t) = os l k := by
  obtain ⟨d1, d2, d3⟩ := dayNo_in hv h0 h1
  have up : ∀ j, j < k → (el l j).1 < dayNo l t := fun j hj => by
    rcases Int.lt_or_le (el l j).1 (dayNo l t) with e | e
    · exact e
    · have := start_le hv (show dayNo l t + 1 ≤ (el l j).1 + 1 by omega)
      have := a j hj; unfold mid at this; omega
  have dn : k < l.length → dayNo l t ≤ (el l k).1 := fun hk => by
    rcases Int.lt_or_le (el l k).1 (dayNo l t) with e | e
    · have := start_le hv (show (el l k).1 + 1 ≤ dayNo l t by omega)
      have := b hk; unfold mid at this; omega
    · exact e
  have e : pre l (dayNo l t) = l.take k := by
    unfold pre
    conv => lhs; rw [← List.take_append_drop k l]
    rw [List.takeWhile_append_of_pos]
    · rcases Nat.lt_or_ge k l.length with e | e
      · rw [List.drop_eq_getElem_cons e, List.takeWhile_cons_of_neg]
        · simp
        · have := dn e
          have e2 : el l k = l[k] := by unfold el; simp [e]
          rw [e2] at this; simp; omega
      · rw [List.drop_of_length_le e]; simp
    · intro x hx
      obtain ⟨j, hj, rfl⟩ := List.mem_iff_getElem.1 hx
      rw [List.length_take] at hj
      have := up j (by omega)
      have e2 : el l j = l[j]'(by omega) := by unfold el; simp [show j < l.length by omega]
      rw [e2] at this
      simpa [List.getElem_take] using this
  unfold ofs os; rw [e]
/-- smeared time, by a line for each place among the windows -/
def adjK (l : LL) (h t : Int) (k : Nat) : Int := if k < l.length then adj h (el l k).2 (clp h (t - (mid l k - h))) else 0
def line (l : LL) (h t : Int) (k : Nat) : Int := t - 1000000 * os l k - adjK l h t k
theorem sm_at {l : LL} {h t : Int} (c : Can l h) (h0 : 0 ≤ t) (h1 : t < start l 34001) {k : Nat} (a : At l h t k) : smV l h t = line l h t k := by
  by_cases hb : k < l.length ∧ mid l k - h ≤ t
  · obtain ⟨hk, hb⟩ := hb
    unfold smV; rw [a.wi_in hk hb]
    have := a.2.2 hk
    have e : clp h (t - (mid l k - h)) = t - (mid l k - h) := by unfold clp; rw [if_neg (by omega), if_neg (by omega)]
    show smW l h t k = _
    unfold smW line adjK; rw [if_pos hk, e]
  · have hb' : k < l.length → t < mid l k - h := fun hk => by
      rcases Int.lt_or_le t (mid l k - h) with e | e
      · exact e
      · exact absurd ⟨hk, e⟩ hb
    unfold smV; rw [a.wi_out c hb']
    have hh := c.h1
    have e := ofs_at c.v h0 h1 a.1 (fun j hj => by have := a.2.1 j hj; omega) (fun hk => by have := hb' hk; omega)
    show t - 1000000 * ofs l (dayNo l t) = _
    rw [e]
    unfold line adjK
    split
    · rename_i hk
      have := hb' hk
      have e2 : clp h (t - (mid l k - h)) = 0 := by unfold clp; rw [if_pos (by omega)]
      rw [e2, adj_zero hh]; omega
    · omega
theorem At.next {l : LL} {h t : Int} {k : Nat} (c : Can l h) (hk : k < l.length) (a : ∀ j, j < k → mid l j + h ≤ t) (e : t = mid l k + h) : At l h t (k + 1) := by
  refine ⟨by omega, fun j hj => ?_, fun hk2 => ?_⟩
  · rcases Nat.lt_or_ge j k with e2 | e2
    · exact a j e2
    · rw [show j = k by omega]; omega
  · have := c.g k hk2; have := c.h1; omega
/-- the same at the end of a window -/
theorem sm_line {l : LL} {h t : Int} (c : Can l h) (h0 : 0 ≤ t) (h1 : t < start l 34001) {k : Nat} (hk : k ≤ l.length) (a : ∀ j, j < k → mid l j + h ≤ t) (b : k < l.length → t ≤ mid l k + h) : smV l h t = line l h t k := by
  by_cases e : k < l.length ∧ t = mid l k + h
  · obtain ⟨hk, e⟩ := e
    have a' := At.next c hk a e
    rw [sm_at c h0 h1 a']
    have hh := c.h1
    have z : adjK l h t (k + 1) = 0 := by
      unfold adjK; split
      · rename_i h2
        have := c.g k h2
        have : clp h (t - (mid l (k + 1) - h)) = 0 := by unfold clp; split; rfl; split <;> omega
        rw [this, adj_zero hh]
      · rfl
    have y : adjK l h t k = 1000000 * (el l k).2 := by
      unfold adjK; rw [if_pos hk]
      have : clp h (t - (mid l k - h)) = 2 * h := by unfold clp; rw [if_neg (by omega), if_neg (by omega)]; omega
      rw [this, adj_full hh (el_mem c.v hk).2.2]
    unfold line; rw [z, y, os_succ hk]; omega
  · exact sm_at c h0 h1 ⟨hk, a, fun hk => by have := b hk; rcases Int.lt_or_le t (mid l k + h) with e2 | e2; exact e2; exact absurd ⟨hk, by omega⟩ e⟩
theorem line_step {l : LL} {h t : Int} (c : Can l h) {k : Nat} (b : k < l.length → t < mid l k + h) : line l h t k ≤ line l h (t + 1) k ∧ line l h (t + 1) k ≤ line l h t k + 2 ∧
    (¬ (k < l.length ∧ mid l k - h ≤ t) → line l h (t + 1) k = line l h t k + 1) ∧ (k < l.length → mid l k - h ≤ t → ((el l k).2 = 1 → line l h (t + 1) k ≤ line l h t k + 1) ∧ ((el l k).2 = -1 → line l h t k + 1 ≤ line l h (t + 1) k)) := by
  have hh := c.h1
  unfold line
  by_cases hk : k < l.length
  · have hb := b hk
    by_cases hw : mid l k - h ≤ t
    · have e1 : clp h (t - (mid l k - h)) = t - (mid l k - h) := by unfold clp; rw [if_neg (by omega), if_neg (by omega)]
      have e2 : clp h (t + 1 - (mid l k - h)) = t - (mid l k - h) + 1 := by unfold clp; rw [if_neg (by omega), if_neg (by omega)]; omega
      obtain ⟨s1, s2⟩ := adj_step (s := (el l k).2) (x := t - (mid l k - h)) hh
      have hs := (el_mem c.v hk).2.2
      unfold adjK; rw [if_pos hk, if_pos hk, e1, e2]
      generalize adj h (el l k).2 (t - (mid l k - h)) = A at *
      generalize adj h (el l k).2 (t - (mid l k - h) + 1) = B at *
      generalize (el l k).2 = s at *
      rcases hs with rfl | rfl
      · have := s2 (by omega)
        refine ⟨by omega, by omega, fun h => absurd ⟨hk, hw⟩ h, fun _ _ => ⟨fun _ => by omega, fun h => by omega⟩⟩
      · have := s1 (by omega)
        refine ⟨by omega, by omega, fun h => absurd ⟨hk, hw⟩ h, fun _ _ => ⟨fun h => by omega, fun _ => by omega⟩⟩
    · have e1 : clp h (t - (mid l k - h)) = 0 := by unfold clp; rw [if_pos (by omega)]
      have e2 : clp h (t + 1 - (mid l k - h)) = 0 := by unfold clp; split; rfl; split <;> omega
      unfold adjK; rw [if_pos hk, if_pos hk, e1, e2, adj_zero hh]
      refine ⟨by omega, by omega, fun h => by omega, fun _ h => absurd h hw⟩
  · unfold adjK; rw [if_neg hk, if_neg hk]
    exact ⟨by omega, by omega, fun _ => by omega, fun h => absurd h hk⟩
theorem sm_step {l : LL} {h t : Int} (c : Can l h) (h0 : 0 ≤ t) (h1 : t + 1 < start l 34001) {k : Nat} (a : At l h t k) : smV l h t = line l h t k ∧ smV l h (t + 1) = line l h (t + 1) k :=
  ⟨sm_at c h0 (by omega) a, sm_line c (by omega) h1 a.1 (fun j hj => by have := a.2.1 j hj; omega) (fun hk => by have := a.2.2 hk; omega)⟩
theorem sm_up1 {l : LL} {h t : Int} (c : Can l h) (h0 : 0 ≤ t) (h1 : t + 1 < start l 34001) : smV l h t ≤ smV l h (t + 1) ∧ smV l h (t + 1) ≤ smV l h t + 2 := by
  obtain ⟨k, a⟩ := at_some l h t
  obtain ⟨e1, e2⟩ := sm_step c h0 h1 a
  have := line_step c a.2.2
  rw [e1, e2]; exact ⟨this.1, this.2.1⟩
theorem sm_up {l : LL} {h : Int} (c : Can l h) {s t : Int} (h0 : 0 ≤ s) (hst : s ≤ t) (h1 : t < start l 34001) : smV l h s ≤ smV l h t := by
  have aux : ∀ n : Nat, s + n < start l 34001 → smV l h s ≤ smV l h (s + n) := by
    intro n
    induction n with
    | zero => intro _; simp
    | succ n ih =>
      intro hn
      have h2 := ih (by omega)
      have h3 := (sm_up1 (t := s + n) c (by omega) (by omega)).1
      rw [show s + ((n + 1 : Nat) : Int) = s + n + 1 by omega]; omega
  have := aux (t - s).toNat (by omega)
  rwa [show s + ((t - s).toNat : Int) = t by omega] at this
theorem adjK_bd {l : LL} {h t : Int} (c : Can l h) (k : Nat) : (k < l.length → (el l k).2 = 1 → 0 ≤ adjK l h t k ∧ adjK l h t k ≤ 1000000) ∧ (k < l.length → (el l k).2 = -1 → -1000000 ≤ adjK l h t k ∧ adjK l h t k ≤ 0) ∧ (¬ k < l.length → adjK l h t k = 0) := by
  have hh := c.h1
  have cl : 0 ≤ clp h (t - (mid l k - h)) ∧ clp h (t - (mid l k - h)) ≤ 2 * h := by unfold clp; split; omega; split <;> omega
  refine ⟨fun hk hs => ?_, fun hk hs => ?_, fun hk => by unfold adjK; rw [if_neg hk]⟩
  all_goals
    obtain ⟨g1, g2⟩ := adj_half (s := (el l k).2) hh cl.1 cl.2 (el_mem c.v hk).2.2
    unfold adjK; rw [if_pos hk]
    rcases Int.lt_or_le (clp h (t - (mid l k - h))) h with e | e
    · have := g1 e; first | (have := this.1 hs; omega) | (have := this.2 hs; omega)
    · have := g2 e; first | (have := this.1 hs; omega) | (have := this.2 hs; omega)
/-- smeared time is near the time -/
theorem sm_near {l : LL} {h t : Int} (c : Can l h) (h0 : 0 ≤ t) (h1 : t < start l 34001) : t - 100000000 ≤ smV l h t ∧ smV l h t ≤ t + 100000000 := by
  obtain ⟨k, a⟩ := at_some l h t
  rw [sm_at c h0 h1 a]
  obtain ⟨b1, b2, b3⟩ := adjK_bd (t := t) c k
  have o1 := os_bd c.v k
  have o2 := os_bd c.v (k + 1)
  unfold line
  by_cases hk : k < l.length
  · rw [os_succ hk] at o2
    rcases (el_mem c.v hk).2.2 with e | e
    · have := b1 hk e; rw [e] at o2; omega
    · have := b2 hk e; rw [e] at o2; omega
  · have := b3 hk; omega
/-- at the beginning all is as it is -/
theorem sm_zero {l : LL} {h : Int} (c : Can l h) : smV l h 0 = 0 := by
  have hh := c.h2
  have he := end_bd c.v
  have a : At l h 0 0 := ⟨Nat.zero_le _, fun j hj => by omega, fun hk => by have := mid_bd c.v hk; have := c.h1; omega⟩
  rw [sm_at c (Int.le_refl _) (by omega) a]
  have o : os l 0 = 0 := rfl
  have z : adjK l h 0 0 = 0 := by
    unfold adjK; split
    · rename_i hk
      have := mid_bd c.v hk
      have : clp h (0 - (mid l 0 - h)) = 0 := by unfold clp; rw [if_pos (by omega)]
      rw [this, adj_zero c.h1]
    · rfl
  unfold line; rw [o, z]; rfl
end Go.Proofs.YtcnenkhgbifmmaaDoor.Smm

/- Plain facts on smeared time and the times with it; the plain laws of the chapter. No program in sight. -/
set_option linter.unusedVariables false
namespace Go.Proofs.YtcnenkhgbifmmaaDoor.Smm
open Go.Proofs.YtcnenkhgbifmmaaDoor Go.Proofs.YtcnenkhgbifmmaaDoor.Lpm
/-- the end of all days -/
def fin (l : LL) : Int := start l 34001
/-- f is the first time with at least the smeared time v, or the end -/
def IsF (l : LL) (h v f : Int) : Prop := 0 ≤ f ∧ f ≤ fin l ∧ (∀ t, 0 ≤ t → t < f → smV l h t < v) ∧ (f < fin l → v ≤ smV l h f)
theorem IsF.one {l : LL} {h v f g : Int} (a : IsF l h v f) (b : IsF l h v g) : f = g := by
  obtain ⟨a1, a2, a3, a4⟩ := a
  obtain ⟨b1, b2, b3, b4⟩ := b
  rcases Int.lt_trichotomy f g with e | e | e
  · have := b3 f a1 e; have := a4 (by omega); omega
  · exact e
  · have := a3 g b1 e; have := b4 (by omega); omega
theorem IsF.some {l : LL} {h v : Int} (hf : 0 ≤ fin l) : ∃ f, IsF l h v f := by
  have aux : ∀ n : Nat, (n : Int) ≤ fin l → (∃ f, IsF l h v f) ∨ ∀ t : Int, 0 ≤ t → t < n → smV l h t < v := by
    intro n
    induction n with
    | zero => intro _; right; intro t h0 h1; omega
    | succ n ih =>
      intro hn
      rcases ih (by omega) with e | e
      · exact .inl e
      · by_cases hc : smV l h n < v
        · right; intro t h0 h1
          by_cases e2 : t = n
          · rw [e2]; exact hc
          · exact e t h0 (by omega)
        · exact .inl ⟨n, by omega, by omega, e, fun _ => by omega⟩
  rcases aux (fin l).toNat (by omega) with e | e
  · exact e
  · exact ⟨fin l, hf, Int.le_refl _, fun t h0 h1 => e t h0 (by omega), fun h => absurd h (by omega)⟩
noncomputable def fst (l : LL) (h v : Int) : Int := Classical.epsilon (IsF l h v)
theorem fin_bd {l : LL} {h : Int} (c : Can l h) : 2937586300000000 ≤ fin l ∧ fin l ≤ 2937786400000000 := by
  have := end_bd c.v; unfold fin; omega
theorem fst_spec {l : LL} {h : Int} (c : Can l h) (v : Int) : IsF l h v (fst l h v) := Classical.epsilon_spec (IsF.some (by have := fin_bd c; omega))
theorem fst_is {l : LL} {h v f : Int} (a : IsF l h v f) : fst l h v = f := (Classical.epsilon_spec ⟨f, a⟩ : IsF l h v (fst l h v)).one a
theorem fst_le {l : LL} {h v w : Int} (c : Can l h) (hv : v ≤ w) : fst l h v ≤ fst l h w := by
  obtain ⟨a1, a2, a3, a4⟩ := fst_spec c v
  obtain ⟨b1, b2, b3, b4⟩ := fst_spec c w
  rcases Int.lt_or_le (fst l h w) (fst l h v) with e | e
  · have := a3 _ b1 e; have := b4 (by omega); omega
  · exact e
theorem fst_of {l : LL} {h v t : Int} (c : Can l h) (h0 : 0 ≤ t) (h1 : t < fin l) : fst l h v ≤ t ↔ v ≤ smV l h t := by
  obtain ⟨a1, a2, a3, a4⟩ := fst_spec c v
  constructor
  · intro e
    have := sm_up c a1 e h1
    have := a4 (by omega); omega
  · intro e
    rcases Int.lt_or_le t (fst l h v) with e2 | e2
    · have := a3 t h0 e2; omega
    · exact e2
/-- where to look -/
theorem fst_in {l : LL} {h v : Int} (c : Can l h) {lo hi : Int} (h0 : 0 ≤ lo) (h1 : hi ≤ fin l) (hlo : lo = 0 ∨ lo + 100000000 ≤ v) (hhi : hi = fin l ∨ v ≤ hi - 100000000) (hl : lo ≤ hi) : lo ≤ fst l h v ∧ fst l h v ≤ hi := by
  obtain ⟨a1, a2, a3, a4⟩ := fst_spec c v
  constructor
  · rcases hlo with e | e
    · omega
    · rcases Int.lt_or_le (fst l h v) lo with e2 | e2
      · have := a4 (by omega)
        have := (sm_near c a1 (by have : fin l = start l 34001 := rfl; omega)).2; omega
      · exact e2
  · rcases hhi with e | e
    · omega
    · rcases Int.lt_or_le hi (fst l h v) with e2 | e2
      · have := a3 hi (by omega) e2
        have := (sm_near (t := hi) c (by omega) (by have : fin l = start l 34001 := rfl; omega)).1; omega
      · exact e2
/-! what the functions return -/
noncomputable def toE (l : LL) (h t : Int) : Int := if can l h then dE l t else 1
noncomputable def toV (l : LL) (h t : Int) : Int := if can l h then (if dE l t = 0 then smV l h t else 0) else 0
noncomputable def inV (l : LL) (h t : Int) : Bool := can l h && (decide (dE l t = 0) && (wi l h t).isSome)
noncomputable def apV (l : LL) (h t : Int) : Int := if can l h then (if dE l t = 0 then smV l h t - (t - 1000000 * ofs l (dayNo l t)) else 0) else 0
def fr (l : LL) (h v : Int) : Bool := can l h && decide (0 ≤ v ∧ v ≤ 3000000000000000)
def frE (l : LL) (h v : Int) : Int := if fr l h v then 0 else 1
noncomputable def frI (l : LL) (h v : Int) : Bool := fr l h v && decide (fst l h v < fst l h (v + 1))
noncomputable def frLo (l : LL) (h v : Int) : Int := if frI l h v then fst l h v else 0
noncomputable def frHi (l : LL) (h v : Int) : Int := if frI l h v then fst l h (v + 1) - 1 else 0
theorem dE_zero {l : LL} {t : Int} (hv : valid l = true) : dE l t = 0 ↔ 0 ≤ t ∧ t < fin l := by
  have he := end_bd hv
  have hf : fin l = start l 34001 := rfl
  constructor
  · intro h
    by_cases h1 : 0 ≤ t ∧ t ≤ 3000000000000000
    · by_cases h2 : dayNo l t ≤ 34000
      · obtain ⟨-, -, -, a4⟩ := dayNo_spec l t
        have := a4 (by omega)
        have := start_le hv (show dayNo l t + 1 ≤ 34001 by omega)
        omega
      · have := (d_far hv h1.1 h1.2 (by omega)).1; omega
    · have := (d_no (l := l) (t := t) (by omega)).1; omega
  · intro ⟨h0, h1⟩
    exact (d_yes hv h0 (by omega) (dayNo_in hv h0 (by omega)).1).1
theorem dE_ways {l : LL} {t : Int} (hv : valid l = true) : (t < 0 ∧ dE l t = 1) ∨ (3000000000000000 < t ∧ dE l t = 1) ∨ (0 ≤ t ∧ t < fin l ∧ dE l t = 0) ∨ (0 ≤ t ∧ t ≤ 3000000000000000 ∧ fin l ≤ t ∧ dE l t = 3) := by
  have hf : fin l = start l 34001 := rfl
  rcases Int.lt_or_le t 0 with h | h
  · exact .inl ⟨h, (d_no (by omega)).1⟩
  rcases Int.lt_or_le 3000000000000000 t with h2 | h2
  · exact .inr (.inl ⟨h2, (d_no (by omega)).1⟩)
  rcases Int.lt_or_le t (fin l) with h3 | h3
  · exact .inr (.inr (.inl ⟨h, h3, (dE_zero hv).2 ⟨h, h3⟩⟩))
  · exact .inr (.inr (.inr ⟨h, h2, h3, (d_far hv h h2 (by rw [dayNo_out hv (by omega)]; omega)).1⟩))
theorem to_yes {l : LL} {h t : Int} (c : Can l h) (h0 : 0 ≤ t) (h1 : t < fin l) : toE l h t = 0 ∧ toV l h t = smV l h t := by
  have := (dE_zero c.v).2 ⟨h0, h1⟩
  unfold toE toV; rw [can_mk c, if_pos rfl, if_pos rfl, if_pos this]; exact ⟨this, rfl⟩
theorem to_no {l : LL} {h t : Int} (c : Can l h) (hn : ¬ (0 ≤ t ∧ t < fin l)) : toE l h t ≠ 0 ∧ toV l h t = 0 := by
  have : ¬ dE l t = 0 := fun e => hn ((dE_zero c.v).1 e)
  unfold toE toV; rw [can_mk c, if_pos rfl, if_pos rfl, if_neg this]; exact ⟨this, rfl⟩
theorem fr_yes {l : LL} {h v : Int} (c : Can l h) (h0 : 0 ≤ v) (h1 : v ≤ 3000000000000000) : fr l h v = true := by unfold fr; rw [can_mk c, decide_eq_true ⟨h0, h1⟩]; rfl
theorem fr_is {l : LL} {h v : Int} (c : Can l h) (h0 : 0 ≤ v) (h1 : v ≤ 3000000000000000) (hf : fst l h v < fst l h (v + 1)) : frE l h v = 0 ∧ frI l h v = true ∧ frLo l h v = fst l h v ∧ frHi l h v = fst l h (v + 1) - 1 := by
  have e := fr_yes c h0 h1
  have e2 : frI l h v = true := by unfold frI; rw [e, decide_eq_true hf]; rfl
  unfold frE frLo frHi; rw [e, e2]; exact ⟨rfl, rfl, rfl, rfl⟩
theorem fr_none {l : LL} {h v : Int} (c : Can l h) (h0 : 0 ≤ v) (h1 : v ≤ 3000000000000000) (hf : ¬ fst l h v < fst l h (v + 1)) : frE l h v = 0 ∧ frI l h v = false ∧ frLo l h v = 0 ∧ frHi l h v = 0 := by
  have e := fr_yes c h0 h1
  have e2 : frI l h v = false := by unfold frI; rw [decide_eq_false hf]; simp
  unfold frE frLo frHi; rw [e, e2]; exact ⟨rfl, rfl, rfl, rfl⟩
theorem fr_bad {l : LL} {h v : Int} (hf : fr l h v = false) : frE l h v = 1 ∧ frI l h v = false ∧ frLo l h v = 0 ∧ frHi l h v = 0 := by
  have e2 : frI l h v = false := by unfold frI; rw [hf]; rfl
  unfold frE frLo frHi; rw [hf, e2]; exact ⟨rfl, rfl, rfl, rfl⟩
/-- each time is among those with its smeared time -/
theorem inverse1 {l : LL} {h t : Int} (c : Can l h) (h0 : 0 ≤ t) (h1 : t < fin l) {a : Int} (ha : smV l h t = a) :
    (0 ≤ a ∧ a ≤ 3000000000000000) ∧ ∃ F G : Int, fst l h a = F ∧ fst l h (a + 1) = G ∧ 0 ≤ F ∧ F ≤ t ∧ t + 1 ≤ G ∧ G ≤ fin l ∧ smV l h F = a ∧ smV l h (G - 1) = a ∧ (1 ≤ F → smV l h (F - 1) < a) ∧ (G < fin l → a < smV l h G) := by
  have hf := fin_bd c
  have hfe : fin l = start l 34001 := rfl
  have z := sm_zero c
  have u := sm_up c (Int.le_refl 0) h0 (by omega)
  have nr := sm_near c h0 (by omega)
  obtain ⟨a1, a2, a3, a4⟩ := fst_spec c a
  obtain ⟨b1, b2, b3, b4⟩ := fst_spec c (a + 1)
  have e1 := (fst_of (v := a) c h0 h1).2 (by omega)
  have e2 : ¬ fst l h (a + 1) ≤ t := fun e => by have := (fst_of (v := a + 1) c h0 h1).1 e; omega
  refine ⟨⟨by omega, by omega⟩, fst l h a, fst l h (a + 1), rfl, rfl, a1, e1, by omega, b2, ?_, ?_, fun e => a3 _ (by omega) (by omega), fun e => by have := b4 e; omega⟩
  · have g1 := a4 (by omega)
    have g2 := sm_up c a1 e1 (by omega)
    omega
  · have g1 := b3 (fst l h (a + 1) - 1) (by omega) (by omega)
    have g2 := sm_up c h0 (show t ≤ fst l h (a + 1) - 1 by omega) (by omega)
    omega
/-- the ways of a smeared time -/
theorem inverse2 {l : LL} {h v : Int} (c : Can l h) : (fst l h v < fst l h (v + 1) → 0 ≤ fst l h v ∧ fst l h v < fin l ∧ smV l h (fst l h v) = v) ∧
    (¬ fst l h v < fst l h (v + 1) → fst l h v < fin l → v < smV l h (fst l h v)) := by
  obtain ⟨a1, a2, a3, a4⟩ := fst_spec c v
  obtain ⟨b1, b2, b3, b4⟩ := fst_spec c (v + 1)
  have le := fst_le c (show v ≤ v + 1 by omega)
  refine ⟨fun e => ⟨a1, by omega, ?_⟩, fun e e2 => ?_⟩
  · have := a4 (by omega); have := b3 _ a1 e; omega
  · have e3 : fst l h v = fst l h (v + 1) := by omega
    have := b4 (by omega); rw [e3]; omega
/-- where From looks -/
theorem from_ways {l : LL} {h v : Int} (c : Can l h) (h0 : 0 ≤ v) {lo hi : Int} (hlo : (if 0 < v - 101000000 then v - 101000000 else 0) = lo) (hhi : (if v + 101000000 < fin l then v + 101000000 else fin l) = hi) :
    (hi ≤ lo → ¬ fst l h v < fst l h (v + 1)) ∧ (lo < hi → 0 ≤ lo ∧ hi ≤ fin l ∧ (lo ≤ fst l h v ∧ fst l h v ≤ hi) ∧ lo ≤ fst l h (v + 1) ∧ fst l h (v + 1) ≤ hi) := by
  have hf := fin_bd c
  have hfe : fin l = start l 34001 := rfl
  have far : ∀ u, v ≤ u → fin l ≤ v - 101000000 → fst l h u = fin l := fun u hu hx => by
    obtain ⟨a1, a2, a3, a4⟩ := fst_spec c u
    rcases Int.lt_or_le (fst l h u) (fin l) with e | e
    · have := a4 e
      have := (sm_near c a1 (by omega)).2; omega
    · omega
  constructor
  · intro hle
    have hx : fin l ≤ v - 101000000 := by rw [← hlo, ← hhi] at hle; split at hle <;> split at hle <;> omega
    rw [far v (Int.le_refl _) hx, far (v + 1) (by omega) hx]; omega
  · intro hlt
    have l0 : 0 ≤ lo := by rw [← hlo]; split <;> omega
    have l1 : lo = 0 ∨ lo + 100000000 ≤ v := by rw [← hlo]; split <;> omega
    have i0 : hi ≤ fin l := by rw [← hhi]; split <;> omega
    have i1 : hi = fin l ∨ v + 1 ≤ hi - 100000000 := by rw [← hhi]; split <;> omega
    exact ⟨l0, i0, fst_in c l0 i0 l1 (by omega) (by omega), fst_in c l0 i0 (by omega) i1 (by omega)⟩
/-- what a search that has ended has found -/
theorem found {l : LL} {h v lo hi i : Int} (c : Can l h) (l0 : 0 ≤ lo) (i0 : hi ≤ fin l) (h1 : lo ≤ fst l h v) (h2 : fst l h v ≤ hi) (hi0 : 0 ≤ i) (hi1 : i ≤ hi - lo) (a : 0 < i → smV l h (lo + (i - 1)) < v) (b : i < hi - lo → v ≤ smV l h (lo + i)) : lo + i = fst l h v := by
  have e1 : lo + i ≤ fst l h v := by
    rcases Int.lt_or_le 0 i with e | e
    · have := a e
      have : ¬ fst l h v ≤ lo + (i - 1) := fun q => by have := (fst_of (v := v) c (by omega) (by omega)).1 q; omega
      omega
    · omega
  have e2 : fst l h v ≤ lo + i := by
    rcases Int.lt_or_le i (hi - lo) with e | e
    · exact (fst_of c (by omega) (by omega)).2 (b e)
    · omega
  omega
theorem wi_ways {l : LL} {h t : Int} {k : Nat} (c : Can l h) (a : At l h t k) : (wi l h t = none ∧ ¬ (k < l.length ∧ mid l k - h ≤ t)) ∨ (wi l h t = some k ∧ k < l.length ∧ mid l k - h ≤ t ∧ t < mid l k + h) := by
  by_cases hb : k < l.length ∧ mid l k - h ≤ t
  · exact .inr ⟨a.wi_in hb.1 hb.2, hb.1, hb.2, a.2.2 hb.1⟩
  · refine .inl ⟨a.wi_out c fun hk => ?_, hb⟩
    rcases Int.lt_or_le t (mid l k - h) with e | e
    · exact e
    · exact absurd ⟨hk, e⟩ hb
/-- how it goes on -/
theorem goes_on {l : LL} {h t : Int} (c : Can l h) (h0 : 0 ≤ t) (h1 : t + 1 < fin l) :
    (wi l h t = none → smV l h (t + 1) = smV l h t + 1 ∧ smV l h t = t - 1000000 * ofs l (dayNo l t)) ∧
    (∀ k, wi l h t = some k → k < l.length ∧ ((el l k).2 = 1 ∨ (el l k).2 = -1) ∧ ((el l k).2 = 1 → smV l h (t + 1) = smV l h t ∨ smV l h (t + 1) = smV l h t + 1) ∧ ((el l k).2 = -1 → smV l h (t + 1) = smV l h t + 1 ∨ smV l h (t + 1) = smV l h t + 2)) := by
  obtain ⟨k, a⟩ := at_some l h t
  obtain ⟨e1, e2⟩ := sm_step c h0 (by have : fin l = start l 34001 := rfl; omega) a
  obtain ⟨s1, s2, s3, s4⟩ := line_step c a.2.2
  rcases wi_ways c a with ⟨w1, w2⟩ | ⟨w1, w2, w3, w4⟩
  · refine ⟨fun _ => ⟨by rw [e1, e2]; exact s3 w2, by unfold smV; rw [w1]⟩, fun k' hk => ?_⟩
    rw [w1] at hk; cases hk
  · refine ⟨fun hk => (by rw [w1] at hk; cases hk), fun k' hk => ?_⟩
    rw [w1] at hk
    obtain rfl := Option.some.inj hk
    have s5 := s4 w2 w3
    refine ⟨w2, (el_mem c.v w2).2.2, fun q => ?_, fun q => ?_⟩
    · have := s5.1 q; rw [e1, e2]; omega
    · have := s5.2 q; rw [e1, e2]; omega
/-- how far it is from civil time -/
theorem apart {l : LL} {h t : Int} (c : Can l h) (h0 : 0 ≤ t) (h1 : t < fin l) :
    (wi l h t = none → smV l h t - (t - 1000000 * ofs l (dayNo l t)) = 0) ∧
    (∀ k, wi l h t = some k → k < l.length ∧ ((el l k).2 = 1 ∨ (el l k).2 = -1) ∧ -500000 ≤ smV l h t - (t - 1000000 * ofs l (dayNo l t)) ∧ smV l h t - (t - 1000000 * ofs l (dayNo l t)) ≤ 500000 ∧
      ((el l k).2 = 1 → t < mid l k → smV l h t - (t - 1000000 * ofs l (dayNo l t)) ≤ 0) ∧ ((el l k).2 = 1 → mid l k ≤ t → 0 ≤ smV l h t - (t - 1000000 * ofs l (dayNo l t))) ∧
      ((el l k).2 = -1 → t < mid l k → 0 ≤ smV l h t - (t - 1000000 * ofs l (dayNo l t))) ∧ ((el l k).2 = -1 → mid l k ≤ t → smV l h t - (t - 1000000 * ofs l (dayNo l t)) ≤ 0)) := by
  have hfe : fin l = start l 34001 := rfl
  have hh := c.h1
  refine ⟨fun w => by unfold smV; rw [w]; exact Int.sub_self _, fun k hk => ?_⟩
  obtain ⟨k', a⟩ := at_some l h t
  rcases wi_ways c a with ⟨w1, w2⟩ | ⟨w1, w2, w3, w4⟩
  · rw [w1] at hk; cases hk
  rw [w1] at hk
  obtain rfl := Option.some.inj hk
  have hs := (el_mem c.v w2).2.2
  have e : smV l h t = smW l h t k' := by unfold smV; rw [w1]
  obtain ⟨g1, g2⟩ := adj_half (s := (el l k').2) (x := t - (mid l k' - h)) hh (by omega) (by omega) hs
  rcases Int.lt_or_le t (mid l k') with hm | hm
  · have o := ofs_at c.v h0 (by omega) a.1 (fun j hj => by have := a.2.1 j hj; omega) (fun _ => hm)
    have g := g1 (by omega)
    rw [e, o]; unfold smW
    generalize adj h (el l k').2 (t - (mid l k' - h)) = A at *
    generalize (el l k').2 = s at *
    rcases hs with rfl | rfl
    · have := g.1 rfl; refine ⟨w2, .inl rfl, by omega, by omega, fun _ _ => by omega, fun _ _ => by omega, fun q => by omega, fun q => by omega⟩
    · have := g.2 rfl; refine ⟨w2, .inr rfl, by omega, by omega, fun q => by omega, fun q => by omega, fun _ _ => by omega, fun _ _ => by omega⟩
  · have o := ofs_at c.v h0 (by omega) (k := k' + 1) (by omega) (fun j hj => by
      rcases Nat.lt_or_ge j k' with q | q
      · have := a.2.1 j q; omega
      · rw [show j = k' by omega]; exact hm) (fun hk2 => by have := c.g k' hk2; omega)
    have g := g2 (by omega)
    rw [e, o, os_succ w2]; unfold smW
    generalize adj h (el l k').2 (t - (mid l k' - h)) = A at *
    generalize (el l k').2 = s at *
    rcases hs with rfl | rfl
    · have := g.1 rfl; refine ⟨w2, .inl rfl, by omega, by omega, fun _ _ => by omega, fun _ _ => by omega, fun q => by omega, fun q => by omega⟩
    · have := g.2 rfl; refine ⟨w2, .inr rfl, by omega, by omega, fun q => by omega, fun q => by omega, fun _ _ => by omega, fun _ _ => by omega⟩
/-- the whole window -/
theorem window {l : LL} {h : Int} (c : Can l h) {k : Nat} (hk : k < l.length) : 0 ≤ mid l k - h ∧ mid l k + h < fin l ∧ smV l h (mid l k + h) - smV l h (mid l k - h) = 2 * h - 1000000 * (el l k).2 ∧
    smV l h (mid l k) - (mid l k - 1000000 * ofs l (dayNo l (mid l k))) = 500000 * (el l k).2 ∧ dayNo l (mid l k) = (el l k).1 + 1 := by
  have hfe : fin l = start l 34001 := rfl
  have hh := c.h1
  have hh2 := c.h2
  have hm := mid_bd c.v hk
  have he := end_bd c.v
  have hs := (el_mem c.v hk).2.2
  have a1 : At l h (mid l k - h) k := ⟨by omega, fun j hj => by have := c.le hj hk; omega, fun _ => by omega⟩
  have a2 : At l h (mid l k) k := ⟨by omega, fun j hj => by have := c.le hj hk; omega, fun _ => by omega⟩
  have e1 := sm_at c (by omega) (by omega) a1
  have e2 := sm_at c (by omega) (by omega) a2
  have e3 := sm_line (t := mid l k + h) c (by omega) (by omega) (show k ≤ l.length by omega) (fun j hj => by have := c.le hj hk; omega) (fun _ => by omega)
  have o := ofs_at (t := mid l k) c.v (by omega) (by omega) (k := k + 1) (by omega) (fun j hj => by
      rcases Nat.lt_or_ge j k with q | q
      · have := c.le q hk; omega
      · rw [show j = k by omega]; exact Int.le_refl _) (fun hk2 => by have := c.g k hk2; omega)
  have y1 : adjK l h (mid l k - h) k = 0 := by
    unfold adjK; rw [if_pos hk, show mid l k - h - (mid l k - h) = 0 by omega]
    have : clp h 0 = 0 := by unfold clp; rw [if_neg (by omega), if_neg (by omega)]
    rw [this, adj_zero hh]
  have y2 : adjK l h (mid l k) k = 500000 * (el l k).2 := by
    unfold adjK; rw [if_pos hk, show mid l k - (mid l k - h) = h by omega]
    have : clp h h = h := by unfold clp; rw [if_neg (by omega), if_neg (by omega)]
    rw [this, adj_mid hh hs]
  have y3 : adjK l h (mid l k + h) k = 1000000 * (el l k).2 := by
    unfold adjK; rw [if_pos hk, show mid l k + h - (mid l k - h) = 2 * h by omega]
    have : clp h (2 * h) = 2 * h := by unfold clp; rw [if_neg (by omega), if_neg (by omega)]
    rw [this, adj_full hh hs]
  have hd := el_mem c.v hk
  refine ⟨by omega, by omega, ?_, ?_, dayNo_of c.v (by omega) (by omega) (Int.le_refl _) (start_lt c.v (by omega))⟩
  · rw [e3, e1]; unfold line; rw [y1, y3]; omega
  · rw [e2, o, os_succ hk]; unfold line; rw [y2]; omega
/-- a further leap second changes nothing before its window -/
theorem el_app {l : LL} {x : Int × Int} {k : Nat} (hk : k < l.length) : el (l ++ [x]) k = el l k := by unfold el; rw [List.getElem?_append_left hk]
theorem el_new {l : LL} {x : Int × Int} : el (l ++ [x]) l.length = x := by unfold el; simp
theorem mid_app {l : LL} {x : Int × Int} (hv : valid (l ++ [x]) = true) {k : Nat} (hk : k < l.length) : mid (l ++ [x]) k = mid l k := by
  have hu := day_up hv hk (by simp : l.length < (l ++ [x]).length)
  rw [el_app hk, el_new] at hu
  unfold mid; rw [el_app hk, start_snoc hv, if_neg (by omega)]; omega
theorem os_app {l : LL} {x : Int × Int} {k : Nat} (hk : k ≤ l.length) : os (l ++ [x]) k = os l k := by unfold os; rw [List.take_append_of_le_length hk]
theorem later {l : LL} {x : Int × Int} {h t : Int} (c : Can l h) (d : Can (l ++ [x]) h) (ht : t < mid (l ++ [x]) l.length - h) (h0 : 0 ≤ t) : t < fin l ∧ t < fin (l ++ [x]) ∧ smV (l ++ [x]) h t = smV l h t ∧ ofs (l ++ [x]) (dayNo (l ++ [x]) t) = ofs l (dayNo l t) := by
  have hh := c.h1
  have hlen : (l ++ [x]).length = l.length + 1 := by simp
  have hl : l.length < (l ++ [x]).length := by simp
  have hx := el_mem d.v hl
  have hm := mid_bd d.v hl
  have he := end_bd c.v
  have he2 := end_bd d.v
  rw [el_new] at hx
  have hs : start (l ++ [x]) 34000 = start l 34000 + (if x.1 < 34000 then x.2 * 1000000 else 0) := start_snoc d.v
  have t1 : t < fin l := by
    unfold fin
    split at hs
    · rcases hx.2.2 with e | e
      · rw [e] at hs; omega
      · rw [e] at hs; omega
    · omega
  have t2 : t < fin (l ++ [x]) := by unfold fin; omega
  refine ⟨t1, t2, ?_, ?_⟩
  · obtain ⟨k, a⟩ := at_some l h t
    have b : At (l ++ [x]) h t k := by
      refine ⟨by have := a.1; simp; omega, fun j hj => by rw [mid_app d.v (by have := a.1; omega)]; exact a.2.1 j hj, fun hk => ?_⟩
      rcases Nat.lt_or_ge k l.length with e | e
      · rw [mid_app d.v e]; exact a.2.2 e
      · rw [show k = l.length by have := a.1; omega]; omega
    rw [sm_at c h0 (by unfold fin at t1; omega) a, sm_at d h0 (by unfold fin at t2; omega) b]
    unfold line; rw [os_app a.1]
    have : adjK (l ++ [x]) h t k = adjK l h t k := by
      unfold adjK
      rcases Nat.lt_or_ge k l.length with e | e
      · rw [if_pos e, if_pos (show k < (l ++ [x]).length by omega), el_app e, mid_app d.v e]
      · have ek : k = l.length := by have := a.1; omega
        rw [if_neg (show ¬ k < l.length by omega), if_pos (show k < (l ++ [x]).length by omega), ek]
        have : clp h (t - (mid (l ++ [x]) l.length - h)) = 0 := by unfold clp; rw [if_pos (by omega)]
        rw [this, adj_zero hh]
    rw [this]
  · obtain ⟨k, a⟩ := at_some l 0 t
    have b : ∀ j, j < k → mid (l ++ [x]) j ≤ t := fun j hj => by rw [mid_app d.v (by have := a.1; omega)]; have := a.2.1 j hj; omega
    rw [ofs_at c.v h0 (by unfold fin at t1; omega) a.1 (fun j hj => by have := a.2.1 j hj; omega) (fun hk => by have := a.2.2 hk; omega),
      ofs_at d.v h0 (by unfold fin at t2; omega) (k := k) (by have := a.1; omega) b (fun hk => by
        rcases Nat.lt_or_ge k l.length with e | e
        · rw [mid_app d.v e]; have := a.2.2 e; omega
        · rw [show k = l.length by have := a.1; omega]; omega), os_app a.1]
end Go.Proofs.YtcnenkhgbifmmaaDoor.Smm
