/- Plain facts on the calendar: lengths of months, the day number of the first day of a month, and that a day has one date. No program in sight. -/
set_option linter.unusedVariables false
namespace Go.Proofs.YtcnenkhgbifmmaaDoor.Cal

def lp (y : Int) : Int := if y % 4 = 0 then 1 else 0
def len (y m : Int) : Int := if m = 2 then 28 + lp y else if m = 4 ∨ m = 6 ∨ m = 9 ∨ m = 11 then 30 else 31
/-- the days of a year before a month -/
def cum (y m : Int) : Int :=
  if m ≤ 1 then 0 else if m = 2 then 31 else if m = 3 then 59 + lp y else if m = 4 then 90 + lp y else if m = 5 then 120 + lp y
  else if m = 6 then 151 + lp y else if m = 7 then 181 + lp y else if m = 8 then 212 + lp y else if m = 9 then 243 + lp y
  else if m = 10 then 273 + lp y else if m = 11 then 304 + lp y else if m = 12 then 334 + lp y else 365 + lp y
/-- the number of the first day of a month -/
def fst (y m : Int) : Int := (y - 2000) * 365 + (y - 2000 + 3) / 4 + cum y m

theorem lp_cases (y : Int) : (y % 4 = 0 ∧ lp y = 1) ∨ (y % 4 ≠ 0 ∧ lp y = 0) := by unfold lp; split <;> simp_all
theorem month_cases {m : Int} (h1 : 1 ≤ m) (h2 : m ≤ 12) : m = 1 ∨ m = 2 ∨ m = 3 ∨ m = 4 ∨ m = 5 ∨ m = 6 ∨ m = 7 ∨ m = 8 ∨ m = 9 ∨ m = 10 ∨ m = 11 ∨ m = 12 := by omega

theorem len_bd (y m : Int) : 28 ≤ len y m ∧ len y m ≤ 31 := by
  have := lp_cases y; unfold len; repeat' split
  all_goals omega
theorem ite_bd {c : Prop} [Decidable c] {a b : Int} (ha : 0 ≤ a ∧ a ≤ 366) (hb : 0 ≤ b ∧ b ≤ 366) : 0 ≤ (if c then a else b) ∧ (if c then a else b) ≤ 366 := by split <;> assumption
theorem cum_bd (y m : Int) : 0 ≤ cum y m ∧ cum y m ≤ 366 := by
  have := lp_cases y; unfold cum
  repeat' (refine ite_bd ?_ ?_)
  all_goals omega
theorem cum_one (y : Int) : cum y 1 = 0 := by simp [cum]
theorem cum_succ (y m : Int) (h1 : 1 ≤ m) (h2 : m ≤ 12) : cum y (m + 1) = cum y m + len y m := by
  have := lp_cases y
  rcases month_cases h1 h2 with rfl | rfl | rfl | rfl | rfl | rfl | rfl | rfl | rfl | rfl | rfl | rfl <;> (simp [cum, len] <;> omega)
theorem cum_lt (y a b : Int) (h1 : 1 ≤ a) (hab : a < b) (h2 : b ≤ 12) : cum y a + len y a ≤ cum y b := by
  have hp := lp_cases y
  rcases month_cases h1 (by omega) with rfl | rfl | rfl | rfl | rfl | rfl | rfl | rfl | rfl | rfl | rfl | rfl <;>
  (rcases month_cases (m := b) (by omega) h2 with rfl | rfl | rfl | rfl | rfl | rfl | rfl | rfl | rfl | rfl | rfl | rfl <;> first | (exfalso; omega) | (simp [cum, len] <;> omega))
theorem cum_end (y m : Int) (h1 : 1 ≤ m) (h2 : m ≤ 12) : cum y m + len y m ≤ 365 + lp y := by
  have hp := lp_cases y
  rcases month_cases h1 h2 with rfl | rfl | rfl | rfl | rfl | rfl | rfl | rfl | rfl | rfl | rfl | rfl <;> simp [cum, len] <;> omega
theorem fst_succ (y m : Int) (h1 : 1 ≤ m) (h2 : m ≤ 11) : fst y (m + 1) = fst y m + len y m := by
  have := cum_succ y m h1 (by omega); unfold fst; omega
theorem fst_year (y : Int) : fst (y + 1) 1 = fst y 12 + len y 12 := by
  have := lp_cases y; have := lp_cases (y + 1); simp [fst, cum, len]; omega
theorem fst_four (y m : Int) : fst (y + 4) m = fst y m + 1461 := by
  have h : lp (y + 4) = lp y := by unfold lp; rw [show (y + 4) % 4 = y % 4 by omega]
  have hc : cum (y + 4) m = cum y m := by unfold cum; rw [h]
  unfold fst; rw [hc]; omega
theorem fst_lt (y m y' m' : Int) (h1 : 1 ≤ m) (h2 : m ≤ 12) (h1' : 1 ≤ m') (h2' : m' ≤ 12) (h : y < y' ∨ y = y' ∧ m < m') : fst y m + len y m ≤ fst y' m' := by
  rcases h with h | ⟨rfl, h⟩
  · have a := cum_end y m h1 h2
    have b := cum_bd y' m'
    have hp := lp_cases y
    unfold fst; omega
  · have := cum_lt y m m' h1 h h2'; unfold fst; omega

/-- a date -/
def V (y m d : Int) : Prop := 2000 ≤ y ∧ 1 ≤ m ∧ m ≤ 12 ∧ 1 ≤ d ∧ d ≤ len y m
theorem V.one {y m d y' m' d' : Int} (h : V y m d) (h' : V y' m' d') (e : fst y m + d = fst y' m' + d') : y = y' ∧ m = m' ∧ d = d' := by
  obtain ⟨a1, a2, a3, a4, a5⟩ := h
  obtain ⟨b1, b2, b3, b4, b5⟩ := h'
  by_cases c : y < y' ∨ y = y' ∧ m < m'
  · have := fst_lt y m y' m' a2 a3 b2 b3 c; omega
  · by_cases c' : y' < y ∨ y' = y ∧ m' < m
    · have := fst_lt y' m' y m b2 b3 a2 a3 c'; omega
    · have e1 : y = y' := by omega
      have e2 : m = m' := by omega
      subst e1 e2
      exact ⟨rfl, rfl, by omega⟩
/-- up to 2093 the day numbers are small -/
theorem fst_bd (y m : Int) (h0 : 2000 ≤ y) (h : y ≤ 2093) : 0 ≤ fst y m ∧ fst y m ≤ 34400 := by
  have := cum_bd y m; unfold fst; omega
theorem V.year {y m d : Int} (h : V y m d) (hd : fst y m + d - 1 ≤ 34000) : y ≤ 2093 := by
  obtain ⟨a1, a2, a3, a4, a5⟩ := h
  have := cum_bd y m
  unfold fst at hd; omega
theorem V.yearLt {y m d : Int} (h1 : 2000 ≤ y) (h0 : 0 ≤ d) (hd : fst y m + d ≤ 34000) : y ≤ 2093 := by
  have := cum_bd y m
  unfold fst at hd; omega
theorem fst_start (n : Int) (h : 0 ≤ n) : fst (2000 + 4 * (n / 1461)) 1 + n % 1461 = n := by
  unfold fst; rw [cum_one]; omega
theorem fst_2000 : fst 2000 1 = 0 := by decide

/-- every day has a date -/
theorem V.all (n : Nat) : ∃ y m d : Int, V y m d ∧ fst y m + d - 1 = n := by
  induction n with
  | zero => exact ⟨2000, 1, 1, by unfold V; decide, by decide⟩
  | succ n ih =>
    obtain ⟨y, m, d, ⟨a1, a2, a3, a4, a5⟩, e⟩ := ih
    by_cases h : d < len y m
    · exact ⟨y, m, d + 1, ⟨a1, a2, a3, by omega, by omega⟩, by omega⟩
    · by_cases h2 : m ≤ 11
      · have := fst_succ y m a2 h2
        have := len_bd y (m + 1)
        exact ⟨y, m + 1, 1, ⟨a1, by omega, by omega, by omega, by omega⟩, by omega⟩
      · obtain rfl : m = 12 := by omega
        have := fst_year y
        have := len_bd (y + 1) 1
        exact ⟨y + 1, 1, 1, ⟨by omega, by omega, by omega, by omega, by omega⟩, by omega⟩
/-- the date of a day -/
noncomputable def dY (n : Int) : Int := Classical.epsilon fun y => ∃ m d, V y m d ∧ fst y m + d - 1 = n
noncomputable def dM (n : Int) : Int := Classical.epsilon fun m => ∃ y d, V y m d ∧ fst y m + d - 1 = n
noncomputable def dD (n : Int) : Int := Classical.epsilon fun d => ∃ y m, V y m d ∧ fst y m + d - 1 = n
theorem date_is {n y m d : Int} (h : V y m d) (e : fst y m + d - 1 = n) : dY n = y ∧ dM n = m ∧ dD n = d := by
  have a : ∃ m d, V (dY n) m d ∧ fst (dY n) m + d - 1 = n := Classical.epsilon_spec (p := fun y => ∃ m d, V y m d ∧ fst y m + d - 1 = n) ⟨y, m, d, h, e⟩
  have b : ∃ y d, V y (dM n) d ∧ fst y (dM n) + d - 1 = n := Classical.epsilon_spec (p := fun m => ∃ y d, V y m d ∧ fst y m + d - 1 = n) ⟨m, y, d, h, e⟩
  have c : ∃ y m, V y m (dD n) ∧ fst y m + (dD n) - 1 = n := Classical.epsilon_spec (p := fun d => ∃ y m, V y m d ∧ fst y m + d - 1 = n) ⟨d, y, m, h, e⟩
  obtain ⟨m1, d1, v1, e1⟩ := a
  obtain ⟨y2, d2, v2, e2⟩ := b
  obtain ⟨y3, m3, v3, e3⟩ := c
  exact ⟨(v1.one h (by omega)).1, (v2.one h (by omega)).2.1, (v3.one h (by omega)).2.2⟩
theorem date_of {n : Int} (h : 0 ≤ n) : V (dY n) (dM n) (dD n) ∧ fst (dY n) (dM n) + dD n - 1 = n := by
  obtain ⟨y, m, d, v, e⟩ := V.all n.toNat
  obtain ⟨a, b, c⟩ := date_is (n := n) v (by omega)
  rw [a, b, c]; exact ⟨v, by omega⟩

/-! what the functions return -/
def dayB (n : Int) : Bool := decide (0 ≤ n ∧ n ≤ 34000)
def monB (y m : Int) : Bool := decide (2000 ≤ y ∧ y ≤ 2093 ∧ 1 ≤ m ∧ m ≤ 12)
def datB (y m d : Int) : Bool := decide (2000 ≤ y ∧ y ≤ 2093 ∧ 1 ≤ m ∧ m ≤ 12 ∧ 1 ≤ d ∧ d ≤ len y m)
noncomputable def rY (n : Int) : Int := if dayB n then dY n else 0
noncomputable def rM (n : Int) : Int := if dayB n then dM n else 0
noncomputable def rD (n : Int) : Int := if dayB n then dD n else 0
def rE (n : Int) : Int := if dayB n then 0 else 1
def wV (n : Int) : Int := if dayB n then (n + 5) % 7 else 0
def nV (y m d : Int) : Int := if datB y m d then (if 34000 < fst y m + d - 1 then 0 else fst y m + d - 1) else 0
def nE (y m d : Int) : Int := if datB y m d then (if 34000 < fst y m + d - 1 then 3 else 0) else 1
def nthB (y m w n : Int) : Bool := decide (2000 ≤ y ∧ y ≤ 2093 ∧ 1 ≤ m ∧ m ≤ 12 ∧ 0 ≤ w ∧ w ≤ 6 ∧ (n = -1 ∨ 1 ≤ n ∧ n ≤ 5))
/-- the first day of a month on a day of the week, counted from 0 -/
def nthS (y m w : Int) : Int := (w - (fst y m + 5) % 7 + 7) % 7
def nthD (y m w n : Int) : Int := if n = -1 then fst y m + nthS y m w + (len y m - 1 - nthS y m w) / 7 * 7 else fst y m + nthS y m w + 7 * (n - 1)
def nthE (y m w n : Int) : Int := if nthB y m w n then (if fst y m + len y m ≤ nthD y m w n then 4 else if 34000 < nthD y m w n then 3 else 0) else 1
def nthV (y m w n : Int) : Int := if nthB y m w n then (if fst y m + len y m ≤ nthD y m w n then 0 else if 34000 < nthD y m w n then 0 else nthD y m w n) else 0
theorem nthS_bd (y m w : Int) : 0 ≤ nthS y m w ∧ nthS y m w ≤ 6 := by unfold nthS; omega
theorem fst_13 (y : Int) : fst y 13 = fst (y + 1) 1 := by
  have h : cum y 13 = cum y 12 + len y 12 := cum_succ y 12 (by omega) (by omega)
  have := fst_year y; simp only [fst] at *; omega
/-- what the reference has added up before year k -/
def bef (y m k : Int) : Int := if k ≤ y then fst k 1 else fst y m
/-- what it has added up within the last year before month j -/
def befM (y m j : Int) : Int := if j ≤ m then fst y j else fst y m
theorem befM_lt {y m j : Int} (h : j < m) (h1 : 1 ≤ j) (h2 : m ≤ 12) : befM y m (j + 1) = befM y m j + len y j := by
  unfold befM; rw [if_pos (by omega), if_pos (by omega)]; exact fst_succ y j h1 (by omega)
theorem befM_ge {y m j : Int} (h : m ≤ j) : befM y m (j + 1) = befM y m j := by
  unfold befM; rw [if_neg (by omega)]; split
  · rw [show j = m by omega]
  · rfl
/-- how many days of a month before the kth are on the wanted day of the week, if the first such one has the number s -/
def cnt (s k : Int) : Int := (k + 6 - s) / 7
/-- what the reference has found then -/
def fnd (n F s k : Int) : Int := if n = -1 then (if cnt s k = 0 then -1 else F + s + 7 * (cnt s k - 1)) else if n ≤ cnt s k then F + s + 7 * (n - 1) else -1
theorem cnt_hit {F w k : Int} (hw : 0 ≤ w) (hw' : w ≤ 6) (h0 : 0 ≤ k) (h : (F + k + 5) % 7 = w) : cnt ((w - (F + 5) % 7 + 7) % 7) (k + 1) = cnt ((w - (F + 5) % 7 + 7) % 7) k + 1 := by
  unfold cnt; omega
theorem cnt_no {F w k : Int} (hw : 0 ≤ w) (hw' : w ≤ 6) (h0 : 0 ≤ k) (h : (F + k + 5) % 7 ≠ w) : cnt ((w - (F + 5) % 7 + 7) % 7) (k + 1) = cnt ((w - (F + 5) % 7 + 7) % 7) k := by
  unfold cnt; omega
theorem cnt_bd {s k : Int} (h0 : 0 ≤ s) (h1 : s ≤ 6) (h : 0 ≤ k) (hk : k ≤ 31) : 0 ≤ cnt s k ∧ cnt s k ≤ 6 := by unfold cnt; omega
theorem fnd_hit {n F w k : Int} (hw : 0 ≤ w) (hw' : w ≤ 6) (h0 : 0 ≤ k) (h : (F + k + 5) % 7 = w) (hn : n = -1 ∨ 1 ≤ n)
    (hh : cnt ((w - (F + 5) % 7 + 7) % 7) k + 1 = n ∨ n = -1) : fnd n F ((w - (F + 5) % 7 + 7) % 7) (k + 1) = F + k := by
  unfold fnd; rw [cnt_hit hw hw' h0 h]
  by_cases e : n = -1
  · rw [if_pos e]; unfold cnt; rw [if_neg (by omega)]; omega
  · rw [if_neg e, if_pos (by omega)]; unfold cnt at hh; omega
theorem fnd_miss {n F w k : Int} (hw : 0 ≤ w) (hw' : w ≤ 6) (h0 : 0 ≤ k) (h : (F + k + 5) % 7 = w)
    (hh : cnt ((w - (F + 5) % 7 + 7) % 7) k + 1 ≠ n) (hn : n ≠ -1) : fnd n F ((w - (F + 5) % 7 + 7) % 7) (k + 1) = fnd n F ((w - (F + 5) % 7 + 7) % 7) k := by
  unfold fnd; rw [cnt_hit hw hw' h0 h, if_neg hn, if_neg hn]
  by_cases e : n ≤ cnt ((w - (F + 5) % 7 + 7) % 7) k
  · rw [if_pos e, if_pos (by omega)]
  · rw [if_neg e, if_neg (by omega)]
theorem fnd_no {n F w k : Int} (hw : 0 ≤ w) (hw' : w ≤ 6) (h0 : 0 ≤ k) (h : (F + k + 5) % 7 ≠ w) : fnd n F ((w - (F + 5) % 7 + 7) % 7) (k + 1) = fnd n F ((w - (F + 5) % 7 + 7) % 7) k := by
  unfold fnd; rw [cnt_no hw hw' h0 h]
theorem fnd_bd {n F s k : Int} (h0 : 0 ≤ s) (h1 : s ≤ 6) (hk : 0 ≤ k) (hk' : k ≤ 31) (hF : 0 ≤ F) (hF' : F ≤ 34400) (hn : n = -1 ∨ 1 ≤ n ∧ n ≤ 5) : -1 ≤ fnd n F s k ∧ fnd n F s k ≤ 34500 := by
  have := cnt_bd h0 h1 hk hk'
  unfold fnd; repeat' split
  all_goals omega
theorem fnd_start {n F s : Int} (h0 : 0 ≤ s) (h1 : s ≤ 6) (hn : n = -1 ∨ 1 ≤ n) : fnd n F s 0 = -1 := by
  have : cnt s 0 = 0 := by unfold cnt; omega
  unfold fnd; rw [this]; split
  · rfl
  · rw [if_neg (by omega)]
theorem cnt_start {s : Int} (h0 : 0 ≤ s) (h1 : s ≤ 6) : cnt s 0 = 0 := by unfold cnt; omega
theorem fnd_end {y m w n : Int} (hn : n = -1 ∨ 1 ≤ n ∧ n ≤ 5) (h0 : 0 ≤ fst y m) :
    (fst y m + len y m ≤ nthD y m w n ∧ fnd n (fst y m) (nthS y m w) (len y m) = -1) ∨ (nthD y m w n < fst y m + len y m ∧ fnd n (fst y m) (nthS y m w) (len y m) = nthD y m w n) := by
  have hs := nthS_bd y m w
  have hl := len_bd y m
  unfold fnd nthD cnt
  by_cases e : n = -1
  · rw [if_pos e, if_pos e, if_neg (by omega)]; right; omega
  · rw [if_neg e, if_neg e]
    by_cases e' : n ≤ (len y m + 6 - nthS y m w) / 7
    · rw [if_pos e']; right; omega
    · rw [if_neg e']; left; omega
end Go.Proofs.YtcnenkhgbifmmaaDoor.Cal
