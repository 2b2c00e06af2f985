/- The contracts of package calendar's small functions and of the reference's: each returns the plain function of its arguments, and the world stays as it was. Condition: the table of lengths lies in memory as the program's text lays it (for calendar's own). -/
import Derived.Test.YtcnenkhgbifmmaaDoorRows
import Derived.Test.YtcnenkhgbifmmaaDoorMath
import Derived.Test.YtcnenkhgbifmmaaDoorLpA
import Derived.WalkKit
import Derived.WalkSpells
import Derived.WalkLawsBesides
import Derived.Lib.Hide
set_option linter.unusedVariables false
namespace Go.Proofs.YtcnenkhgbifmmaaDoor
open Go.RowKit

/-- the call returns v and leaves the world alone -/
def Ret (v : Value) (w : World) (e : Ending) (w' : World) : Prop := e = .returned v ∧ w = w'


/-- the table of lengths, cell by cell -/
def Cal.base (i : Nat) : Int := if i = 1 then 28 else if i = 3 ∨ i = 5 ∨ i = 8 ∨ i = 10 then 30 else 31
def Tab (w : World) : Prop := ∀ i : Nat, i < 12 → w.cell? ⟨0, i, none⟩ = some (.int .i64 (Cal.base i))

theorem ret_ii {a b c d : Int} (h : a = c) (h' : b = d) : Ending.returned (.tuple #[.int .i64 a, .int .i64 b]) = .returned (.tuple #[.int .i64 c, .int .i64 d]) := by rw [h, h']

theorem base_len (m : Int) (h1 : 1 ≤ m) (h2 : m ≤ 12) (y : Int) : Cal.len y m = Cal.base (m.toNat - 1) + (if m = 2 ∧ y % 4 = 0 then 1 else 0) := by
  rcases Cal.month_cases h1 h2 with rfl | rfl | rfl | rfl | rfl | rfl | rfl | rfl | rfl | rfl | rfl | rfl <;> simp [Cal.len, Cal.base, Cal.lp]
theorem base_bd (i : Nat) : 28 ≤ Cal.base i ∧ Cal.base i ≤ 31 := by
  unfold Cal.base
  repeat' split
  all_goals omega

set_option maxHeartbeats 400000 in
theorem length_any (y m : Int) (w : World) (ht : Tab w) (hy : 2000 ≤ y) (h1 : 1 ≤ m) (h2 : m ≤ 12) :
    Calls Tryd.prog 82 #[.int .i64 y, .int .i64 m] w (Ret (.int .i64 (Cal.len y m)) w) := by
  have hc := ht (m.toNat - 1) (by omega)
  have hb := base_bd (m.toNat - 1)
  have HL := Lib.hid (base_len m h1 h2 y)
  clear ht
  by_cases e : m = 2
  · subst e
    have hc1 : w.cell? ⟨0, 1, none⟩ = some (.int .i64 28) := hc
    clear hc hb
    go_enter Tryd.func82, Tryd.ntmps82
    go_wp2
    all_goals go_ret
    · have h4 : (y % 4 == 0) = true := by assumption
      exact ⟨ret_int (by rw [HL.out, if_pos (by simpa using h4)]; rfl), rfl⟩
    · have h4 : (y % 4 == 0) = false := by assumption
      exact ⟨ret_int (by rw [HL.out, if_neg (by simpa using h4)]; rfl), rfl⟩
  · have e' : (m == 2) = false := by simpa using e
    go_enter Tryd.func82, Tryd.ntmps82
    go_wp2
    go_ret
    exact ⟨ret_int (by rw [HL.out, if_neg (by omega)]; omega), rfl⟩

set_option maxHeartbeats 400000 in
theorem isMonth_any (y m : Int) (w : World) :
    Calls Tryd.prog 81 #[.int .i64 y, .int .i64 m] w (Ret (.bool (Cal.monB y m)) w) := by
  go_enter Tryd.func81, Tryd.ntmps81
  go_wp2
  all_goals go_ret
  all_goals exact ⟨ret_bool (by rw [Bool.eq_iff_iff]; simp only [Cal.monB, decide_eq_true_eq, Bool.false_eq_true, false_iff]; omega), rfl⟩
theorem weekday_any (n : Int) (w : World) (h0 : 0 ≤ n) (h1 : n ≤ 100000) :
    Calls Tryd.prog 78 #[.int .i64 n] w (Ret (.int .i64 ((n + 5) % 7)) w) := by
  go_enter Tryd.func78, Tryd.ntmps78
  go_wp2
  go_ret
  exact ⟨rfl, rfl⟩
set_option maxHeartbeats 400000 in
theorem first_any (y m : Int) (w : World) (ht : Tab w) (hy : 2000 ≤ y) (hy2 : y ≤ 2093) (h1 : 1 ≤ m) (h2 : m ≤ 12) :
    Calls Tryd.prog 83 #[.int .i64 y, .int .i64 m] w (Ret (.int .i64 (Cal.fst y m)) w) := by
  go_enter Tryd.func83, Tryd.ntmps83
  go_wp2
  go_loop [5, 6] (fun n i => ∃ k : Int, 1 ≤ k ∧ k ≤ m ∧ i = .int .i64 k ∧ n = .int .i64 (Cal.fst y k)) (fun _ i => (m - intOf i).toNat)
  case atStart => exact ⟨1, by omega, by omega, rfl, by unfold Cal.fst; rw [Cal.cum_one, Int.add_zero]⟩
  case round =>
    obtain ⟨k, hk1, hk2, rfl, rfl⟩ := hrel
    have hb := Cal.fst_bd y k hy hy2
    have hl := Cal.len_bd y k
    by_cases hlt : k < m
    · have HS := Lib.hid (Cal.fst_succ y k hk1 (by omega))
      go_wp2_with (go_at_call 82; refine (length_any _ _ _ ht (by omega) (by omega) (by omega)).mono ?_; rintro e w' ⟨rfl, rfl⟩)
      go_round
      case rel => exact ⟨k + 1, by omega, by omega, rfl, by rw [HS.out]⟩
      case measure => simp [intOf]; omega
    · go_wp2
      go_ret
      obtain rfl : k = m := by omega
      exact ⟨rfl, rfl⟩
end Go.Proofs.YtcnenkhgbifmmaaDoor

/- The contracts of calendar's exported functions and of the reference's: for all integers each returns the plain functions of its arguments (Cal.rY .. Cal.nthE), and the world stays as it was. -/
set_option linter.unusedVariables false
namespace Go.Proofs.YtcnenkhgbifmmaaDoor
open Go.RowKit

theorem four_eq {a b c d a' b' c' d' : Int} (h1 : a = a') (h2 : b = b') (h3 : c = c') (h4 : d = d') : Ending.returned (.tuple #[.int .i64 a, .int .i64 b, .int .i64 c, .int .i64 d]) = .returned (.tuple #[.int .i64 a', .int .i64 b', .int .i64 c', .int .i64 d']) := by rw [h1, h2, h3, h4]
theorem two_eq {a b a' b' : Int} (h1 : a = a') (h2 : b = b') : Ending.returned (.tuple #[.int .i64 a, .int .i64 b]) = .returned (.tuple #[.int .i64 a', .int .i64 b']) := by rw [h1, h2]

theorem rNo {n : Int} (h : ¬ (0 ≤ n ∧ n ≤ 34000)) : Cal.rY n = 0 ∧ Cal.rM n = 0 ∧ Cal.rD n = 0 ∧ Cal.rE n = 1 ∧ Cal.wV n = 0 := by
  have : Cal.dayB n = false := by simpa [Cal.dayB] using h
  simp [Cal.rY, Cal.rM, Cal.rD, Cal.rE, Cal.wV, this]
theorem rYes {n : Int} (h0 : 0 ≤ n) (h1 : n ≤ 34000) : Cal.rY n = Cal.dY n ∧ Cal.rM n = Cal.dM n ∧ Cal.rD n = Cal.dD n ∧ Cal.rE n = 0 ∧ Cal.wV n = (n + 5) % 7 := by
  have : Cal.dayB n = true := by simp [Cal.dayB, h0, h1]
  simp [Cal.rY, Cal.rM, Cal.rD, Cal.rE, Cal.wV, this]
theorem date_end {n y m d : Int} (h0 : 0 ≤ n) (h1 : n ≤ 34000) (a : 2000 ≤ y) (b : 1 ≤ m) (c : m ≤ 12) (e : 0 ≤ d) (f : d < Cal.len y m) (g : Cal.fst y m + d = n) :
    Ending.returned (.tuple #[.int .i64 y, .int .i64 m, .int .i64 (d + 1), .int .i64 0]) = .returned (.tuple #[.int .i64 (Cal.rY n), .int .i64 (Cal.rM n), .int .i64 (Cal.rD n), .int .i64 (Cal.rE n)]) := by
  obtain ⟨x1, x2, x3, x4, _⟩ := rYes h0 h1
  obtain ⟨y1, y2, y3⟩ := Cal.date_is (n := n) (y := y) (m := m) (d := d + 1) ⟨a, b, c, by omega, by omega⟩ (by omega)
  exact four_eq (by omega) (by omega) (by omega) (by omega)

set_option maxHeartbeats 1000000 in
theorem date_any (n : Int) (w : World) (ht : Tab w) :
    Calls Tryd.prog 79 #[.int .i64 n] w (Ret (.tuple #[.int .i64 (Cal.rY n), .int .i64 (Cal.rM n), .int .i64 (Cal.rD n), .int .i64 (Cal.rE n)]) w) := by
  by_cases hr : 0 ≤ n ∧ n ≤ 34000
  · obtain ⟨h0, h1⟩ := hr
    go_enter Tryd.func79, Tryd.ntmps79
    go_wp2
    go_loop [0, 2, 3] (fun t i j => ∃ y m d : Int, 2000 ≤ y ∧ 1 ≤ m ∧ m ≤ 12 ∧ 0 ≤ d ∧ Hid (Cal.fst y m + d = n) ∧ t = .int .i64 d ∧ i = .int .i64 y ∧ j = .int .i64 m) (fun t _ _ => (intOf t).toNat)
    case atStart => exact ⟨_, 1, _, by omega, by omega, by omega, by omega, Lib.hid (Cal.fst_start n h0), rfl, rfl, rfl⟩
    case round =>
      obtain ⟨y, m, d, hy, hm1, hm2, hd, hn, rfl, rfl, rfl⟩ := hrel
      have hl := Cal.len_bd y m
      have hyy : y ≤ 2093 := Cal.V.yearLt hy hd (by rw [hn.out]; exact h1)
      have hdd : d ≤ 34000 := by have := Cal.fst_bd y m hy hyy; have := hn.out; omega
      by_cases hge : Cal.len y m ≤ d
      · by_cases hm : m ≤ 11
        · have HS := Lib.hid (Cal.fst_succ y m hm1 hm)
          go_wp2_with (go_at_call 82; refine (length_any _ _ _ ht (by omega) (by omega) (by omega)).mono ?_; rintro e w' ⟨rfl, rfl⟩)
          go_round
          case rel => exact ⟨y, m + 1, d - Cal.len y m, by omega, by omega, by omega, by omega, Lib.hid (by have := HS.out; have := hn.out; omega), rfl, rfl, rfl⟩
          case measure => simp [intOf]; omega
        · obtain rfl : m = 12 := by omega
          have HS := Lib.hid (Cal.fst_year y)
          go_wp2_with (go_at_call 82; refine (length_any _ _ _ ht (by omega) (by omega) (by omega)).mono ?_; rintro e w' ⟨rfl, rfl⟩)
          go_round
          case rel => exact ⟨y + 1, 1, d - Cal.len y 12, by omega, by omega, by omega, by omega, Lib.hid (by have := HS.out; have := hn.out; omega), rfl, rfl, rfl⟩
          case measure => simp [intOf]; omega
      · go_wp2_with (go_at_call 82; refine (length_any _ _ _ ht (by omega) (by omega) (by omega)).mono ?_; rintro e w' ⟨rfl, rfl⟩)
        exact bodyPost_ret (v := .tuple #[.int .i64 y, .int .i64 m, .int .i64 (d + 1), .int .i64 0]) (by simp [results, Tryd.results79, go_sem]) rfl ⟨date_end h0 h1 hy hm1 hm2 hd (by omega) hn.out, rfl⟩
  · have hz := Lib.hid (rNo hr)
    by_cases h0 : n < 0
    all_goals
      go_enter Tryd.func79, Tryd.ntmps79
      go_wp2
      exact bodyPost_ret (v := .tuple #[.int .i64 0, .int .i64 0, .int .i64 0, .int .i64 1]) (by simp [results, Tryd.results79, go_sem]) rfl ⟨four_eq hz.out.1.symm hz.out.2.1.symm hz.out.2.2.1.symm hz.out.2.2.2.1.symm, rfl⟩

theorem weekdayOf_any (n : Int) (w : World) :
    Calls Tryd.prog 65 #[.int .i64 n] w (Ret (.tuple #[.int .i64 (Cal.wV n), .int .i64 (Cal.rE n)]) w) := by
  by_cases hr : 0 ≤ n ∧ n ≤ 34000
  · obtain ⟨h0, h1⟩ := hr
    have hz := Lib.hid (rYes h0 h1)
    go_enter Tryd.func65, Tryd.ntmps65
    go_wp2_with (go_at_call 78; refine (weekday_any _ _ (by omega) (by omega)).mono ?_; rintro e w' ⟨rfl, rfl⟩)
    go_ret2
    exact ⟨two_eq hz.out.2.2.2.2.symm hz.out.2.2.2.1.symm, rfl⟩
  · have hz := Lib.hid (rNo hr)
    by_cases h0 : n < 0
    all_goals
      go_enter Tryd.func65, Tryd.ntmps65
      go_wp2
      go_ret2
      exact ⟨two_eq hz.out.2.2.2.2.symm hz.out.2.2.2.1.symm, rfl⟩
theorem monB_yes {y m : Int} (h : 2000 ≤ y ∧ y ≤ 2093 ∧ 1 ≤ m ∧ m ≤ 12) : Cal.monB y m = true := by simp [Cal.monB, h]
theorem monB_no {y m : Int} (h : ¬ (2000 ≤ y ∧ y ≤ 2093 ∧ 1 ≤ m ∧ m ≤ 12)) : Cal.monB y m = false := by unfold Cal.monB; exact decide_eq_false h
theorem day_no {y m d : Int} (h : ¬ (2000 ≤ y ∧ y ≤ 2093 ∧ 1 ≤ m ∧ m ≤ 12 ∧ 1 ≤ d ∧ d ≤ Cal.len y m)) : Cal.nV y m d = 0 ∧ Cal.nE y m d = 1 := by
  have : Cal.datB y m d = false := by unfold Cal.datB; exact decide_eq_false h
  simp [Cal.nV, Cal.nE, this]
theorem day_yes {y m d : Int} (h : 2000 ≤ y ∧ y ≤ 2093 ∧ 1 ≤ m ∧ m ≤ 12 ∧ 1 ≤ d ∧ d ≤ Cal.len y m) (h' : Cal.fst y m + d - 1 ≤ 34000) : Cal.nV y m d = Cal.fst y m + d - 1 ∧ Cal.nE y m d = 0 := by
  have : Cal.datB y m d = true := by unfold Cal.datB; exact decide_eq_true h
  have h2 : ¬ 34000 < Cal.fst y m + d - 1 := by omega
  simp [Cal.nV, Cal.nE, this, h2]
theorem day_far {y m d : Int} (h : 2000 ≤ y ∧ y ≤ 2093 ∧ 1 ≤ m ∧ m ≤ 12 ∧ 1 ≤ d ∧ d ≤ Cal.len y m) (h' : 34000 < Cal.fst y m + d - 1) : Cal.nV y m d = 0 ∧ Cal.nE y m d = 3 := by
  have : Cal.datB y m d = true := by unfold Cal.datB; exact decide_eq_true h
  simp [Cal.nV, Cal.nE, this, h']

set_option maxHeartbeats 1000000 in
theorem day_any (y m d : Int) (w : World) (ht : Tab w) :
    Calls Tryd.prog 70 #[.int .i64 y, .int .i64 m, .int .i64 d] w (Ret (.tuple #[.int .i64 (Cal.nV y m d), .int .i64 (Cal.nE y m d)]) w) := by
  by_cases hm : 2000 ≤ y ∧ y ≤ 2093 ∧ 1 ≤ m ∧ m ≤ 12
  · have hmB := monB_yes hm
    obtain ⟨h1, h2, h3, h4⟩ := hm
    have hb := Cal.fst_bd y m h1 h2
    have hl := Cal.len_bd y m
    by_cases hd : 1 ≤ d ∧ d ≤ Cal.len y m
    · obtain ⟨h5, h6⟩ := hd
      by_cases hf : 34000 < Cal.fst y m + d - 1
      · have hz := Lib.hid (day_far ⟨h1, h2, h3, h4, h5, h6⟩ hf)
        go_enter Tryd.func70, Tryd.ntmps70
        go_wp2_with (first | (go_at_call 81; refine (isMonth_any _ _ _).mono ?_; rintro e w' ⟨rfl, rfl⟩) | (go_at_call 82; refine (length_any _ _ _ ht (by omega) (by omega) (by omega)).mono ?_; rintro e w' ⟨rfl, rfl⟩) | (go_at_call 83; refine (first_any _ _ _ ht (by omega) (by omega) (by omega) (by omega)).mono ?_; rintro e w' ⟨rfl, rfl⟩))
        go_ret2
        exact ⟨two_eq hz.out.1.symm hz.out.2.symm, rfl⟩
      · have hz := Lib.hid (day_yes ⟨h1, h2, h3, h4, h5, h6⟩ (by omega))
        go_enter Tryd.func70, Tryd.ntmps70
        go_wp2_with (first | (go_at_call 81; refine (isMonth_any _ _ _).mono ?_; rintro e w' ⟨rfl, rfl⟩) | (go_at_call 82; refine (length_any _ _ _ ht (by omega) (by omega) (by omega)).mono ?_; rintro e w' ⟨rfl, rfl⟩) | (go_at_call 83; refine (first_any _ _ _ ht (by omega) (by omega) (by omega) (by omega)).mono ?_; rintro e w' ⟨rfl, rfl⟩))
        go_ret2
        exact ⟨two_eq hz.out.1.symm hz.out.2.symm, rfl⟩
    · have hz := Lib.hid (day_no (y := y) (m := m) (d := d) (by omega))
      by_cases h5 : d < 1
      all_goals
        go_enter Tryd.func70, Tryd.ntmps70
        go_wp2_with (first | (go_at_call 81; refine (isMonth_any _ _ _).mono ?_; rintro e w' ⟨rfl, rfl⟩) | (go_at_call 82; refine (length_any _ _ _ ht (by omega) (by omega) (by omega)).mono ?_; rintro e w' ⟨rfl, rfl⟩))
        go_ret2
        exact ⟨two_eq hz.out.1.symm hz.out.2.symm, rfl⟩
  · have hmB := monB_no hm
    have hz := Lib.hid (day_no (y := y) (m := m) (d := d) (by omega))
    go_enter Tryd.func70, Tryd.ntmps70
    go_wp2_with (go_at_call 81; refine (isMonth_any _ _ _).mono ?_; rintro e w' ⟨rfl, rfl⟩)
    go_ret2
    exact ⟨two_eq hz.out.1.symm hz.out.2.symm, rfl⟩
end Go.Proofs.YtcnenkhgbifmmaaDoor

/- The contracts of the reference's sums of days and of both functions Nth: for all integers they return the plain functions of their arguments, and the world stays as it was. -/
set_option linter.unusedVariables false
namespace Go.Proofs.YtcnenkhgbifmmaaDoor
open Go.RowKit


theorem nth_no {y m wd n : Int} (h : ¬ (2000 ≤ y ∧ y ≤ 2093 ∧ 1 ≤ m ∧ m ≤ 12 ∧ 0 ≤ wd ∧ wd ≤ 6 ∧ (n = -1 ∨ 1 ≤ n ∧ n ≤ 5))) : Cal.nthV y m wd n = 0 ∧ Cal.nthE y m wd n = 1 := by
  have : Cal.nthB y m wd n = false := by unfold Cal.nthB; exact decide_eq_false h
  simp [Cal.nthV, Cal.nthE, this]
theorem nth_yes {y m wd n : Int} (h : 2000 ≤ y ∧ y ≤ 2093 ∧ 1 ≤ m ∧ m ≤ 12 ∧ 0 ≤ wd ∧ wd ≤ 6 ∧ (n = -1 ∨ 1 ≤ n ∧ n ≤ 5)) :
    Cal.nthV y m wd n = (if Cal.fst y m + Cal.len y m ≤ Cal.nthD y m wd n then 0 else if 34000 < Cal.nthD y m wd n then 0 else Cal.nthD y m wd n) ∧ Cal.nthE y m wd n = (if Cal.fst y m + Cal.len y m ≤ Cal.nthD y m wd n then 4 else if 34000 < Cal.nthD y m wd n then 3 else 0) := by
  have : Cal.nthB y m wd n = true := by unfold Cal.nthB; exact decide_eq_true h
  simp [Cal.nthV, Cal.nthE, this]
/-- the five ways in which the arguments of Nth are wrong -/
theorem nth_wrong {y m wd n : Int} (h : ¬ (2000 ≤ y ∧ y ≤ 2093 ∧ 1 ≤ m ∧ m ≤ 12 ∧ 0 ≤ wd ∧ wd ≤ 6 ∧ (n = -1 ∨ 1 ≤ n ∧ n ≤ 5))) :
    Cal.monB y m = false ∨ Cal.monB y m = true ∧ (wd < 0 ∨ 6 < wd ∨ (0 ≤ wd ∧ wd ≤ 6 ∧ ((n < 1 ∧ (n != -1) = true) ∨ (5 < n ∧ (n != -1) = true)))) := by
  by_cases hm : 2000 ≤ y ∧ y ≤ 2093 ∧ 1 ≤ m ∧ m ≤ 12
  · right; refine ⟨monB_yes hm, ?_⟩; simp; omega
  · left; exact monB_no hm
set_option maxHeartbeats 2000000 in
theorem nth_any (y m wd n : Int) (w : World) (ht : Tab w) :
    Calls Tryd.prog 73 #[.int .i64 y, .int .i64 m, .int .i64 wd, .int .i64 n] w (Ret (.tuple #[.int .i64 (Cal.nthV y m wd n), .int .i64 (Cal.nthE y m wd n)]) w) := by
  by_cases hok : 2000 ≤ y ∧ y ≤ 2093 ∧ 1 ≤ m ∧ m ≤ 12 ∧ 0 ≤ wd ∧ wd ≤ 6 ∧ (n = -1 ∨ 1 ≤ n ∧ n ≤ 5)
  · have hz := Lib.hid (nth_yes hok)
    obtain ⟨h1, h2, h3, h4, h5, h6, h7⟩ := hok
    have hmB := monB_yes ⟨h1, h2, h3, h4⟩
    have hb := Cal.fst_bd y m h1 h2
    have hl := Cal.len_bd y m
    rcases h7 with rfl | ⟨h7, h8⟩
    · have hD : Hid (Cal.nthD y m wd (-1) = Cal.fst y m + (wd - (Cal.fst y m + 5) % 7 + 7) % 7 + (Cal.fst y m + Cal.len y m - 1 - (Cal.fst y m + (wd - (Cal.fst y m + 5) % 7 + 7) % 7)) / 7 * 7) := Lib.hid (by unfold Cal.nthD Cal.nthS; rw [if_pos rfl]; congr 3; omega)
      go_enter Tryd.func73, Tryd.ntmps73
      go_wp2_with (first | (go_at_call 81; refine (isMonth_any _ _ _).mono ?_; rintro e w' ⟨rfl, rfl⟩) | (go_at_call 82; refine (length_any _ _ _ ht (by omega) (by omega) (by omega)).mono ?_; rintro e w' ⟨rfl, rfl⟩) | (go_at_call 83; refine (first_any _ _ _ ht (by omega) (by omega) (by omega) (by omega)).mono ?_; rintro e w' ⟨rfl, rfl⟩) | (go_at_call 78; refine (weekday_any _ _ (by omega) (by omega)).mono ?_; rintro e w' ⟨rfl, rfl⟩))
      all_goals go_ret2
      all_goals exact ⟨two_eq (by rw [hz.out.1, hD.out]; repeat' split
                                  all_goals omega) (by rw [hz.out.2, hD.out]; repeat' split
                                                       all_goals omega), rfl⟩
    · have hn : (n == -1) = false := by simp; omega
      have hn' : (n != -1) = true := by simp; omega
      have hD : Hid (Cal.nthD y m wd n = Cal.fst y m + (wd - (Cal.fst y m + 5) % 7 + 7) % 7 + 7 * (n - 1)) := Lib.hid (by unfold Cal.nthD Cal.nthS; rw [if_neg (by omega)])
      go_enter Tryd.func73, Tryd.ntmps73
      go_wp2_with (first | (go_at_call 81; refine (isMonth_any _ _ _).mono ?_; rintro e w' ⟨rfl, rfl⟩) | (go_at_call 82; refine (length_any _ _ _ ht (by omega) (by omega) (by omega)).mono ?_; rintro e w' ⟨rfl, rfl⟩) | (go_at_call 83; refine (first_any _ _ _ ht (by omega) (by omega) (by omega) (by omega)).mono ?_; rintro e w' ⟨rfl, rfl⟩) | (go_at_call 78; refine (weekday_any _ _ (by omega) (by omega)).mono ?_; rintro e w' ⟨rfl, rfl⟩))
      all_goals go_ret2
      all_goals exact ⟨two_eq (by rw [hz.out.1, hD.out]; repeat' split
                                  all_goals omega) (by rw [hz.out.2, hD.out]; repeat' split
                                                       all_goals omega), rfl⟩
  · have hz := Lib.hid (nth_no hok)
    rcases nth_wrong hok with hmB | ⟨hmB, h | h | ⟨h5, h6, ⟨h7, h8⟩ | h⟩⟩
    all_goals
      go_enter Tryd.func73, Tryd.ntmps73
      go_wp2_with (go_at_call 81; refine (isMonth_any _ _ _).mono ?_; rintro e w' ⟨rfl, rfl⟩)
      all_goals go_ret2
      all_goals exact ⟨two_eq hz.out.1.symm hz.out.2.symm, rfl⟩

theorem nth_close {y m wd n : Int} (h : 2000 ≤ y ∧ y ≤ 2093 ∧ 1 ≤ m ∧ m ≤ 12 ∧ 0 ≤ wd ∧ wd ≤ 6 ∧ (n = -1 ∨ 1 ≤ n ∧ n ≤ 5)) :
    (Cal.fnd n (Cal.fst y m) (Cal.nthS y m wd) (Cal.len y m) < 0 → Cal.nthV y m wd n = 0 ∧ Cal.nthE y m wd n = 4) ∧
    (0 ≤ Cal.fnd n (Cal.fst y m) (Cal.nthS y m wd) (Cal.len y m) → 34000 < Cal.fnd n (Cal.fst y m) (Cal.nthS y m wd) (Cal.len y m) → Cal.nthV y m wd n = 0 ∧ Cal.nthE y m wd n = 3) ∧
    (0 ≤ Cal.fnd n (Cal.fst y m) (Cal.nthS y m wd) (Cal.len y m) → Cal.fnd n (Cal.fst y m) (Cal.nthS y m wd) (Cal.len y m) ≤ 34000 → Cal.nthV y m wd n = Cal.fnd n (Cal.fst y m) (Cal.nthS y m wd) (Cal.len y m) ∧ Cal.nthE y m wd n = 0) := by
  have hz := nth_yes h
  obtain ⟨h1, h2, h3, h4, h5, h6, h7⟩ := h
  have hb := Cal.fst_bd y m h1 h2
  have hD : Cal.fst y m ≤ Cal.nthD y m wd n := by
    have := Cal.nthS_bd y m wd; have := Cal.len_bd y m; unfold Cal.nthD; split <;> omega
  rcases Cal.fnd_end (y := y) (m := m) (w := wd) h7 hb.1 with ⟨a, b⟩ | ⟨a, b⟩
  · rw [b, hz.1, hz.2, if_pos a, if_pos a]; exact ⟨fun _ => ⟨rfl, rfl⟩, fun h => by omega, fun h => by omega⟩
  · have na : ¬ (Cal.fst y m + Cal.len y m ≤ Cal.nthD y m wd n) := by omega
    rw [b, hz.1, hz.2]; simp only [if_neg na]
    refine ⟨fun h => by omega, fun _ h => by simp [h], fun _ h => ?_⟩
    have nb : ¬ 34000 < Cal.nthD y m wd n := by omega
    simp [nb]

end Go.Proofs.YtcnenkhgbifmmaaDoor
