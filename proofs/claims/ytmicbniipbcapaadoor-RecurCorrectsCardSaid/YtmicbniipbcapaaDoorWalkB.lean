/- The contracts of calendar's exported functions and of the reference's: for all integers each returns the plain functions of its arguments (Cal.rY .. Cal.nthE), and the world stays as it was. -/
import Derived.Test.YtmicbniipbcapaaDoorWalkA
set_option linter.unusedVariables false
namespace Go.Proofs.YtmicbniipbcapaaDoor
open Go.RowKit

theorem four_eq {a b c d a' b' c' d' : Int} (h1 : a = a') (h2 : b = b') (h3 : c = c') (h4 : d = d') : Ending.returned (.tuple #[.int .i64 a, .int .i64 b, .int .i64 c, .int .i64 d]) = .returned (.tuple #[.int .i64 a', .int .i64 b', .int .i64 c', .int .i64 d']) := by rw [h1, h2, h3, h4]
theorem two_eq {a b a' b' : Int} (h1 : a = a') (h2 : b = b') : Ending.returned (.tuple #[.int .i64 a, .int .i64 b]) = .returned (.tuple #[.int .i64 a', .int .i64 b']) := by rw [h1, h2]

theorem rNo {n : Int} (h : ¬ (0 ≤ n ∧ n ≤ 34000)) : Cal.rY n = 0 ∧ Cal.rM n = 0 ∧ Cal.rD n = 0 ∧ Cal.rE n = 1 ∧ Cal.wV n = 0 := by
  have : Cal.dayB n = false := by simpa [Cal.dayB] using h
  simp [Cal.rY, Cal.rM, Cal.rD, Cal.rE, Cal.wV, this]
theorem rYes {n : Int} (h0 : 0 ≤ n) (h1 : n ≤ 34000) : Cal.rY n = Cal.dY n ∧ Cal.rM n = Cal.dM n ∧ Cal.rD n = Cal.dD n ∧ Cal.rE n = 0 ∧ Cal.wV n = (n + 5) % 7 := by
  have : Cal.dayB n = true := by simp [Cal.dayB, h0, h1]
  simp [Cal.rY, Cal.rM, Cal.rD, Cal.rE, Cal.wV, this]
theorem date_end {n y m d : Int} (h0 : 0 ≤ n) (h1 : n ≤ 34000) (a : 2000 ≤ y) (b : 1 ≤ m) (c : m ≤ 12) (e : 0 ≤ d) (f : d < Cal.len y m) (g : Cal.fst y m + d = n) :
    Ending.returned (.tuple #[.int .i64 y, .int .i64 m, .int .i64 (d + 1), .int .i64 0]) = .returned (.tuple #[.int .i64 (Cal.rY n), .int .i64 (Cal.rM n), .int .i64 (Cal.rD n), .int .i64 (Cal.rE n)]) := by
  obtain ⟨x1, x2, x3, x4, _⟩ := rYes h0 h1
  obtain ⟨y1, y2, y3⟩ := Cal.date_is (n := n) (y := y) (m := m) (d := d + 1) ⟨a, b, c, by omega, by omega⟩ (by omega)
  exact four_eq (by omega) (by omega) (by omega) (by omega)

set_option maxHeartbeats 1000000 in
theorem date_any (n : Int) (w : World) (ht : Tab w) :
    Calls Tryd.prog 41 #[.int .i64 n] w (Ret (.tuple #[.int .i64 (Cal.rY n), .int .i64 (Cal.rM n), .int .i64 (Cal.rD n), .int .i64 (Cal.rE n)]) w) := by
  by_cases hr : 0 ≤ n ∧ n ≤ 34000
  · obtain ⟨h0, h1⟩ := hr
    go_enter Tryd.func41, Tryd.ntmps41
    go_wp2
    go_loop [0, 2, 3] (fun t i j => ∃ y m d : Int, 2000 ≤ y ∧ 1 ≤ m ∧ m ≤ 12 ∧ 0 ≤ d ∧ Hid (Cal.fst y m + d = n) ∧ t = .int .i64 d ∧ i = .int .i64 y ∧ j = .int .i64 m) (fun t _ _ => (intOf t).toNat)
    case atStart => exact ⟨_, 1, _, by omega, by omega, by omega, by omega, Lib.hid (Cal.fst_start n h0), rfl, rfl, rfl⟩
    case round =>
      obtain ⟨y, m, d, hy, hm1, hm2, hd, hn, rfl, rfl, rfl⟩ := hrel
      have hl := Cal.len_bd y m
      have hyy : y ≤ 2093 := Cal.V.yearLt hy hd (by rw [hn.out]; exact h1)
      have hdd : d ≤ 34000 := by have := Cal.fst_bd y m hy hyy; have := hn.out; omega
      by_cases hge : Cal.len y m ≤ d
      · by_cases hm : m ≤ 11
        · have HS := Lib.hid (Cal.fst_succ y m hm1 hm)
          go_wp2_with (go_at_call 68; refine (length_any _ _ _ ht (by omega) (by omega) (by omega)).mono ?_; rintro e w' ⟨rfl, rfl⟩)
          go_round
          case rel => exact ⟨y, m + 1, d - Cal.len y m, by omega, by omega, by omega, by omega, Lib.hid (by have := HS.out; have := hn.out; omega), rfl, rfl, rfl⟩
          case measure => simp [intOf]; omega
        · obtain rfl : m = 12 := by omega
          have HS := Lib.hid (Cal.fst_year y)
          go_wp2_with (go_at_call 68; refine (length_any _ _ _ ht (by omega) (by omega) (by omega)).mono ?_; rintro e w' ⟨rfl, rfl⟩)
          go_round
          case rel => exact ⟨y + 1, 1, d - Cal.len y 12, by omega, by omega, by omega, by omega, Lib.hid (by have := HS.out; have := hn.out; omega), rfl, rfl, rfl⟩
          case measure => simp [intOf]; omega
      · go_wp2_with (go_at_call 68; refine (length_any _ _ _ ht (by omega) (by omega) (by omega)).mono ?_; rintro e w' ⟨rfl, rfl⟩)
        exact bodyPost_ret (v := .tuple #[.int .i64 y, .int .i64 m, .int .i64 (d + 1), .int .i64 0]) (by simp [results, Tryd.results41, go_sem]) rfl ⟨date_end h0 h1 hy hm1 hm2 hd (by omega) hn.out, rfl⟩
  · have hz := Lib.hid (rNo hr)
    by_cases h0 : n < 0
    all_goals
      go_enter Tryd.func41, Tryd.ntmps41
      go_wp2
      exact bodyPost_ret (v := .tuple #[.int .i64 0, .int .i64 0, .int .i64 0, .int .i64 1]) (by simp [results, Tryd.results41, go_sem]) rfl ⟨four_eq hz.out.1.symm hz.out.2.1.symm hz.out.2.2.1.symm hz.out.2.2.2.1.symm, rfl⟩

set_option maxHeartbeats 1000000 in
theorem refDate_any (n : Int) (w : World) :
    Calls Tryd.prog 59 #[.int .i64 n] w (Ret (.tuple #[.int .i64 (Cal.rY n), .int .i64 (Cal.rM n), .int .i64 (Cal.rD n), .int .i64 (Cal.rE n)]) w) := by
  by_cases hr : 0 ≤ n ∧ n ≤ 34000
  · obtain ⟨h0, h1⟩ := hr
    go_enter Tryd.func59, Tryd.ntmps59
    go_wp2
    go_loop [0, 6, 7] (fun t i j => ∃ y m d : Int, 2000 ≤ y ∧ 1 ≤ m ∧ m ≤ 12 ∧ 0 ≤ d ∧ Hid (Cal.fst y m + d = n) ∧ t = .int .i64 d ∧ i = .int .i64 y ∧ j = .int .i64 m) (fun t _ _ => (intOf t).toNat)
    case atStart => exact ⟨2000, 1, n, by omega, by omega, by omega, by omega, Lib.hid (by rw [Cal.fst_2000]; omega), rfl, rfl, rfl⟩
    case round =>
      obtain ⟨y, m, d, hy, hm1, hm2, hd, hn, rfl, rfl, rfl⟩ := hrel
      have hl := Cal.len_bd y m
      have hyy : y ≤ 2093 := Cal.V.yearLt hy hd (by rw [hn.out]; exact h1)
      have hdd : d ≤ 34000 := by have := Cal.fst_bd y m hy hyy; have := hn.out; omega
      by_cases hge : Cal.len y m ≤ d
      · by_cases hm : m ≤ 11
        · have HS := Lib.hid (Cal.fst_succ y m hm1 hm)
          go_wp2_with (go_at_call 76; refine (refLength_any _ _ _ (by omega)).mono ?_; rintro e w' ⟨rfl, rfl⟩)
          go_round
          case rel => exact ⟨y, m + 1, d - Cal.len y m, by omega, by omega, by omega, by omega, Lib.hid (by have := HS.out; have := hn.out; omega), rfl, rfl, rfl⟩
          case measure => simp [intOf]; omega
        · obtain rfl : m = 12 := by omega
          have HS := Lib.hid (Cal.fst_year y)
          go_wp2_with (go_at_call 76; refine (refLength_any _ _ _ (by omega)).mono ?_; rintro e w' ⟨rfl, rfl⟩)
          go_round
          case rel => exact ⟨y + 1, 1, d - Cal.len y 12, by omega, by omega, by omega, by omega, Lib.hid (by have := HS.out; have := hn.out; omega), rfl, rfl, rfl⟩
          case measure => simp [intOf]; omega
      · go_wp2_with (go_at_call 76; refine (refLength_any _ _ _ (by omega)).mono ?_; rintro e w' ⟨rfl, rfl⟩)
        exact bodyPost_ret (v := .tuple #[.int .i64 y, .int .i64 m, .int .i64 (d + 1), .int .i64 0]) (by simp [results, Tryd.results59, go_sem]) rfl ⟨date_end h0 h1 hy hm1 hm2 hd (by omega) hn.out, rfl⟩
  · have hz := Lib.hid (rNo hr)
    by_cases h0 : n < 0
    all_goals
      go_enter Tryd.func59, Tryd.ntmps59
      go_wp2
      exact bodyPost_ret (v := .tuple #[.int .i64 0, .int .i64 0, .int .i64 0, .int .i64 1]) (by simp [results, Tryd.results59, go_sem]) rfl ⟨four_eq hz.out.1.symm hz.out.2.1.symm hz.out.2.2.1.symm hz.out.2.2.2.1.symm, rfl⟩

theorem weekdayOf_any (n : Int) (w : World) :
    Calls Tryd.prog 42 #[.int .i64 n] w (Ret (.tuple #[.int .i64 (Cal.wV n), .int .i64 (Cal.rE n)]) w) := by
  by_cases hr : 0 ≤ n ∧ n ≤ 34000
  · obtain ⟨h0, h1⟩ := hr
    have hz := Lib.hid (rYes h0 h1)
    go_enter Tryd.func42, Tryd.ntmps42
    go_wp2_with (go_at_call 69; refine (weekday_any _ _ (by omega) (by omega)).mono ?_; rintro e w' ⟨rfl, rfl⟩)
    go_ret2
    exact ⟨two_eq hz.out.2.2.2.2.symm hz.out.2.2.2.1.symm, rfl⟩
  · have hz := Lib.hid (rNo hr)
    by_cases h0 : n < 0
    all_goals
      go_enter Tryd.func42, Tryd.ntmps42
      go_wp2
      go_ret2
      exact ⟨two_eq hz.out.2.2.2.2.symm hz.out.2.2.2.1.symm, rfl⟩
theorem refWeekday_any (n : Int) (w : World) :
    Calls Tryd.prog 57 #[.int .i64 n] w (Ret (.tuple #[.int .i64 (Cal.wV n), .int .i64 (Cal.rE n)]) w) := by
  by_cases hr : 0 ≤ n ∧ n ≤ 34000
  · obtain ⟨h0, h1⟩ := hr
    have hz := Lib.hid (rYes h0 h1)
    go_enter Tryd.func57, Tryd.ntmps57
    go_wp2
    go_ret2
    exact ⟨two_eq hz.out.2.2.2.2.symm hz.out.2.2.2.1.symm, rfl⟩
  · have hz := Lib.hid (rNo hr)
    by_cases h0 : n < 0
    all_goals
      go_enter Tryd.func57, Tryd.ntmps57
      go_wp2
      go_ret2
      exact ⟨two_eq hz.out.2.2.2.2.symm hz.out.2.2.2.1.symm, rfl⟩

theorem monB_yes {y m : Int} (h : 2000 ≤ y ∧ y ≤ 2093 ∧ 1 ≤ m ∧ m ≤ 12) : Cal.monB y m = true := by simp [Cal.monB, h]
theorem monB_no {y m : Int} (h : ¬ (2000 ≤ y ∧ y ≤ 2093 ∧ 1 ≤ m ∧ m ≤ 12)) : Cal.monB y m = false := by unfold Cal.monB; exact decide_eq_false h
theorem day_no {y m d : Int} (h : ¬ (2000 ≤ y ∧ y ≤ 2093 ∧ 1 ≤ m ∧ m ≤ 12 ∧ 1 ≤ d ∧ d ≤ Cal.len y m)) : Cal.nV y m d = 0 ∧ Cal.nE y m d = 1 := by
  have : Cal.datB y m d = false := by unfold Cal.datB; exact decide_eq_false h
  simp [Cal.nV, Cal.nE, this]
theorem day_yes {y m d : Int} (h : 2000 ≤ y ∧ y ≤ 2093 ∧ 1 ≤ m ∧ m ≤ 12 ∧ 1 ≤ d ∧ d ≤ Cal.len y m) (h' : Cal.fst y m + d - 1 ≤ 34000) : Cal.nV y m d = Cal.fst y m + d - 1 ∧ Cal.nE y m d = 0 := by
  have : Cal.datB y m d = true := by unfold Cal.datB; exact decide_eq_true h
  have h2 : ¬ 34000 < Cal.fst y m + d - 1 := by omega
  simp [Cal.nV, Cal.nE, this, h2]
theorem day_far {y m d : Int} (h : 2000 ≤ y ∧ y ≤ 2093 ∧ 1 ≤ m ∧ m ≤ 12 ∧ 1 ≤ d ∧ d ≤ Cal.len y m) (h' : 34000 < Cal.fst y m + d - 1) : Cal.nV y m d = 0 ∧ Cal.nE y m d = 3 := by
  have : Cal.datB y m d = true := by unfold Cal.datB; exact decide_eq_true h
  simp [Cal.nV, Cal.nE, this, h']

set_option maxHeartbeats 1000000 in
theorem day_any (y m d : Int) (w : World) (ht : Tab w) :
    Calls Tryd.prog 54 #[.int .i64 y, .int .i64 m, .int .i64 d] w (Ret (.tuple #[.int .i64 (Cal.nV y m d), .int .i64 (Cal.nE y m d)]) w) := by
  by_cases hm : 2000 ≤ y ∧ y ≤ 2093 ∧ 1 ≤ m ∧ m ≤ 12
  · have hmB := monB_yes hm
    obtain ⟨h1, h2, h3, h4⟩ := hm
    have hb := Cal.fst_bd y m h1 h2
    have hl := Cal.len_bd y m
    by_cases hd : 1 ≤ d ∧ d ≤ Cal.len y m
    · obtain ⟨h5, h6⟩ := hd
      by_cases hf : 34000 < Cal.fst y m + d - 1
      · have hz := Lib.hid (day_far ⟨h1, h2, h3, h4, h5, h6⟩ hf)
        go_enter Tryd.func54, Tryd.ntmps54
        go_wp2_with (first | (go_at_call 70; refine (isMonth_any _ _ _).mono ?_; rintro e w' ⟨rfl, rfl⟩) | (go_at_call 68; refine (length_any _ _ _ ht (by omega) (by omega) (by omega)).mono ?_; rintro e w' ⟨rfl, rfl⟩) | (go_at_call 71; refine (first_any _ _ _ ht (by omega) (by omega) (by omega) (by omega)).mono ?_; rintro e w' ⟨rfl, rfl⟩))
        go_ret2
        exact ⟨two_eq hz.out.1.symm hz.out.2.symm, rfl⟩
      · have hz := Lib.hid (day_yes ⟨h1, h2, h3, h4, h5, h6⟩ (by omega))
        go_enter Tryd.func54, Tryd.ntmps54
        go_wp2_with (first | (go_at_call 70; refine (isMonth_any _ _ _).mono ?_; rintro e w' ⟨rfl, rfl⟩) | (go_at_call 68; refine (length_any _ _ _ ht (by omega) (by omega) (by omega)).mono ?_; rintro e w' ⟨rfl, rfl⟩) | (go_at_call 71; refine (first_any _ _ _ ht (by omega) (by omega) (by omega) (by omega)).mono ?_; rintro e w' ⟨rfl, rfl⟩))
        go_ret2
        exact ⟨two_eq hz.out.1.symm hz.out.2.symm, rfl⟩
    · have hz := Lib.hid (day_no (y := y) (m := m) (d := d) (by omega))
      by_cases h5 : d < 1
      all_goals
        go_enter Tryd.func54, Tryd.ntmps54
        go_wp2_with (first | (go_at_call 70; refine (isMonth_any _ _ _).mono ?_; rintro e w' ⟨rfl, rfl⟩) | (go_at_call 68; refine (length_any _ _ _ ht (by omega) (by omega) (by omega)).mono ?_; rintro e w' ⟨rfl, rfl⟩))
        go_ret2
        exact ⟨two_eq hz.out.1.symm hz.out.2.symm, rfl⟩
  · have hmB := monB_no hm
    have hz := Lib.hid (day_no (y := y) (m := m) (d := d) (by omega))
    go_enter Tryd.func54, Tryd.ntmps54
    go_wp2_with (go_at_call 70; refine (isMonth_any _ _ _).mono ?_; rintro e w' ⟨rfl, rfl⟩)
    go_ret2
    exact ⟨two_eq hz.out.1.symm hz.out.2.symm, rfl⟩
end Go.Proofs.YtmicbniipbcapaaDoor
