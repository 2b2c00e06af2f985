/- The walks of the laws on dates: round trip, succession, years. Each returns true for every input. Condition: the table of lengths. -/
import Derived.Test.YtponbbgfaanedaaDoorWalkD
import Derived.OpenShut
set_option linter.unusedVariables false
namespace Go.Proofs.YtponbbgfaanedaaDoor
open Go.RowKit

/-- a day within the range: its date, and back -/
theorem back {D : Int} (h0 : 0 ≤ D) (h1 : D ≤ 34000) : Cal.rE D = 0 ∧ Cal.nE (Cal.rY D) (Cal.rM D) (Cal.rD D) = 0 ∧ Cal.nV (Cal.rY D) (Cal.rM D) (Cal.rD D) = D := by
  obtain ⟨x, y, z, u, _⟩ := rYes h0 h1
  obtain ⟨v, e⟩ := Cal.date_of h0
  have hy := v.year (by omega)
  obtain ⟨a1, a2, a3, a4, a5⟩ := v
  rw [x, y, z]
  have := day_yes (y := Cal.dY D) (m := Cal.dM D) (d := Cal.dD D) ⟨a1, hy, a2, a3, a4, a5⟩ (by omega)
  exact ⟨u, this.2, by rw [this.1]; exact e⟩

set_option maxHeartbeats 2000000 in
set_option maxRecDepth 100000 in
theorem roundTrip_true (n yr mo da : Int) (w : World) (ht : Tab w) (h1 : 0 ≤ n) (h2 : n ≤ 4294967295) (h3 : 0 ≤ yr) (h4 : yr ≤ 255) (h5 : 0 ≤ mo) (h6 : mo ≤ 255) (h7 : 0 ≤ da) (h8 : da ≤ 255) :
    Calls Tryd.prog 4 #[.int .u32 n, .int .u8 yr, .int .u8 mo, .int .u8 da] w (Ret (.bool true) w) := by
  obtain ⟨e1, e2, e3⟩ := back (D := n % 34001) (by omega) (by omega)
  have hb := Cal.fst_bd (2000 + yr % 94) (1 + mo % 12) (by omega) (by omega)
  have hl := Cal.len_bd (2000 + yr % 94) (1 + mo % 12)
  by_cases hv : 1 + da % 31 ≤ Cal.len (2000 + yr % 94) (1 + mo % 12)
  · by_cases hf : 34000 < Cal.fst (2000 + yr % 94) (1 + mo % 12) + (1 + da % 31) - 1
    · obtain ⟨g1, g2⟩ := day_far (y := 2000 + yr % 94) (m := 1 + mo % 12) (d := 1 + da % 31) ⟨by omega, by omega, by omega, by omega, by omega, hv⟩ hf
      have hy : (2000 + yr % 94 == 2093) = true := by
        have := Cal.cum_bd (2000 + yr % 94) (1 + mo % 12)
        unfold Cal.fst at hf; simp; omega
      go_enter Tryd.func4, Tryd.ntmps4
      go_wp2_with (first | (go_at_call 10; refine (head_true _ ht).mono ?_; rintro e w' ⟨rfl, rfl⟩) | (go_at_call 19; refine (on_any _ _ (by omega) (by omega)).mono ?_; rintro e w' ⟨rfl, rfl⟩) | (go_at_call 11; refine (date_any _ _ ht).mono ?_; rintro e w' ⟨rfl, rfl⟩) | (go_at_call 13; refine (day_any _ _ _ _ ht).mono ?_; rintro e w' ⟨rfl, rfl⟩) | (go_at_call 15; refine (weekdayOf_any _ _).mono ?_; rintro e w' ⟨rfl, rfl⟩) | (go_at_call 17; refine (nth_any _ _ _ _ _ ht).mono ?_; rintro e w' ⟨rfl, rfl⟩) | (go_at_call 20; refine (refLength_any _ _ _ (by omega)).mono ?_; rintro e w' ⟨rfl, rfl⟩))
      go_ret
      exact ⟨rfl, rfl⟩
    · obtain ⟨g1, g2⟩ := day_yes (y := 2000 + yr % 94) (m := 1 + mo % 12) (d := 1 + da % 31) ⟨by omega, by omega, by omega, by omega, by omega, hv⟩ (by omega)
      obtain ⟨x1, x2, x3, x4, _⟩ := rYes (n := Cal.fst (2000 + yr % 94) (1 + mo % 12) + (1 + da % 31) - 1) (by omega) (by omega)
      obtain ⟨y1, y2, y3⟩ := Cal.date_is (n := Cal.fst (2000 + yr % 94) (1 + mo % 12) + (1 + da % 31) - 1) (y := 2000 + yr % 94) (m := 1 + mo % 12) (d := 1 + da % 31) ⟨by omega, by omega, by omega, by omega, hv⟩ rfl
      rw [y1] at x1; rw [y2] at x2; rw [y3] at x3
      generalize Cal.fst (2000 + yr % 94) (1 + mo % 12) + (1 + da % 31) - 1 = K at *
      go_enter Tryd.func4, Tryd.ntmps4
      go_wp2_with (first | (go_at_call 10; refine (head_true _ ht).mono ?_; rintro e w' ⟨rfl, rfl⟩) | (go_at_call 19; refine (on_any _ _ (by omega) (by omega)).mono ?_; rintro e w' ⟨rfl, rfl⟩) | (go_at_call 11; refine (date_any _ _ ht).mono ?_; rintro e w' ⟨rfl, rfl⟩) | (go_at_call 13; refine (day_any _ _ _ _ ht).mono ?_; rintro e w' ⟨rfl, rfl⟩) | (go_at_call 15; refine (weekdayOf_any _ _).mono ?_; rintro e w' ⟨rfl, rfl⟩) | (go_at_call 17; refine (nth_any _ _ _ _ _ ht).mono ?_; rintro e w' ⟨rfl, rfl⟩) | (go_at_call 20; refine (refLength_any _ _ _ (by omega)).mono ?_; rintro e w' ⟨rfl, rfl⟩))
      go_ret
      exact ⟨rfl, rfl⟩
  · obtain ⟨g1, g2⟩ := day_no (y := 2000 + yr % 94) (m := 1 + mo % 12) (d := 1 + da % 31) (by omega)
    go_enter Tryd.func4, Tryd.ntmps4
    go_wp2_with (first | (go_at_call 10; refine (head_true _ ht).mono ?_; rintro e w' ⟨rfl, rfl⟩) | (go_at_call 19; refine (on_any _ _ (by omega) (by omega)).mono ?_; rintro e w' ⟨rfl, rfl⟩) | (go_at_call 11; refine (date_any _ _ ht).mono ?_; rintro e w' ⟨rfl, rfl⟩) | (go_at_call 13; refine (day_any _ _ _ _ ht).mono ?_; rintro e w' ⟨rfl, rfl⟩) | (go_at_call 15; refine (weekdayOf_any _ _).mono ?_; rintro e w' ⟨rfl, rfl⟩) | (go_at_call 17; refine (nth_any _ _ _ _ _ ht).mono ?_; rintro e w' ⟨rfl, rfl⟩) | (go_at_call 20; refine (refLength_any _ _ _ (by omega)).mono ?_; rintro e w' ⟨rfl, rfl⟩))
    go_ret
    exact ⟨rfl, rfl⟩

/-- the date of a day of the range -/
theorem dates {D : Int} (h0 : 0 ≤ D) (h1 : D ≤ 34000) : ∃ y m d : Int, Cal.rY D = y ∧ Cal.rM D = m ∧ Cal.rD D = d ∧ Cal.rE D = 0 ∧ Cal.V y m d ∧ y ≤ 2093 ∧ Hid (Cal.fst y m + d - 1 = D) := by
  obtain ⟨x, y, z, u, _⟩ := rYes h0 h1
  obtain ⟨v, e⟩ := Cal.date_of h0
  exact ⟨_, _, _, x, y, z, u, v, v.year (by omega), Lib.hid e⟩
theorem dates_is {D y m d : Int} (h0 : 0 ≤ D) (h1 : D ≤ 34000) (v : Cal.V y m d) (e : Cal.fst y m + d - 1 = D) : Cal.rY D = y ∧ Cal.rM D = m ∧ Cal.rD D = d ∧ Cal.rE D = 0 := by
  obtain ⟨x, y, z, u, _⟩ := rYes h0 h1
  obtain ⟨a, b, c⟩ := Cal.date_is v e
  exact ⟨x.trans a, y.trans b, z.trans c, u⟩
set_option maxHeartbeats 2000000 in
set_option maxRecDepth 100000 in
theorem succession_true (n : Int) (w : World) (ht : Tab w) (h1 : 0 ≤ n) (h2 : n ≤ 4294967295) :
    Calls Tryd.prog 5 #[.int .u32 n] w (Ret (.bool true) w) := by
  by_cases hlast : n % 34001 = 34000
  · have hl : (n % 34001 == 34000) = true := by simpa using hlast
    clear hlast
    go_enter Tryd.func5, Tryd.ntmps5
    go_wp2_with (first | (go_at_call 10; refine (head_true _ ht).mono ?_; rintro e w' ⟨rfl, rfl⟩) | (go_at_call 19; refine (on_any _ _ (by omega) (by omega)).mono ?_; rintro e w' ⟨rfl, rfl⟩) | (go_at_call 11; refine (date_any _ _ ht).mono ?_; rintro e w' ⟨rfl, rfl⟩) | (go_at_call 13; refine (day_any _ _ _ _ ht).mono ?_; rintro e w' ⟨rfl, rfl⟩) | (go_at_call 15; refine (weekdayOf_any _ _).mono ?_; rintro e w' ⟨rfl, rfl⟩) | (go_at_call 17; refine (nth_any _ _ _ _ _ ht).mono ?_; rintro e w' ⟨rfl, rfl⟩) | (go_at_call 20; refine (refLength_any _ _ _ (by omega)).mono ?_; rintro e w' ⟨rfl, rfl⟩))
    go_ret
    exact ⟨rfl, rfl⟩
  · have hl : (n % 34001 == 34000) = false := by simpa using hlast
    obtain ⟨y, m, d, x1, x2, x3, x4, v, hy, hn⟩ := dates (D := n % 34001) (by omega) (by omega)
    have hv := v
    obtain ⟨a1, a2, a3, a4, a5⟩ := v
    have hlen := Cal.len_bd y m
    by_cases hc : d + 1 ≤ Cal.len y m
    · obtain ⟨z1, z2, z3, z4⟩ := dates_is (D := n % 34001 + 1) (y := y) (m := m) (d := d + 1) (by omega) (by omega) ⟨a1, a2, a3, by omega, hc⟩ (by have := hn.out; omega)
      have g2 : Cal.nE y m (d + 1) = 0 := (day_yes ⟨a1, hy, a2, a3, by omega, hc⟩ (by have := hn.out; omega)).2
      clear hlast
      go_enter Tryd.func5, Tryd.ntmps5
      go_wp2_with (first | (go_at_call 10; refine (head_true _ ht).mono ?_; rintro e w' ⟨rfl, rfl⟩) | (go_at_call 19; refine (on_any _ _ (by omega) (by omega)).mono ?_; rintro e w' ⟨rfl, rfl⟩) | (go_at_call 11; refine (date_any _ _ ht).mono ?_; rintro e w' ⟨rfl, rfl⟩) | (go_at_call 13; refine (day_any _ _ _ _ ht).mono ?_; rintro e w' ⟨rfl, rfl⟩) | (go_at_call 15; refine (weekdayOf_any _ _).mono ?_; rintro e w' ⟨rfl, rfl⟩) | (go_at_call 17; refine (nth_any _ _ _ _ _ ht).mono ?_; rintro e w' ⟨rfl, rfl⟩) | (go_at_call 20; refine (refLength_any _ _ _ (by omega)).mono ?_; rintro e w' ⟨rfl, rfl⟩))
      go_ret
      exact ⟨rfl, rfl⟩
    · have g2 : Cal.nE y m (d + 1) = 1 := (day_no (by omega)).2
      by_cases hm : m ≤ 11
      · have hl2 := Cal.len_bd y (m + 1)
        obtain ⟨z1, z2, z3, z4⟩ := dates_is (D := n % 34001 + 1) (y := y) (m := m + 1) (d := 1) (by omega) (by omega) ⟨a1, by omega, by omega, by omega, by omega⟩ (by have := hn.out; have := Cal.fst_succ y m a2 hm; omega)
        clear hlast
        go_enter Tryd.func5, Tryd.ntmps5
        go_wp2_with (first | (go_at_call 10; refine (head_true _ ht).mono ?_; rintro e w' ⟨rfl, rfl⟩) | (go_at_call 19; refine (on_any _ _ (by omega) (by omega)).mono ?_; rintro e w' ⟨rfl, rfl⟩) | (go_at_call 11; refine (date_any _ _ ht).mono ?_; rintro e w' ⟨rfl, rfl⟩) | (go_at_call 13; refine (day_any _ _ _ _ ht).mono ?_; rintro e w' ⟨rfl, rfl⟩) | (go_at_call 15; refine (weekdayOf_any _ _).mono ?_; rintro e w' ⟨rfl, rfl⟩) | (go_at_call 17; refine (nth_any _ _ _ _ _ ht).mono ?_; rintro e w' ⟨rfl, rfl⟩) | (go_at_call 20; refine (refLength_any _ _ _ (by omega)).mono ?_; rintro e w' ⟨rfl, rfl⟩))
        go_ret
        exact ⟨rfl, rfl⟩
      · obtain rfl : m = 12 := by omega
        have hl2 := Cal.len_bd (y + 1) 1
        obtain ⟨z1, z2, z3, z4⟩ := dates_is (D := n % 34001 + 1) (y := y + 1) (m := 1) (d := 1) (by omega) (by omega) ⟨by omega, by omega, by omega, by omega, by omega⟩ (by have := hn.out; have := Cal.fst_year y; omega)
        have hne : (y + 1 == y) = false := by simp; omega
        clear hlast
        go_enter Tryd.func5, Tryd.ntmps5
        go_wp2_with (first | (go_at_call 10; refine (head_true _ ht).mono ?_; rintro e w' ⟨rfl, rfl⟩) | (go_at_call 19; refine (on_any _ _ (by omega) (by omega)).mono ?_; rintro e w' ⟨rfl, rfl⟩) | (go_at_call 11; refine (date_any _ _ ht).mono ?_; rintro e w' ⟨rfl, rfl⟩) | (go_at_call 13; refine (day_any _ _ _ _ ht).mono ?_; rintro e w' ⟨rfl, rfl⟩) | (go_at_call 15; refine (weekdayOf_any _ _).mono ?_; rintro e w' ⟨rfl, rfl⟩) | (go_at_call 17; refine (nth_any _ _ _ _ _ ht).mono ?_; rintro e w' ⟨rfl, rfl⟩) | (go_at_call 20; refine (refLength_any _ _ _ (by omega)).mono ?_; rintro e w' ⟨rfl, rfl⟩))
        go_ret
        exact ⟨rfl, rfl⟩

theorem fst_next (y m : Int) (h1 : 1 ≤ m) (h2 : m ≤ 12) : Cal.fst (y + 1) m - Cal.fst y m = 365 + (if 2 < m then Cal.lp (y + 1) else Cal.lp y) := by
  have p := Cal.lp_cases y; have q := Cal.lp_cases (y + 1)
  rcases Cal.month_cases h1 h2 with rfl | rfl | rfl | rfl | rfl | rfl | rfl | rfl | rfl | rfl | rfl | rfl <;> simp [Cal.fst, Cal.cum] <;> omega
theorem len_next {y m d : Int} (h : d ≤ Cal.len y m) (h' : ¬ d ≤ Cal.len (y + 1) m) : m = 2 ∧ d = 29 := by
  have p := Cal.lp_cases y; have q := Cal.lp_cases (y + 1)
  unfold Cal.len at h h'
  by_cases e : m = 2
  · simp only [e, if_true] at h h'; omega
  · simp only [if_neg e] at h h'; omega
/-- what the year after says: the six ways through the law behind the first test -/
theorem year_ways {y m d D : Int} (v : Cal.V y m d) (hy : y ≤ 2093) (hD : Cal.fst y m + d - 1 = D) :
    (Cal.nE (y + 1) m d = 1 ∧ (m = 2 ∧ d = 29 ∨ (m == 2 && d == 29) = false ∧ 2092 ≤ y)) ∨ (Cal.nE (y + 1) m d = 3 ∧ (m = 2 ∧ d = 29 ∨ (m == 2 && d == 29) = false ∧ 2092 ≤ y)) ∨
    (Cal.nE (y + 1) m d = 0 ∧ ((2 < m ∧ (((y + 1) % 4 == 0) = true ∧ Cal.nV (y + 1) m d - D = 366 ∨ ((y + 1) % 4 == 0) = false ∧ Cal.nV (y + 1) m d - D = 365)) ∨ (m ≤ 2 ∧ ((y % 4 == 0) = true ∧ Cal.nV (y + 1) m d - D = 366 ∨ (y % 4 == 0) = false ∧ Cal.nV (y + 1) m d - D = 365)))) := by
  obtain ⟨a1, a2, a3, a4, a5⟩ := v
  have hn := fst_next y m a2 a3
  have p := Cal.lp_cases y; have q := Cal.lp_cases (y + 1)
  by_cases hd : y + 1 ≤ 2093 ∧ d ≤ Cal.len (y + 1) m
  · by_cases hf : 34000 < Cal.fst (y + 1) m + d - 1
    · right; left
      refine ⟨(day_far ⟨by omega, by omega, a2, a3, a4, hd.2⟩ hf).2, ?_⟩
      have hy2 : 2092 ≤ y := by have := Cal.cum_bd (y + 1) m; have := Cal.len_bd y m; unfold Cal.fst at hf; omega
      by_cases e : m = 2 ∧ d = 29
      · exact .inl e
      · refine .inr ⟨?_, hy2⟩; simp; omega
    · right; right
      have hv := (day_yes ⟨by omega, by omega, a2, a3, a4, hd.2⟩ (by omega : Cal.fst (y + 1) m + d - 1 ≤ 34000))
      refine ⟨hv.2, ?_⟩
      rw [hv.1]
      by_cases e : 2 < m
      · rw [if_pos e] at hn
        refine .inl ⟨e, ?_⟩
        rcases q with ⟨q1, q2⟩ | ⟨q1, q2⟩
        · exact .inl ⟨by simpa using q1, by omega⟩
        · exact .inr ⟨by simpa using q1, by omega⟩
      · rw [if_neg e] at hn
        refine .inr ⟨by omega, ?_⟩
        rcases p with ⟨q1, q2⟩ | ⟨q1, q2⟩
        · exact .inl ⟨by simpa using q1, by omega⟩
        · exact .inr ⟨by simpa using q1, by omega⟩
  · left
    refine ⟨(day_no (by omega)).2, ?_⟩
    by_cases e : m = 2 ∧ d = 29
    · exact .inl e
    · refine .inr ⟨by simp; omega, ?_⟩
      by_cases h : d ≤ Cal.len (y + 1) m
      · omega
      · exact absurd (len_next a5 h) e
set_option maxHeartbeats 2000000 in
set_option maxRecDepth 100000 in
theorem years_true (n : Int) (w : World) (ht : Tab w) (h1 : 0 ≤ n) (h2 : n ≤ 4294967295) :
    Calls Tryd.prog 6 #[.int .u32 n] w (Ret (.bool true) w) := by
  obtain ⟨y, m, d, x1, x2, x3, x4, v, hy, hn⟩ := dates (D := n % 34001) (by omega) (by omega)
  have hw := year_ways v hy hn.out
  have hv := v
  obtain ⟨a1, a2, a3, a4, a5⟩ := v
  have hlen := Cal.len_bd y m
  have hrest : ∀ (P : Prop), (n % 34001 + 1461 ≤ 34000 → Cal.rY (n % 34001 + 1461) = y + 4 → Cal.rM (n % 34001 + 1461) = m → Cal.rD (n % 34001 + 1461) = d → Cal.rE (n % 34001 + 1461) = 0 → P) → (34000 < n % 34001 + 1461 → P) → P := by
    intro P hp hq
    by_cases hc : n % 34001 + 1461 ≤ 34000
    · have hl4 : Cal.len (y + 4) m = Cal.len y m := by
        have : Cal.lp (y + 4) = Cal.lp y := by unfold Cal.lp; rw [show (y + 4) % 4 = y % 4 by omega]
        unfold Cal.len; rw [this]
      obtain ⟨z1, z2, z3, z4⟩ := dates_is (D := n % 34001 + 1461) (y := y + 4) (m := m) (d := d) (by omega) hc ⟨by omega, a2, a3, a4, by omega⟩ (by have := hn.out; have := Cal.fst_four y m; omega)
      exact hp hc z1 z2 z3 z4
    · exact hq (by omega)
  rcases hw with ⟨g, ⟨rfl, rfl⟩ | ⟨ha, hb⟩⟩ | ⟨g, ⟨rfl, rfl⟩ | ⟨ha, hb⟩⟩ | ⟨g, ⟨hm, ⟨hl, hdiff⟩ | ⟨hl, hdiff⟩⟩ | ⟨hm, ⟨hl, hdiff⟩ | ⟨hl, hdiff⟩⟩⟩
  all_goals refine hrest _ (fun hc z1 z2 z3 z4 => ?_) (fun hc => ?_)
  all_goals clear hrest
  all_goals go_enter Tryd.func6, Tryd.ntmps6
  all_goals go_wp2_with (first | (go_at_call 10; refine (head_true _ ht).mono ?_; rintro e w' ⟨rfl, rfl⟩) | (go_at_call 19; refine (on_any _ _ (by omega) (by omega)).mono ?_; rintro e w' ⟨rfl, rfl⟩) | (go_at_call 11; refine (date_any _ _ ht).mono ?_; rintro e w' ⟨rfl, rfl⟩) | (go_at_call 13; refine (day_any _ _ _ _ ht).mono ?_; rintro e w' ⟨rfl, rfl⟩) | (go_at_call 15; refine (weekdayOf_any _ _).mono ?_; rintro e w' ⟨rfl, rfl⟩) | (go_at_call 17; refine (nth_any _ _ _ _ _ ht).mono ?_; rintro e w' ⟨rfl, rfl⟩) | (go_at_call 20; refine (refLength_any _ _ _ (by omega)).mono ?_; rintro e w' ⟨rfl, rfl⟩))

  all_goals go_ret
  all_goals exact ⟨rfl, rfl⟩
end Go.Proofs.YtponbbgfaanedaaDoor
