/- The walks of the laws on days of the week: weeks, the nth one, the fifth one. Each returns true for every input. Condition: the table of lengths. -/
import Derived.Test.YtponbbgfaanedaaDoorWalkE
set_option linter.unusedVariables false
namespace Go.Proofs.YtponbbgfaanedaaDoor
open Go.RowKit
theorem wV_yes {D : Int} (h0 : 0 ≤ D) (h1 : D ≤ 34000) : Cal.wV D = (D + 5) % 7 ∧ Cal.rE D = 0 := ⟨(rYes h0 h1).2.2.2.2, (rYes h0 h1).2.2.2.1⟩
set_option maxHeartbeats 2000000 in
set_option maxRecDepth 100000 in
theorem weeks_true (n : Int) (w : World) (ht : Tab w) (h1 : 0 ≤ n) (h2 : n ≤ 4294967295) :
    Calls Tryd.prog 7 #[.int .u32 n] w (Ret (.bool true) w) := by
  obtain ⟨x1, x2⟩ := wV_yes (D := n % 34001) (by omega) (by omega)
  go_enter Tryd.func7, Tryd.ntmps7
  go_wp2_with (first | (go_at_call 10; refine (head_true _ ht).mono ?_; rintro e w' ⟨rfl, rfl⟩) | (go_at_call 19; refine (on_any _ _ (by omega) (by omega)).mono ?_; rintro e w' ⟨rfl, rfl⟩) | (go_at_call 11; refine (date_any _ _ ht).mono ?_; rintro e w' ⟨rfl, rfl⟩) | (go_at_call 13; refine (day_any _ _ _ _ ht).mono ?_; rintro e w' ⟨rfl, rfl⟩) | (go_at_call 15; refine (weekdayOf_any _ _).mono ?_; rintro e w' ⟨rfl, rfl⟩) | (go_at_call 17; refine (nth_any _ _ _ _ _ ht).mono ?_; rintro e w' ⟨rfl, rfl⟩) | (go_at_call 20; refine (refLength_any _ _ _ (by omega)).mono ?_; rintro e w' ⟨rfl, rfl⟩))
  go_loop [7] (fun i => ∃ k : Int, 1 ≤ k ∧ k ≤ 8 ∧ i = .int .i64 k) (fun i => (8 - intOf i).toNat)
  case atStart => exact ⟨1, by omega, by omega, rfl⟩
  case round =>
    obtain ⟨k, hk1, hk2, rfl⟩ := hrel
    by_cases hk : k ≤ 7 ∧ n % 34001 + k ≤ 34000
    · obtain ⟨hk3, hk4⟩ := hk
      obtain ⟨y1, y2⟩ := wV_yes (D := n % 34001 + k) (by omega) (by omega)
      have hq : ((n % 34001 + k + 5) % 7 != ((n % 34001 + 5) % 7 + k) % 7) = false := by simp; omega
      go_wp2_with (first | (go_at_call 10; refine (head_true _ ht).mono ?_; rintro e w' ⟨rfl, rfl⟩) | (go_at_call 19; refine (on_any _ _ (by omega) (by omega)).mono ?_; rintro e w' ⟨rfl, rfl⟩) | (go_at_call 11; refine (date_any _ _ ht).mono ?_; rintro e w' ⟨rfl, rfl⟩) | (go_at_call 13; refine (day_any _ _ _ _ ht).mono ?_; rintro e w' ⟨rfl, rfl⟩) | (go_at_call 15; refine (weekdayOf_any _ _).mono ?_; rintro e w' ⟨rfl, rfl⟩) | (go_at_call 17; refine (nth_any _ _ _ _ _ ht).mono ?_; rintro e w' ⟨rfl, rfl⟩) | (go_at_call 20; refine (refLength_any _ _ _ (by omega)).mono ?_; rintro e w' ⟨rfl, rfl⟩))
      go_round
      case rel => exact ⟨k + 1, by omega, by omega, rfl⟩
      case measure => simp [intOf]; omega
    · by_cases hk3 : k ≤ 7
      all_goals
        go_wp2_with (first | (go_at_call 10; refine (head_true _ ht).mono ?_; rintro e w' ⟨rfl, rfl⟩) | (go_at_call 19; refine (on_any _ _ (by omega) (by omega)).mono ?_; rintro e w' ⟨rfl, rfl⟩) | (go_at_call 11; refine (date_any _ _ ht).mono ?_; rintro e w' ⟨rfl, rfl⟩) | (go_at_call 13; refine (day_any _ _ _ _ ht).mono ?_; rintro e w' ⟨rfl, rfl⟩) | (go_at_call 15; refine (weekdayOf_any _ _).mono ?_; rintro e w' ⟨rfl, rfl⟩) | (go_at_call 17; refine (nth_any _ _ _ _ _ ht).mono ?_; rintro e w' ⟨rfl, rfl⟩) | (go_at_call 20; refine (refLength_any _ _ _ (by omega)).mono ?_; rintro e w' ⟨rfl, rfl⟩))
        go_ret
        exact ⟨rfl, rfl⟩

/-- what Nth gives for arguments in their ranges, and what the law asks of it -/
theorem nth_ways {a b wd k : Int} (h1 : 2000 ≤ a) (h2 : a ≤ 2093) (h3 : 1 ≤ b) (h4 : b ≤ 12) (h5 : 0 ≤ wd) (h6 : wd ≤ 6) (h7 : k = -1 ∨ 1 ≤ k ∧ k ≤ 5) :
    (Cal.nthE a b wd k = 4 ∧ Hid (k = 5)) ∨ (Cal.nthE a b wd k = 3 ∧ Hid (a = 2093)) ∨
    (Cal.nthE a b wd k = 0 ∧ ∃ D : Int, Cal.nthV a b wd k = D ∧ 0 ≤ D ∧ D ≤ 34000 ∧ Cal.rY D = a ∧ Cal.rM D = b ∧ Cal.rE D = 0 ∧ Cal.wV D = wd ∧ Cal.rD D = D - Cal.fst a b + 1 ∧ Hid (D = Cal.nthD a b wd k) ∧ Hid (D < Cal.fst a b + Cal.len a b)) := by
  have hz := nth_yes (y := a) (m := b) (wd := wd) (n := k) ⟨h1, h2, h3, h4, h5, h6, h7⟩
  have hs := Cal.nthS_bd a b wd
  have hl := Cal.len_bd a b
  have hb := Cal.fst_bd a b h1 h2
  have hc := Cal.cum_bd a b
  have hw : (Cal.nthD a b wd k + 5) % 7 = wd := by
    unfold Cal.nthD Cal.nthS; split <;> omega
  have hlo : Cal.fst a b ≤ Cal.nthD a b wd k := by unfold Cal.nthD; split <;> omega
  rw [hz.1, hz.2]
  by_cases e : Cal.fst a b + Cal.len a b ≤ Cal.nthD a b wd k
  · left; rw [if_pos e]
    refine ⟨rfl, Lib.hid ?_⟩
    unfold Cal.nthD at e; split at e <;> omega
  · rw [if_neg e, if_neg e]
    by_cases f : 34000 < Cal.nthD a b wd k
    · right; left; rw [if_pos f]
      refine ⟨rfl, Lib.hid ?_⟩
      unfold Cal.fst at e; omega
    · right; right; rw [if_neg f, if_neg f]
      obtain ⟨z1, z2, z3, z4⟩ := dates_is (D := Cal.nthD a b wd k) (y := a) (m := b) (d := Cal.nthD a b wd k - Cal.fst a b + 1) (by omega) (by omega) ⟨h1, h3, h4, by omega, by omega⟩ (by omega)
      exact ⟨rfl, _, rfl, by omega, by omega, z1, z2, z4, by rw [(wV_yes (by omega) (by omega)).1, hw], z3, Lib.hid rfl, Lib.hid (by omega)⟩
theorem nthE_k {a b wd k : Int} (h : Cal.nthD a b wd k < Cal.fst a b + Cal.len a b) (hk : 1 ≤ k) : (Cal.nthD a b wd k - Cal.fst a b + 1 - 1) / 7 = k - 1 := by
  have hs := Cal.nthS_bd a b wd
  unfold Cal.nthD; rw [if_neg (by omega)]; omega
theorem nthE_last {a b wd : Int} : Cal.len a b < Cal.nthD a b wd (-1) - Cal.fst a b + 1 + 7 := by
  have hs := Cal.nthS_bd a b wd
  have hl := Cal.len_bd a b
  unfold Cal.nthD; rw [if_pos rfl]; omega
set_option maxHeartbeats 2000000 in
set_option maxRecDepth 100000 in
theorem nthLaw_true (yr mo wk nt : Int) (w : World) (ht : Tab w) (h1 : 0 ≤ yr) (h2 : yr ≤ 255) (h3 : 0 ≤ mo) (h4 : mo ≤ 255) (h5 : 0 ≤ wk) (h6 : wk ≤ 255) (h7 : 0 ≤ nt) (h8 : nt ≤ 255) :
    Calls Tryd.prog 8 #[.int .u8 yr, .int .u8 mo, .int .u8 wk, .int .u8 nt] w (Ret (.bool true) w) := by
  have hl := Cal.len_bd (2000 + yr % 94) (1 + mo % 12)
  have hb := Cal.fst_bd (2000 + yr % 94) (1 + mo % 12) (by omega) (by omega)
  by_cases hk : 1 + nt % 6 = 6
  · have hkb : (1 + nt % 6 == 6) = true := by simpa using hk
    clear hk
    rcases nth_ways (a := 2000 + yr % 94) (b := 1 + mo % 12) (wd := wk % 7) (k := -1) (by omega) (by omega) (by omega) (by omega) (by omega) (by omega) (by omega) with ⟨g, hh⟩ | ⟨g, hh⟩ | ⟨g, D, x0, x1, x2, x3, x4, x5, x6, x7, x8, x9⟩
    · exact absurd hh.out (by omega)
    · have hy : (2000 + yr % 94 == 2093) = true := by simpa using hh.out
      go_enter Tryd.func8, Tryd.ntmps8
      go_wp2_with (first | (go_at_call 10; refine (head_true _ ht).mono ?_; rintro e w' ⟨rfl, rfl⟩) | (go_at_call 19; refine (on_any _ _ (by omega) (by omega)).mono ?_; rintro e w' ⟨rfl, rfl⟩) | (go_at_call 11; refine (date_any _ _ ht).mono ?_; rintro e w' ⟨rfl, rfl⟩) | (go_at_call 13; refine (day_any _ _ _ _ ht).mono ?_; rintro e w' ⟨rfl, rfl⟩) | (go_at_call 15; refine (weekdayOf_any _ _).mono ?_; rintro e w' ⟨rfl, rfl⟩) | (go_at_call 17; refine (nth_any _ _ _ _ _ ht).mono ?_; rintro e w' ⟨rfl, rfl⟩) | (go_at_call 20; refine (refLength_any _ _ _ (by omega)).mono ?_; rintro e w' ⟨rfl, rfl⟩))
      go_ret
      exact ⟨rfl, rfl⟩
    · have hlast : Cal.len (2000 + yr % 94) (1 + mo % 12) < D - Cal.fst (2000 + yr % 94) (1 + mo % 12) + 1 + 7 := by rw [x8.out]; exact nthE_last
      go_enter Tryd.func8, Tryd.ntmps8
      go_wp2_with (first | (go_at_call 10; refine (head_true _ ht).mono ?_; rintro e w' ⟨rfl, rfl⟩) | (go_at_call 19; refine (on_any _ _ (by omega) (by omega)).mono ?_; rintro e w' ⟨rfl, rfl⟩) | (go_at_call 11; refine (date_any _ _ ht).mono ?_; rintro e w' ⟨rfl, rfl⟩) | (go_at_call 13; refine (day_any _ _ _ _ ht).mono ?_; rintro e w' ⟨rfl, rfl⟩) | (go_at_call 15; refine (weekdayOf_any _ _).mono ?_; rintro e w' ⟨rfl, rfl⟩) | (go_at_call 17; refine (nth_any _ _ _ _ _ ht).mono ?_; rintro e w' ⟨rfl, rfl⟩) | (go_at_call 20; refine (refLength_any _ _ _ (by omega)).mono ?_; rintro e w' ⟨rfl, rfl⟩))
      go_ret
      exact ⟨rfl, rfl⟩
  · have hkb : (1 + nt % 6 == 6) = false := by simpa using hk
    have hkc : (1 + nt % 6 == -1) = false := by simp; omega
    rcases nth_ways (a := 2000 + yr % 94) (b := 1 + mo % 12) (wd := wk % 7) (k := 1 + nt % 6) (by omega) (by omega) (by omega) (by omega) (by omega) (by omega) (by omega) with ⟨g, hh⟩ | ⟨g, hh⟩ | ⟨g, D, x0, x1, x2, x3, x4, x5, x6, x7, x8, x9⟩
    · have hy : (1 + nt % 6 == 5) = true := by simpa using hh.out
      go_enter Tryd.func8, Tryd.ntmps8
      go_wp2_with (first | (go_at_call 10; refine (head_true _ ht).mono ?_; rintro e w' ⟨rfl, rfl⟩) | (go_at_call 19; refine (on_any _ _ (by omega) (by omega)).mono ?_; rintro e w' ⟨rfl, rfl⟩) | (go_at_call 11; refine (date_any _ _ ht).mono ?_; rintro e w' ⟨rfl, rfl⟩) | (go_at_call 13; refine (day_any _ _ _ _ ht).mono ?_; rintro e w' ⟨rfl, rfl⟩) | (go_at_call 15; refine (weekdayOf_any _ _).mono ?_; rintro e w' ⟨rfl, rfl⟩) | (go_at_call 17; refine (nth_any _ _ _ _ _ ht).mono ?_; rintro e w' ⟨rfl, rfl⟩) | (go_at_call 20; refine (refLength_any _ _ _ (by omega)).mono ?_; rintro e w' ⟨rfl, rfl⟩))
      go_ret
      exact ⟨rfl, rfl⟩
    · have hy : (2000 + yr % 94 == 2093) = true := by simpa using hh.out
      go_enter Tryd.func8, Tryd.ntmps8
      go_wp2_with (first | (go_at_call 10; refine (head_true _ ht).mono ?_; rintro e w' ⟨rfl, rfl⟩) | (go_at_call 19; refine (on_any _ _ (by omega) (by omega)).mono ?_; rintro e w' ⟨rfl, rfl⟩) | (go_at_call 11; refine (date_any _ _ ht).mono ?_; rintro e w' ⟨rfl, rfl⟩) | (go_at_call 13; refine (day_any _ _ _ _ ht).mono ?_; rintro e w' ⟨rfl, rfl⟩) | (go_at_call 15; refine (weekdayOf_any _ _).mono ?_; rintro e w' ⟨rfl, rfl⟩) | (go_at_call 17; refine (nth_any _ _ _ _ _ ht).mono ?_; rintro e w' ⟨rfl, rfl⟩) | (go_at_call 20; refine (refLength_any _ _ _ (by omega)).mono ?_; rintro e w' ⟨rfl, rfl⟩))
      go_ret
      exact ⟨rfl, rfl⟩
    · have hlast := nthE_k (a := 2000 + yr % 94) (b := 1 + mo % 12) (wd := wk % 7) (k := 1 + nt % 6) (by rw [← x8.out]; exact x9.out) (by omega)
      rw [← x8.out] at hlast
      have hq : ((D - Cal.fst (2000 + yr % 94) (1 + mo % 12)) / 7 == 1 + nt % 6 - 1) = true := by rw [beq_iff_eq]; omega
      have hge : 0 ≤ D - Cal.fst (2000 + yr % 94) (1 + mo % 12) := by
        have h := x8.out; have := Cal.nthS_bd (2000 + yr % 94) (1 + mo % 12) (wk % 7); unfold Cal.nthD at h; rw [if_neg (by omega)] at h; omega
      have HH := Lib.hid hlast
      clear hlast
      go_enter Tryd.func8, Tryd.ntmps8
      go_wp2_with (first | (go_at_call 10; refine (head_true _ ht).mono ?_; rintro e w' ⟨rfl, rfl⟩) | (go_at_call 19; refine (on_any _ _ (by omega) (by omega)).mono ?_; rintro e w' ⟨rfl, rfl⟩) | (go_at_call 11; refine (date_any _ _ ht).mono ?_; rintro e w' ⟨rfl, rfl⟩) | (go_at_call 13; refine (day_any _ _ _ _ ht).mono ?_; rintro e w' ⟨rfl, rfl⟩) | (go_at_call 15; refine (weekdayOf_any _ _).mono ?_; rintro e w' ⟨rfl, rfl⟩) | (go_at_call 17; refine (nth_any _ _ _ _ _ ht).mono ?_; rintro e w' ⟨rfl, rfl⟩) | (go_at_call 20; refine (refLength_any _ _ _ (by omega)).mono ?_; rintro e w' ⟨rfl, rfl⟩))
      go_ret
      exact ⟨rfl, rfl⟩

/-- the fifth one and the last one -/
theorem fifth_ways {a b wd : Int} (h1 : 2000 ≤ a) (h2 : a ≤ 2093) (h3 : 1 ≤ b) (h4 : b ≤ 12) (h5 : 0 ≤ wd) (h6 : wd ≤ 6) :
    (Cal.nthE a b wd (-1) = 3 ∧ Hid (a = 2093)) ∨ (Cal.nthE a b wd (-1) = 0 ∧ Cal.nthE a b wd 5 = 0 ∧ Hid (Cal.nthV a b wd (-1) = Cal.nthV a b wd 5)) ∨
    (Cal.nthE a b wd (-1) = 0 ∧ Cal.nthE a b wd 5 = 4 ∧ Cal.nthE a b wd 4 = 0 ∧ Hid (Cal.nthV a b wd (-1) = Cal.nthV a b wd 4)) := by
  have z1 := nth_yes (y := a) (m := b) (wd := wd) (n := -1) ⟨h1, h2, h3, h4, h5, h6, by omega⟩
  have z5 := nth_yes (y := a) (m := b) (wd := wd) (n := 5) ⟨h1, h2, h3, h4, h5, h6, by omega⟩
  have z4 := nth_yes (y := a) (m := b) (wd := wd) (n := 4) ⟨h1, h2, h3, h4, h5, h6, by omega⟩
  have hs := Cal.nthS_bd a b wd
  have hl := Cal.len_bd a b
  rcases nth_ways (k := -1) h1 h2 h3 h4 h5 h6 (by omega) with ⟨g, hh⟩ | ⟨g, hh⟩ | ⟨g, D, x0, x1, x2, x3, x4, x5, x6, x7, x8, x9⟩
  · exact absurd hh.out (by omega)
  · exact .inl ⟨g, hh⟩
  · right
    have d1 : Cal.nthD a b wd (-1) = Cal.fst a b + Cal.nthS a b wd + (Cal.len a b - 1 - Cal.nthS a b wd) / 7 * 7 := by unfold Cal.nthD; rw [if_pos rfl]
    have d5 : Cal.nthD a b wd 5 = Cal.fst a b + Cal.nthS a b wd + 28 := by unfold Cal.nthD; rw [if_neg (by omega)]; omega
    have d4 : Cal.nthD a b wd 4 = Cal.fst a b + Cal.nthS a b wd + 21 := by unfold Cal.nthD; rw [if_neg (by omega)]; omega
    by_cases e : Cal.nthS a b wd + 28 < Cal.len a b
    · left
      have e5 : Cal.nthD a b wd 5 = Cal.nthD a b wd (-1) := by omega
      rw [z5.1, z5.2, e5, ← z1.1, ← z1.2]
      exact ⟨g, g, Lib.hid rfl⟩
    · right
      have e4 : Cal.nthD a b wd 4 = Cal.nthD a b wd (-1) := by omega
      rw [z4.1, z4.2, e4, ← z1.1, ← z1.2]
      refine ⟨g, ?_, g, Lib.hid rfl⟩
      rw [z5.2, if_pos (by omega)]
set_option maxHeartbeats 2000000 in
set_option maxRecDepth 100000 in
theorem fifth_true (yr mo wk : Int) (w : World) (ht : Tab w) (h1 : 0 ≤ yr) (h2 : yr ≤ 255) (h3 : 0 ≤ mo) (h4 : mo ≤ 255) (h5 : 0 ≤ wk) (h6 : wk ≤ 255) :
    Calls Tryd.prog 9 #[.int .u8 yr, .int .u8 mo, .int .u8 wk] w (Ret (.bool true) w) := by
  rcases fifth_ways (a := 2000 + yr % 94) (b := 1 + mo % 12) (wd := wk % 7) (by omega) (by omega) (by omega) (by omega) (by omega) (by omega) with ⟨g, hh⟩ | ⟨g, g5, hh⟩ | ⟨g, g5, g4, hh⟩
  · have hy : (2000 + yr % 94 == 2093) = true := by simpa using hh.out
    go_enter Tryd.func9, Tryd.ntmps9
    go_wp2_with (first | (go_at_call 10; refine (head_true _ ht).mono ?_; rintro e w' ⟨rfl, rfl⟩) | (go_at_call 19; refine (on_any _ _ (by omega) (by omega)).mono ?_; rintro e w' ⟨rfl, rfl⟩) | (go_at_call 11; refine (date_any _ _ ht).mono ?_; rintro e w' ⟨rfl, rfl⟩) | (go_at_call 13; refine (day_any _ _ _ _ ht).mono ?_; rintro e w' ⟨rfl, rfl⟩) | (go_at_call 15; refine (weekdayOf_any _ _).mono ?_; rintro e w' ⟨rfl, rfl⟩) | (go_at_call 17; refine (nth_any _ _ _ _ _ ht).mono ?_; rintro e w' ⟨rfl, rfl⟩) | (go_at_call 20; refine (refLength_any _ _ _ (by omega)).mono ?_; rintro e w' ⟨rfl, rfl⟩))
    go_ret
    exact ⟨rfl, rfl⟩
  · have hy : (Cal.nthV (2000 + yr % 94) (1 + mo % 12) (wk % 7) (-1) == Cal.nthV (2000 + yr % 94) (1 + mo % 12) (wk % 7) 5) = true := by simpa using hh.out
    go_enter Tryd.func9, Tryd.ntmps9
    go_wp2_with (first | (go_at_call 10; refine (head_true _ ht).mono ?_; rintro e w' ⟨rfl, rfl⟩) | (go_at_call 19; refine (on_any _ _ (by omega) (by omega)).mono ?_; rintro e w' ⟨rfl, rfl⟩) | (go_at_call 11; refine (date_any _ _ ht).mono ?_; rintro e w' ⟨rfl, rfl⟩) | (go_at_call 13; refine (day_any _ _ _ _ ht).mono ?_; rintro e w' ⟨rfl, rfl⟩) | (go_at_call 15; refine (weekdayOf_any _ _).mono ?_; rintro e w' ⟨rfl, rfl⟩) | (go_at_call 17; refine (nth_any _ _ _ _ _ ht).mono ?_; rintro e w' ⟨rfl, rfl⟩) | (go_at_call 20; refine (refLength_any _ _ _ (by omega)).mono ?_; rintro e w' ⟨rfl, rfl⟩))
    go_ret
    exact ⟨rfl, rfl⟩
  · have hy : (Cal.nthV (2000 + yr % 94) (1 + mo % 12) (wk % 7) (-1) == Cal.nthV (2000 + yr % 94) (1 + mo % 12) (wk % 7) 4) = true := by simpa using hh.out
    go_enter Tryd.func9, Tryd.ntmps9
    go_wp2_with (first | (go_at_call 10; refine (head_true _ ht).mono ?_; rintro e w' ⟨rfl, rfl⟩) | (go_at_call 19; refine (on_any _ _ (by omega) (by omega)).mono ?_; rintro e w' ⟨rfl, rfl⟩) | (go_at_call 11; refine (date_any _ _ ht).mono ?_; rintro e w' ⟨rfl, rfl⟩) | (go_at_call 13; refine (day_any _ _ _ _ ht).mono ?_; rintro e w' ⟨rfl, rfl⟩) | (go_at_call 15; refine (weekdayOf_any _ _).mono ?_; rintro e w' ⟨rfl, rfl⟩) | (go_at_call 17; refine (nth_any _ _ _ _ _ ht).mono ?_; rintro e w' ⟨rfl, rfl⟩) | (go_at_call 20; refine (refLength_any _ _ _ (by omega)).mono ?_; rintro e w' ⟨rfl, rfl⟩))
    go_ret
    exact ⟨rfl, rfl⟩

/-! as the statements take them -/
open Go.ChangeShapes Go.WideShapes Go.ChangeAt
theorem roundTrip_law (n yr mo da : Int) (w : World) (h0 : (Lit.int .u32 n).wf = true) (h1 : (Lit.int .u8 yr).wf = true) (h2 : (Lit.int .u8 mo).wf = true) (h3 : (Lit.int .u8 da).wf = true) (ht : Tab w) :
    Calls Tryd.prog 4 #[.int .u32 n, .int .u8 yr, .int .u8 mo, .int .u8 da] w (LawPost w) :=
  (roundTrip_true n yr mo da w ht (bounds_u32 h0).1 (bounds_u32 h0).2 (bounds_u8 h1).1 (bounds_u8 h1).2 (bounds_u8 h2).1 (bounds_u8 h2).2 (bounds_u8 h3).1 (bounds_u8 h3).2).mono fun _ _ h => h.law
theorem succession_law (n : Int) (w : World) (h0 : (Lit.int .u32 n).wf = true) (ht : Tab w) :
    Calls Tryd.prog 5 #[.int .u32 n] w (LawPost w) := (succession_true n w ht (bounds_u32 h0).1 (bounds_u32 h0).2).mono fun _ _ h => h.law
theorem years_law (n : Int) (w : World) (h0 : (Lit.int .u32 n).wf = true) (ht : Tab w) :
    Calls Tryd.prog 6 #[.int .u32 n] w (LawPost w) := (years_true n w ht (bounds_u32 h0).1 (bounds_u32 h0).2).mono fun _ _ h => h.law
theorem weeks_law (n : Int) (w : World) (h0 : (Lit.int .u32 n).wf = true) (ht : Tab w) :
    Calls Tryd.prog 7 #[.int .u32 n] w (LawPost w) := (weeks_true n w ht (bounds_u32 h0).1 (bounds_u32 h0).2).mono fun _ _ h => h.law
theorem nthLaw_law (yr mo wk nt : Int) (w : World) (h0 : (Lit.int .u8 yr).wf = true) (h1 : (Lit.int .u8 mo).wf = true) (h2 : (Lit.int .u8 wk).wf = true) (h3 : (Lit.int .u8 nt).wf = true) (ht : Tab w) :
    Calls Tryd.prog 8 #[.int .u8 yr, .int .u8 mo, .int .u8 wk, .int .u8 nt] w (LawPost w) :=
  (nthLaw_true yr mo wk nt w ht (bounds_u8 h0).1 (bounds_u8 h0).2 (bounds_u8 h1).1 (bounds_u8 h1).2 (bounds_u8 h2).1 (bounds_u8 h2).2 (bounds_u8 h3).1 (bounds_u8 h3).2).mono fun _ _ h => h.law
theorem fifth_law (yr mo wk : Int) (w : World) (h0 : (Lit.int .u8 yr).wf = true) (h1 : (Lit.int .u8 mo).wf = true) (h2 : (Lit.int .u8 wk).wf = true) (ht : Tab w) :
    Calls Tryd.prog 9 #[.int .u8 yr, .int .u8 mo, .int .u8 wk] w (LawPost w) :=
  (fifth_true yr mo wk w ht (bounds_u8 h0).1 (bounds_u8 h0).2 (bounds_u8 h1).1 (bounds_u8 h1).2 (bounds_u8 h2).1 (bounds_u8 h2).2).mono fun _ _ h => h.law
end Go.Proofs.YtponbbgfaanedaaDoor
