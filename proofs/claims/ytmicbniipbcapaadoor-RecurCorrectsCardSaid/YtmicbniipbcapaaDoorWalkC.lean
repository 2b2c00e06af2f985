/- The contracts of the reference's sums of days and of both functions Nth: for all integers they return the plain functions of their arguments, and the world stays as it was. -/
import Derived.Test.YtmicbniipbcapaaDoorWalkB
set_option linter.unusedVariables false
namespace Go.Proofs.YtmicbniipbcapaaDoor
open Go.RowKit

set_option maxHeartbeats 1000000 in
theorem before_any (y m : Int) (w : World) (hy : 2000 ≤ y) (hy2 : y ≤ 2093) (h1 : 1 ≤ m) (h2 : m ≤ 12) :
    Calls Tryd.prog 78 #[.int .i64 y, .int .i64 m] w (Ret (.int .i64 (Cal.fst y m)) w) := by
  go_enter Tryd.func78, Tryd.ntmps78
  go_wp2
  go_loop [5, 6, 7] (fun n i _ => ∃ k : Int, 2000 ≤ k ∧ k ≤ y + 1 ∧ i = .int .i64 k ∧ n = .int .i64 (Cal.bef y m k)) (fun _ i _ => (y + 1 - intOf i).toNat)
  case atStart => exact ⟨2000, by omega, by omega, rfl, by unfold Cal.bef; rw [if_pos hy, Cal.fst_2000]⟩
  case round =>
    obtain ⟨k, hk1, hk2, rfl, rfl⟩ := hrel
    by_cases hlt : k < y
    · have HB := Lib.hid (show Cal.bef y m k = Cal.fst k 1 by unfold Cal.bef; rw [if_pos (by omega)])
      have HE := Lib.hid (show Cal.bef y m (k + 1) = Cal.fst k 13 by unfold Cal.bef; rw [if_pos (by omega), Cal.fst_13])
      go_wp2
      go_loop [5, 7] (fun n i => ∃ j : Int, 1 ≤ j ∧ j ≤ 13 ∧ i = .int .i64 j ∧ n = .int .i64 (Cal.fst k j)) (fun _ i => (13 - intOf i).toNat)
      case atStart => exact ⟨1, by omega, by omega, rfl, by rw [HB.out]⟩
      case round =>
        obtain ⟨j, hj1, hj2, rfl, rfl⟩ := hrel
        have hb := Cal.fst_bd k j (by omega) (by omega)
        have hl := Cal.len_bd k j
        by_cases hj : j ≤ 12
        · have HS : Hid (Cal.fst k (j + 1) = Cal.fst k j + Cal.len k j) := Lib.hid (by have := Cal.cum_succ k j hj1 hj; unfold Cal.fst; omega)
          go_wp2_with (go_at_call 76; refine (refLength_any _ _ _ (by omega)).mono ?_; rintro e w' ⟨rfl, rfl⟩)
          go_round
          case rel => exact ⟨j + 1, by omega, by omega, rfl, by rw [HS.out]⟩
          case measure => simp [intOf]; omega
        · obtain rfl : j = 13 := by omega
          go_wp2
          go_round
          case rel => exact ⟨k + 1, by omega, by omega, rfl, by rw [HE.out]⟩
          case measure => simp [intOf]; omega
    · by_cases hle : k ≤ y
      · obtain rfl : k = y := by omega
        have HB := Lib.hid (show Cal.bef k m k = Cal.befM k m 1 by unfold Cal.bef Cal.befM; rw [if_pos (by omega), if_pos (by omega)])
        have HE := Lib.hid (show Cal.bef k m (k + 1) = Cal.befM k m 13 by unfold Cal.bef Cal.befM; rw [if_neg (by omega), if_neg (by omega)])
        go_wp2
        go_loop [5, 7] (fun n i => ∃ j : Int, 1 ≤ j ∧ j ≤ 13 ∧ i = .int .i64 j ∧ n = .int .i64 (Cal.befM k m j)) (fun _ i => (13 - intOf i).toNat)
        case atStart => exact ⟨1, by omega, by omega, rfl, by rw [HB.out]⟩
        case round =>
          obtain ⟨j, hj1, hj2, rfl, rfl⟩ := hrel
          have hb : 0 ≤ Cal.befM k m j ∧ Cal.befM k m j ≤ 34400 := by
            have := Cal.fst_bd k j (by omega) (by omega); have := Cal.fst_bd k m (by omega) (by omega); unfold Cal.befM; split <;> assumption
          have hl := Cal.len_bd k j
          by_cases hj : j ≤ 12
          · by_cases hjm : j < m
            · have HS := Lib.hid (Cal.befM_lt (y := k) hjm hj1 h2)
              go_wp2_with (go_at_call 76; refine (refLength_any _ _ _ (by omega)).mono ?_; rintro e w' ⟨rfl, rfl⟩)
              go_round
              case rel => exact ⟨j + 1, by omega, by omega, rfl, by rw [HS.out]⟩
              case measure => simp [intOf]; omega
            · have HS := Lib.hid (Cal.befM_ge (y := k) (m := m) (j := j) (by omega))
              go_wp2_with (go_at_call 76; refine (refLength_any _ _ _ (by omega)).mono ?_; rintro e w' ⟨rfl, rfl⟩)
              go_round
              case rel => exact ⟨j + 1, by omega, by omega, rfl, by rw [HS.out]⟩
              case measure => simp [intOf]; omega
          · obtain rfl : j = 13 := by omega
            go_wp2
            go_round
            case rel => exact ⟨k + 1, by omega, by omega, rfl, by rw [HE.out]⟩
            case measure => simp [intOf]; omega
      · obtain rfl : k = y + 1 := by omega
        have HE := Lib.hid (show Cal.bef y m (y + 1) = Cal.fst y m by unfold Cal.bef; rw [if_neg (by omega)])
        go_wp2
        go_ret
        exact ⟨ret_int HE.out, rfl⟩


theorem nth_no {y m wd n : Int} (h : ¬ (2000 ≤ y ∧ y ≤ 2093 ∧ 1 ≤ m ∧ m ≤ 12 ∧ 0 ≤ wd ∧ wd ≤ 6 ∧ (n = -1 ∨ 1 ≤ n ∧ n ≤ 5))) : Cal.nthV y m wd n = 0 ∧ Cal.nthE y m wd n = 1 := by
  have : Cal.nthB y m wd n = false := by unfold Cal.nthB; exact decide_eq_false h
  simp [Cal.nthV, Cal.nthE, this]
theorem nth_yes {y m wd n : Int} (h : 2000 ≤ y ∧ y ≤ 2093 ∧ 1 ≤ m ∧ m ≤ 12 ∧ 0 ≤ wd ∧ wd ≤ 6 ∧ (n = -1 ∨ 1 ≤ n ∧ n ≤ 5)) :
    Cal.nthV y m wd n = (if Cal.fst y m + Cal.len y m ≤ Cal.nthD y m wd n then 0 else if 34000 < Cal.nthD y m wd n then 0 else Cal.nthD y m wd n) ∧ Cal.nthE y m wd n = (if Cal.fst y m + Cal.len y m ≤ Cal.nthD y m wd n then 4 else if 34000 < Cal.nthD y m wd n then 3 else 0) := by
  have : Cal.nthB y m wd n = true := by unfold Cal.nthB; exact decide_eq_true h
  simp [Cal.nthV, Cal.nthE, this]
/-- the five ways in which the arguments of Nth are wrong -/
theorem nth_wrong {y m wd n : Int} (h : ¬ (2000 ≤ y ∧ y ≤ 2093 ∧ 1 ≤ m ∧ m ≤ 12 ∧ 0 ≤ wd ∧ wd ≤ 6 ∧ (n = -1 ∨ 1 ≤ n ∧ n ≤ 5))) :
    Cal.monB y m = false ∨ Cal.monB y m = true ∧ (wd < 0 ∨ 6 < wd ∨ (0 ≤ wd ∧ wd ≤ 6 ∧ ((n < 1 ∧ (n != -1) = true) ∨ (5 < n ∧ (n != -1) = true)))) := by
  by_cases hm : 2000 ≤ y ∧ y ≤ 2093 ∧ 1 ≤ m ∧ m ≤ 12
  · right; refine ⟨monB_yes hm, ?_⟩; simp; omega
  · left; exact monB_no hm
set_option maxHeartbeats 2000000 in
theorem nth_any (y m wd n : Int) (w : World) (ht : Tab w) :
    Calls Tryd.prog 43 #[.int .i64 y, .int .i64 m, .int .i64 wd, .int .i64 n] w (Ret (.tuple #[.int .i64 (Cal.nthV y m wd n), .int .i64 (Cal.nthE y m wd n)]) w) := by
  by_cases hok : 2000 ≤ y ∧ y ≤ 2093 ∧ 1 ≤ m ∧ m ≤ 12 ∧ 0 ≤ wd ∧ wd ≤ 6 ∧ (n = -1 ∨ 1 ≤ n ∧ n ≤ 5)
  · have hz := Lib.hid (nth_yes hok)
    obtain ⟨h1, h2, h3, h4, h5, h6, h7⟩ := hok
    have hmB := monB_yes ⟨h1, h2, h3, h4⟩
    have hb := Cal.fst_bd y m h1 h2
    have hl := Cal.len_bd y m
    rcases h7 with rfl | ⟨h7, h8⟩
    · have hD : Hid (Cal.nthD y m wd (-1) = Cal.fst y m + (wd - (Cal.fst y m + 5) % 7 + 7) % 7 + (Cal.fst y m + Cal.len y m - 1 - (Cal.fst y m + (wd - (Cal.fst y m + 5) % 7 + 7) % 7)) / 7 * 7) := Lib.hid (by unfold Cal.nthD Cal.nthS; rw [if_pos rfl]; congr 3; omega)
      go_enter Tryd.func43, Tryd.ntmps43
      go_wp2_with (first | (go_at_call 70; refine (isMonth_any _ _ _).mono ?_; rintro e w' ⟨rfl, rfl⟩) | (go_at_call 68; refine (length_any _ _ _ ht (by omega) (by omega) (by omega)).mono ?_; rintro e w' ⟨rfl, rfl⟩) | (go_at_call 71; refine (first_any _ _ _ ht (by omega) (by omega) (by omega) (by omega)).mono ?_; rintro e w' ⟨rfl, rfl⟩) | (go_at_call 69; refine (weekday_any _ _ (by omega) (by omega)).mono ?_; rintro e w' ⟨rfl, rfl⟩))
      all_goals go_ret2
      all_goals exact ⟨two_eq (by rw [hz.out.1, hD.out]; repeat' split
                                  all_goals omega) (by rw [hz.out.2, hD.out]; repeat' split
                                                       all_goals omega), rfl⟩
    · have hn : (n == -1) = false := by simp; omega
      have hn' : (n != -1) = true := by simp; omega
      have hD : Hid (Cal.nthD y m wd n = Cal.fst y m + (wd - (Cal.fst y m + 5) % 7 + 7) % 7 + 7 * (n - 1)) := Lib.hid (by unfold Cal.nthD Cal.nthS; rw [if_neg (by omega)])
      go_enter Tryd.func43, Tryd.ntmps43
      go_wp2_with (first | (go_at_call 70; refine (isMonth_any _ _ _).mono ?_; rintro e w' ⟨rfl, rfl⟩) | (go_at_call 68; refine (length_any _ _ _ ht (by omega) (by omega) (by omega)).mono ?_; rintro e w' ⟨rfl, rfl⟩) | (go_at_call 71; refine (first_any _ _ _ ht (by omega) (by omega) (by omega) (by omega)).mono ?_; rintro e w' ⟨rfl, rfl⟩) | (go_at_call 69; refine (weekday_any _ _ (by omega) (by omega)).mono ?_; rintro e w' ⟨rfl, rfl⟩))
      all_goals go_ret2
      all_goals exact ⟨two_eq (by rw [hz.out.1, hD.out]; repeat' split
                                  all_goals omega) (by rw [hz.out.2, hD.out]; repeat' split
                                                       all_goals omega), rfl⟩
  · have hz := Lib.hid (nth_no hok)
    rcases nth_wrong hok with hmB | ⟨hmB, h | h | ⟨h5, h6, ⟨h7, h8⟩ | h⟩⟩
    all_goals
      go_enter Tryd.func43, Tryd.ntmps43
      go_wp2_with (go_at_call 70; refine (isMonth_any _ _ _).mono ?_; rintro e w' ⟨rfl, rfl⟩)
      all_goals go_ret2
      all_goals exact ⟨two_eq hz.out.1.symm hz.out.2.symm, rfl⟩

theorem nth_close {y m wd n : Int} (h : 2000 ≤ y ∧ y ≤ 2093 ∧ 1 ≤ m ∧ m ≤ 12 ∧ 0 ≤ wd ∧ wd ≤ 6 ∧ (n = -1 ∨ 1 ≤ n ∧ n ≤ 5)) :
    (Cal.fnd n (Cal.fst y m) (Cal.nthS y m wd) (Cal.len y m) < 0 → Cal.nthV y m wd n = 0 ∧ Cal.nthE y m wd n = 4) ∧
    (0 ≤ Cal.fnd n (Cal.fst y m) (Cal.nthS y m wd) (Cal.len y m) → 34000 < Cal.fnd n (Cal.fst y m) (Cal.nthS y m wd) (Cal.len y m) → Cal.nthV y m wd n = 0 ∧ Cal.nthE y m wd n = 3) ∧
    (0 ≤ Cal.fnd n (Cal.fst y m) (Cal.nthS y m wd) (Cal.len y m) → Cal.fnd n (Cal.fst y m) (Cal.nthS y m wd) (Cal.len y m) ≤ 34000 → Cal.nthV y m wd n = Cal.fnd n (Cal.fst y m) (Cal.nthS y m wd) (Cal.len y m) ∧ Cal.nthE y m wd n = 0) := by
  have hz := nth_yes h
  obtain ⟨h1, h2, h3, h4, h5, h6, h7⟩ := h
  have hb := Cal.fst_bd y m h1 h2
  have hD : Cal.fst y m ≤ Cal.nthD y m wd n := by
    have := Cal.nthS_bd y m wd; have := Cal.len_bd y m; unfold Cal.nthD; split <;> omega
  rcases Cal.fnd_end (y := y) (m := m) (w := wd) h7 hb.1 with ⟨a, b⟩ | ⟨a, b⟩
  · rw [b, hz.1, hz.2, if_pos a, if_pos a]; exact ⟨fun _ => ⟨rfl, rfl⟩, fun h => by omega, fun h => by omega⟩
  · have na : ¬ (Cal.fst y m + Cal.len y m ≤ Cal.nthD y m wd n) := by omega
    rw [b, hz.1, hz.2]; simp only [if_neg na]
    refine ⟨fun h => by omega, fun _ h => by simp [h], fun _ h => ?_⟩
    have nb : ¬ 34000 < Cal.nthD y m wd n := by omega
    simp [nb]

set_option maxHeartbeats 2000000 in
theorem refNth_any (y m wd n : Int) (w : World) :
    Calls Tryd.prog 61 #[.int .i64 y, .int .i64 m, .int .i64 wd, .int .i64 n] w (Ret (.tuple #[.int .i64 (Cal.nthV y m wd n), .int .i64 (Cal.nthE y m wd n)]) w) := by
  by_cases hok : 2000 ≤ y ∧ y ≤ 2093 ∧ 1 ≤ m ∧ m ≤ 12 ∧ 0 ≤ wd ∧ wd ≤ 6 ∧ (n = -1 ∨ 1 ≤ n ∧ n ≤ 5)
  · have hz := Lib.hid (nth_close hok)
    obtain ⟨h1, h2, h3, h4, h5, h6, h7⟩ := hok
    have hmB := monB_yes ⟨h1, h2, h3, h4⟩
    have hb := Cal.fst_bd y m h1 h2
    have hl := Cal.len_bd y m
    have hs := Cal.nthS_bd y m wd
    have h7' : (n != -1) = false ∨ (n != -1) = true ∧ 1 ≤ n ∧ n ≤ 5 := by simp; omega
    have HN := Lib.hid h7
    have HF := Lib.hid (Cal.fnd_start (n := n) (F := Cal.fst y m) hs.1 hs.2 (by omega))
    have HC := Lib.hid (Cal.cnt_start hs.1 hs.2)
    clear h7
    rcases h7' with h7 | ⟨h7, h8, h9⟩
    all_goals
      go_enter Tryd.func61, Tryd.ntmps61
      go_wp2_with (first | (go_at_call 77; refine (refMonth_any _ _ _).mono ?_; rintro e w' ⟨rfl, rfl⟩) | (go_at_call 78; refine (before_any _ _ _ (by omega) (by omega) (by omega) (by omega)).mono ?_; rintro e w' ⟨rfl, rfl⟩))
      go_loop [12, 13, 14] (fun t c i => ∃ k : Int, 0 ≤ k ∧ k ≤ Cal.len y m ∧ i = .int .i64 k ∧ c = .int .i64 (Cal.cnt (Cal.nthS y m wd) k) ∧ t = .int .i64 (Cal.fnd n (Cal.fst y m) (Cal.nthS y m wd) k)) (fun _ _ i => (31 - intOf i).toNat)
      case atStart => exact ⟨0, by omega, by omega, rfl, by rw [HC.out], by rw [HF.out]⟩
      case round =>
        obtain ⟨k, hk1, hk2, rfl, rfl, rfl⟩ := hrel
        have hcb := Cal.cnt_bd hs.1 hs.2 hk1 (show k ≤ 31 by omega)
        have hfb := Cal.fnd_bd (n := n) hs.1 hs.2 hk1 (show k ≤ 31 by omega) hb.1 hb.2 HN.out
        by_cases hlt : k < Cal.len y m
        · by_cases hm : (Cal.fst y m + k + 5) % 7 = wd
          · have hmb : ((Cal.fst y m + k + 5) % 7 != wd) = false := by simpa using hm
            have HC1 : Hid (Cal.cnt (Cal.nthS y m wd) (k + 1) = Cal.cnt (Cal.nthS y m wd) k + 1) := Lib.hid (Cal.cnt_hit h5 h6 hk1 hm)
            have HH : Hid ((Cal.cnt (Cal.nthS y m wd) k + 1 = n ∨ n = -1) → Cal.fnd n (Cal.fst y m) (Cal.nthS y m wd) (k + 1) = Cal.fst y m + k) := Lib.hid (Cal.fnd_hit h5 h6 hk1 hm (by have := HN.out; omega))
            have HM : Hid (Cal.cnt (Cal.nthS y m wd) k + 1 ≠ n → n ≠ -1 → Cal.fnd n (Cal.fst y m) (Cal.nthS y m wd) (k + 1) = Cal.fnd n (Cal.fst y m) (Cal.nthS y m wd) k) := Lib.hid (fun a b => Cal.fnd_miss h5 h6 hk1 hm a b)
            clear hm
            by_cases hh : Cal.cnt (Cal.nthS y m wd) k + 1 = n
            · have hhb : (Cal.cnt (Cal.nthS y m wd) k + 1 == n) = true := by simpa using hh
              have HX := Lib.hid (HH.out (.inl hh))
              clear hh
              go_wp2_with (go_at_call 76; refine (refLength_any _ _ _ (by omega)).mono ?_; rintro e w' ⟨rfl, rfl⟩)
              go_round
              case rel => exact ⟨k + 1, by omega, by omega, rfl, by rw [HC1.out], by rw [HX.out]⟩
              case measure => simp [intOf]; omega
            · have hhb : (Cal.cnt (Cal.nthS y m wd) k + 1 == n) = false := by simpa using hh
              by_cases hn : n = -1
              · have HX := Lib.hid (HH.out (.inr hn))
                have hnb : (n == -1) = true := by simpa using hn
                clear hh hn
                go_wp2_with (go_at_call 76; refine (refLength_any _ _ _ (by omega)).mono ?_; rintro e w' ⟨rfl, rfl⟩)
                go_round
                case rel => exact ⟨k + 1, by omega, by omega, rfl, by rw [HC1.out], by rw [HX.out]⟩
                case measure => simp [intOf]; omega
              · have HX := Lib.hid (HM.out hh hn)
                have hnb : (n == -1) = false := by simpa using hn
                clear hh hn
                go_wp2_with (go_at_call 76; refine (refLength_any _ _ _ (by omega)).mono ?_; rintro e w' ⟨rfl, rfl⟩)
                go_round
                case rel => exact ⟨k + 1, by omega, by omega, rfl, by rw [HC1.out], by rw [HX.out]⟩
                case measure => simp [intOf]; omega
          · have hmb : ((Cal.fst y m + k + 5) % 7 != wd) = true := by simpa using hm
            have HC1 : Hid (Cal.cnt (Cal.nthS y m wd) (k + 1) = Cal.cnt (Cal.nthS y m wd) k) := Lib.hid (Cal.cnt_no h5 h6 hk1 hm)
            have HX : Hid (Cal.fnd n (Cal.fst y m) (Cal.nthS y m wd) (k + 1) = Cal.fnd n (Cal.fst y m) (Cal.nthS y m wd) k) := Lib.hid (Cal.fnd_no h5 h6 hk1 hm)
            clear hm
            go_wp2_with (go_at_call 76; refine (refLength_any _ _ _ (by omega)).mono ?_; rintro e w' ⟨rfl, rfl⟩)
            go_round
            case rel => exact ⟨k + 1, by omega, by omega, rfl, by rw [HC1.out], by rw [HX.out]⟩
            case measure => simp [intOf]; omega
        · obtain rfl : k = Cal.len y m := by omega
          by_cases ha : Cal.fnd n (Cal.fst y m) (Cal.nthS y m wd) (Cal.len y m) < 0
          · have HX := Lib.hid (hz.out.1 ha)
            go_wp2_with (go_at_call 76; refine (refLength_any _ _ _ (by omega)).mono ?_; rintro e w' ⟨rfl, rfl⟩)
            go_ret2
            exact ⟨two_eq HX.out.1.symm HX.out.2.symm, rfl⟩
          · by_cases hb : 34000 < Cal.fnd n (Cal.fst y m) (Cal.nthS y m wd) (Cal.len y m)
            · have HX := Lib.hid (hz.out.2.1 (by omega) hb)
              go_wp2_with (go_at_call 76; refine (refLength_any _ _ _ (by omega)).mono ?_; rintro e w' ⟨rfl, rfl⟩)
              go_ret2
              exact ⟨two_eq HX.out.1.symm HX.out.2.symm, rfl⟩
            · have HX := Lib.hid (hz.out.2.2 (by omega) (by omega))
              go_wp2_with (go_at_call 76; refine (refLength_any _ _ _ (by omega)).mono ?_; rintro e w' ⟨rfl, rfl⟩)
              go_ret2
              exact ⟨two_eq HX.out.1.symm HX.out.2.symm, rfl⟩
  · have hz := Lib.hid (nth_no hok)
    rcases nth_wrong hok with hmB | ⟨hmB, h | h | ⟨h5, h6, ⟨h7, h8⟩ | ⟨h7, h8⟩⟩⟩
    all_goals
      go_enter Tryd.func61, Tryd.ntmps61
      go_wp2_with (go_at_call 77; refine (refMonth_any _ _ _).mono ?_; rintro e w' ⟨rfl, rfl⟩)
      all_goals go_ret2
      all_goals exact ⟨two_eq hz.out.1.symm hz.out.2.symm, rfl⟩
end Go.Proofs.YtmicbniipbcapaaDoor
