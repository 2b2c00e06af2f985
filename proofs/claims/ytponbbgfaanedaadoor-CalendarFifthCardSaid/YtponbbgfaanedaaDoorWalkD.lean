/- The law's own check of the chapter's examples returns true, and the world stays as it was. Condition: the table of lengths. -/
import Derived.Test.YtponbbgfaanedaaDoorWalkC
import Derived.Test.YtponbbgfaanedaaDoorLaid
set_option linter.unusedVariables false
namespace Go.Proofs.YtponbbgfaanedaaDoor
open Go.RowKit

theorem head_facts : Cal.rY 59 = 2000 ∧ Cal.rM 59 = 2 ∧ Cal.rD 59 = 29 ∧ Cal.rE 59 = 0 ∧ Cal.wV 59 = 1 := by
  obtain ⟨a, b, c⟩ := Cal.date_is (n := 59) (y := 2000) (m := 2) (d := 29) (by unfold Cal.V; decide) (by decide)
  obtain ⟨x, y, z, u, v⟩ := rYes (n := 59) (by omega) (by omega)
  exact ⟨x.trans a, y.trans b, z.trans c, u, v⟩
set_option maxHeartbeats 1000000 in
set_option maxRecDepth 100000 in
theorem head_true (w : World) (ht : Tab w) : Calls Tryd.prog 10 #[] w (Ret (.bool true) w) := by
  obtain ⟨a1, a2, a3, a4, a5⟩ := head_facts
  have b1 : Cal.nV 2001 1 1 = 366 := by decide
  have b2 : Cal.nE 2001 1 1 = 0 := by decide
  have c1 : Cal.nV 2093 2 1 = 34000 := by decide
  have c2 : Cal.nE 2093 2 1 = 0 := by decide
  have d1 : Cal.nthV 2000 3 6 1 = 64 := by decide
  have d2 : Cal.nthE 2000 3 6 1 = 0 := by decide
  have e1 : Cal.nthV 2000 3 6 (-1) = 85 := by decide
  have e2 : Cal.nthE 2000 3 6 (-1) = 0 := by decide
  have f1 : Cal.nthV 2000 1 5 5 = 28 := by decide
  have f2 : Cal.nthE 2000 1 5 5 = 0 := by decide
  have g1 : Cal.nthV 2000 1 2 5 = 0 := by decide
  have g2 : Cal.nthE 2000 1 2 5 = 4 := by decide
  go_enter Tryd.func10, Tryd.ntmps10
  go_wp2_with (first | (go_at_call 11; refine (date_any _ _ ht).mono ?_; rintro e w' ⟨rfl, rfl⟩) | (go_at_call 15; refine (weekdayOf_any _ _).mono ?_; rintro e w' ⟨rfl, rfl⟩) | (go_at_call 13; refine (day_any _ _ _ _ ht).mono ?_; rintro e w' ⟨rfl, rfl⟩) | (go_at_call 17; refine (nth_any _ _ _ _ _ ht).mono ?_; rintro e w' ⟨rfl, rfl⟩))
  go_ret
  exact ⟨rfl, rfl⟩
set_option maxHeartbeats 1000000 in
set_option maxRecDepth 100000 in
theorem matches_true (day y m d wd n : Int) (w : World) (ht : Tab w) : Calls Tryd.prog 3 #[.int .i64 day, .int .i64 y, .int .i64 m, .int .i64 d, .int .i64 wd, .int .i64 n] w (Ret (.bool true) w) := by
  go_enter Tryd.func3, Tryd.ntmps3
  go_wp2_with (first | (go_at_call 10; refine (head_true _ ht).mono ?_; rintro e w' ⟨rfl, rfl⟩) | (go_at_call 11; refine (date_any _ _ ht).mono ?_; rintro e w' ⟨rfl, rfl⟩) | (go_at_call 15; refine (weekdayOf_any _ _).mono ?_; rintro e w' ⟨rfl, rfl⟩) | (go_at_call 13; refine (day_any _ _ _ _ ht).mono ?_; rintro e w' ⟨rfl, rfl⟩) | (go_at_call 17; refine (nth_any _ _ _ _ _ ht).mono ?_; rintro e w' ⟨rfl, rfl⟩) | (go_at_call 12; refine (refDate_any _ _).mono ?_; rintro e w' ⟨rfl, rfl⟩) | (go_at_call 16; refine (refWeekday_any _ _).mono ?_; rintro e w' ⟨rfl, rfl⟩) | (go_at_call 14; refine (refDay_any _ _ _ _).mono ?_; rintro e w' ⟨rfl, rfl⟩) | (go_at_call 18; refine (refNth_any _ _ _ _ _).mono ?_; rintro e w' ⟨rfl, rfl⟩))
  go_ret
  exact ⟨rfl, rfl⟩

theorem matches_law (day y m d wd n : Int) (w : World) (h0 : (Lit.int .i64 day).wf = true) (h1 : (Lit.int .i64 y).wf = true) (h2 : (Lit.int .i64 m).wf = true) (h3 : (Lit.int .i64 d).wf = true) (h4 : (Lit.int .i64 wd).wf = true) (h5 : (Lit.int .i64 n).wf = true) (ht : Tab w) :
    Calls Tryd.prog 3 #[.int .i64 day, .int .i64 y, .int .i64 m, .int .i64 d, .int .i64 wd, .int .i64 n] w (LawPost w) :=
  (matches_true day y m d wd n w ht).mono fun _ _ h => h.law
end Go.Proofs.YtponbbgfaanedaaDoor
