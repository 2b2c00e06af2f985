/- The table of lengths as the rows list it gives the cells that the walks read; and a world in which it is laid so. -/
import Derived.Test.YtcnenkhgbifmmaaDoorWalkA
import Derived.Test.YtcnenkhgbifmmaaDoorCards
import Derived.ProofKit
import Derived.OpenShut
import Derived.Deep.DeepHandedRow
import Derived.Lib.LaidTab
set_option linter.unusedVariables false
namespace Go.Proofs.YtcnenkhgbifmmaaDoor
open Go.ChangeShapes Go.WideShapes Go.ChangeAt Go.RowKit
theorem gTab : Tryd.prog.globalNamed "regulator/calendar.lengths" = some 0 := by kernel_rfl
theorem gTabType : (Tryd.prog.globals[0]?).map (·.type) = some 122 := by kernel_rfl
theorem cellsTab : Tryd.prog.cellsOf 122 = 12 := by kernel_rfl
theorem cellsInt : Tryd.prog.cellsOf 3 = 1 := by kernel_rfl
theorem table {W : World} (h : laidMetH Tryd.prog [("regulator/calendar.lengths", Rows.laid_regulator_calendar_lengths)] W) : Lib.TabIs Tryd.prog W "regulator/calendar.lengths" .i64 [31, 28, 31, 30, 31, 30, 31, 31, 30, 31, 30, 31] :=
  Lib.tabIs_of_head (rest := []) gTab gTabType Tryd.underlying122 Tryd.underlying3 cellsInt cellsTab h
theorem tab_of {W : World} (h : laidMetH Tryd.prog [("regulator/calendar.lengths", Rows.laid_regulator_calendar_lengths)] W) : Tab W := by
  intro i hi
  have hc := (table h).cell gTab i (by simpa using hi)
  rcases (show i = 0 ∨ i = 1 ∨ i = 2 ∨ i = 3 ∨ i = 4 ∨ i = 5 ∨ i = 6 ∨ i = 7 ∨ i = 8 ∨ i = 9 ∨ i = 10 ∨ i = 11 by omega) with rfl | rfl | rfl | rfl | rfl | rfl | rfl | rfl | rfl | rfl | rfl | rfl <;> exact hc
/-- the settled world, the table holding what its initialiser lays -/
noncomputable def laidW (os : Os) : World :=
  { World.holding Tryd.prog os ⟨#[], #[], []⟩ with heap := (World.holding Tryd.prog os ⟨#[], #[], []⟩).heap.modify 0 fun
      | .cells _ t frozen => .cells #[.int .i64 31, .int .i64 28, .int .i64 31, .int .i64 30, .int .i64 31, .int .i64 30, .int .i64 31, .int .i64 31, .int .i64 30, .int .i64 31, .int .i64 30, .int .i64 31] t frozen
      | o => o }
end Go.Proofs.YtcnenkhgbifmmaaDoor
