/- The reference's on; and Same, of two lists of fires. -/
import Derived.Test.YtcnenkhgbifmmaaDoorReJ
set_option linter.unusedVariables false
namespace Go.Proofs.YtcnenkhgbifmmaaDoor
open Go.RowKit
theorem take_yes {T : List Int} {i k : Nat} {b : Bool} (hk : T.length = k) (hi : i < k) (h : i = 0 ∨ b = true) : (if b then T else T.take 1).take (i + 1) = (if b then T else T.take 1).take i ++ [T[i]?.getD 0] := by
  have e : T.take (i + 1) = T.take i ++ [T[i]?.getD 0] := by rw [List.take_succ_eq_append_getElem (by omega)]; simp [show i < T.length by omega]
  cases b
  · obtain rfl : i = 0 := by simpa using h
    simpa [List.take_take] using e
  · simpa using e
theorem take_no {T : List Int} {i : Nat} (h : 1 ≤ i) : (T.take 1).take (i + 1) = (T.take 1).take i := by
  rw [List.take_take, List.take_take, Nat.min_eq_right (by omega), Nat.min_eq_right (by omega)]
theorem cellsL_map (d : Int) (l : List Int) : cellsL (l.map fun t => (d, t)) = l.flatMap fun t => [.int .i64 d, .int .i64 t] := by simp [cellsL, List.flatMap_map]
end Go.Proofs.YtcnenkhgbifmmaaDoor
