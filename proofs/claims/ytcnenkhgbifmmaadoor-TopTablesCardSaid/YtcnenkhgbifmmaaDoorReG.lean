/- The reference's Days; and SameInts. -/
import Derived.Test.YtcnenkhgbifmmaaDoorReF
set_option linter.unusedVariables false
namespace Go.Proofs.YtcnenkhgbifmmaaDoor
open Go.RowKit
theorem sameI_step {a b : List Int} {n k : Nat} (ha : a.length = n) (hb : b.length = n) (hk : k < n) : a.take (k + 1) = a.take k ++ [a[k]?.getD 0] ∧ b.take (k + 1) = b.take k ++ [b[k]?.getD 0] := by
  constructor
  · rw [List.take_succ_eq_append_getElem (by omega)]; simp [show k < a.length by omega]
  · rw [List.take_succ_eq_append_getElem (by omega)]; simp [show k < b.length by omega]

end Go.Proofs.YtcnenkhgbifmmaaDoor
