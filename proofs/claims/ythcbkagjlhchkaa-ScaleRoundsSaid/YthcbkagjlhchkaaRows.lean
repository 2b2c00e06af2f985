/-
  No cell of these rows narrows 'for every input' (looked for: loops, veiled, ifaces, maps, wideKeys, modest, calm, conditions, laid).
  DERIVED. THE GIVEN ROWS OF THIS SEAT. 7 by the template 'for every input the law returns true; each argument reads behind the call as it read before'; 0 by the template 'total and deterministic' (their statements: YthcbkagjlhchkaaTotals.lean).
  GIVEN WITH THE SEED: the statements are not yours to turn. If you find one false, say at which input.
  Laid BY PROGRAM, IN A SANDBOX (cutbox-rows.mjs): the forced cells as the released guide's own fill.sh prints them over the translation 16e4ebdfb8b73707… (all of the seat's roots in one cut). By AI agents, Wed Nov 11 2026. No macro, syntax, notation, axiom, sorry.
-/
import Derived.Test.YthcbkagjlhchkaaChecked
import GoSem.Claim
import GoSem.ClaimJoined
import GoSem.ClaimMapViews
import Derived.JoinedTies
import Derived.KernelRfl
namespace Go.Proofs.Ythcbkagjlhchkaa
/- THE CELL 'sum', in the pinned program and in every row, IS THE sha256 OF THE DUMP (.gsa) THAT YthcbkagjlhchkaaProg.lean LOADS. Nothing in Lean hashes anything: it is a label: what it is worth is what the hold of that sum in a sandbox is worth. -/
noncomputable def Try.pinned : Pinned := { name := "ythcbkagjlhchkaa", sum := "16e4ebdfb8b737070b4ec7550177293ae0de4294ea1a83c0deda692a4d96f2fd", checked := Try.checked }
namespace Rows
def none {H : Type} : Left H := { results := [], args := [] }

/-- 'regulatorlaw01.ScaleMatchesReference': WHATEVER THE INPUT: true; the input reads as it did. -/
def scaleMatchesReferenceSpec : ChangeSpec := { name := "scaleMatchesReference", fn := fun _ => fun
  | [d1, d2, d3, d4] => { results := [.lit (.bool true)], args := [d1, d2, d3, d4] }
  | _ => none }
def scaleMatchesReferenceRow : OpenClaim := { program := "ythcbkagjlhchkaa", sum := "16e4ebdfb8b737070b4ec7550177293ae0de4294ea1a83c0deda692a4d96f2fd", func := "regulator/regulatorlaw01.ScaleMatchesReference", spec := "scaleMatchesReference", unfollowed := true, recurses := true, named := ["math/bits.divideError", "math/bits.overflowError"], apart := false }
def ScaleMatchesReferenceSaid : Prop := scaleMatchesReferenceRow.holds Try.pinned (OpenSpec.ofChange scaleMatchesReferenceSpec)

/-- ITS FALSE NEIGHBOUR: 'it returns false'. Refute it at one input. -/
def scaleMatchesReferenceWrong : ChangeSpec := { name := "scaleMatchesReference", fn := fun _ => fun
  | [d1, d2, d3, d4] => { results := [.lit (.bool false)], args := [d1, d2, d3, d4] }
  | _ => none }
def ScaleMatchesReferenceWrongFalsely : Prop := scaleMatchesReferenceRow.holds Try.pinned (OpenSpec.ofChange scaleMatchesReferenceWrong)

/-- 'regulatorlaw01.ScaleRounds': WHATEVER THE INPUT: true; the input reads as it did. -/
def scaleRoundsSpec : ChangeSpec := { name := "scaleRounds", fn := fun _ => fun
  | [d1, d2, d3] => { results := [.lit (.bool true)], args := [d1, d2, d3] }
  | _ => none }
def scaleRoundsRow : OpenClaim := { program := "ythcbkagjlhchkaa", sum := "16e4ebdfb8b737070b4ec7550177293ae0de4294ea1a83c0deda692a4d96f2fd", func := "regulator/regulatorlaw01.ScaleRounds", spec := "scaleRounds", unfollowed := true, recurses := true, named := ["math/bits.divideError", "math/bits.overflowError"], apart := false }
def ScaleRoundsSaid : Prop := scaleRoundsRow.holds Try.pinned (OpenSpec.ofChange scaleRoundsSpec)

/-- ITS FALSE NEIGHBOUR: 'it returns false'. Refute it at one input. -/
def scaleRoundsWrong : ChangeSpec := { name := "scaleRounds", fn := fun _ => fun
  | [d1, d2, d3] => { results := [.lit (.bool false)], args := [d1, d2, d3] }
  | _ => none }
def ScaleRoundsWrongFalsely : Prop := scaleRoundsRow.holds Try.pinned (OpenSpec.ofChange scaleRoundsWrong)

/-- 'regulatorlaw01.ScaleSigns': WHATEVER THE INPUT: true; the input reads as it did. -/
def scaleSignsSpec : ChangeSpec := { name := "scaleSigns", fn := fun _ => fun
  | [d1, d2, d3] => { results := [.lit (.bool true)], args := [d1, d2, d3] }
  | _ => none }
def scaleSignsRow : OpenClaim := { program := "ythcbkagjlhchkaa", sum := "16e4ebdfb8b737070b4ec7550177293ae0de4294ea1a83c0deda692a4d96f2fd", func := "regulator/regulatorlaw01.ScaleSigns", spec := "scaleSigns", unfollowed := true, recurses := true, named := ["math/bits.divideError", "math/bits.overflowError"], apart := false }
def ScaleSignsSaid : Prop := scaleSignsRow.holds Try.pinned (OpenSpec.ofChange scaleSignsSpec)

/-- ITS FALSE NEIGHBOUR: 'it returns false'. Refute it at one input. -/
def scaleSignsWrong : ChangeSpec := { name := "scaleSigns", fn := fun _ => fun
  | [d1, d2, d3] => { results := [.lit (.bool false)], args := [d1, d2, d3] }
  | _ => none }
def ScaleSignsWrongFalsely : Prop := scaleSignsRow.holds Try.pinned (OpenSpec.ofChange scaleSignsWrong)

/-- 'regulatorlaw01.ScaleOrder': WHATEVER THE INPUT: true; the input reads as it did. -/
def scaleOrderSpec : ChangeSpec := { name := "scaleOrder", fn := fun _ => fun
  | [d1, d2, d3, d4] => { results := [.lit (.bool true)], args := [d1, d2, d3, d4] }
  | _ => none }
def scaleOrderRow : OpenClaim := { program := "ythcbkagjlhchkaa", sum := "16e4ebdfb8b737070b4ec7550177293ae0de4294ea1a83c0deda692a4d96f2fd", func := "regulator/regulatorlaw01.ScaleOrder", spec := "scaleOrder", unfollowed := true, recurses := true, named := ["math/bits.divideError", "math/bits.overflowError"], apart := false }
def ScaleOrderSaid : Prop := scaleOrderRow.holds Try.pinned (OpenSpec.ofChange scaleOrderSpec)

/-- ITS FALSE NEIGHBOUR: 'it returns false'. Refute it at one input. -/
def scaleOrderWrong : ChangeSpec := { name := "scaleOrder", fn := fun _ => fun
  | [d1, d2, d3, d4] => { results := [.lit (.bool false)], args := [d1, d2, d3, d4] }
  | _ => none }
def ScaleOrderWrongFalsely : Prop := scaleOrderRow.holds Try.pinned (OpenSpec.ofChange scaleOrderWrong)

/-- 'regulatorlaw01.ScaleBack': WHATEVER THE INPUT: true; the input reads as it did. -/
def scaleBackSpec : ChangeSpec := { name := "scaleBack", fn := fun _ => fun
  | [d1, d2, d3] => { results := [.lit (.bool true)], args := [d1, d2, d3] }
  | _ => none }
def scaleBackRow : OpenClaim := { program := "ythcbkagjlhchkaa", sum := "16e4ebdfb8b737070b4ec7550177293ae0de4294ea1a83c0deda692a4d96f2fd", func := "regulator/regulatorlaw01.ScaleBack", spec := "scaleBack", unfollowed := true, recurses := true, named := ["math/bits.divideError", "math/bits.overflowError"], apart := false }
def ScaleBackSaid : Prop := scaleBackRow.holds Try.pinned (OpenSpec.ofChange scaleBackSpec)

/-- ITS FALSE NEIGHBOUR: 'it returns false'. Refute it at one input. -/
def scaleBackWrong : ChangeSpec := { name := "scaleBack", fn := fun _ => fun
  | [d1, d2, d3] => { results := [.lit (.bool false)], args := [d1, d2, d3] }
  | _ => none }
def ScaleBackWrongFalsely : Prop := scaleBackRow.holds Try.pinned (OpenSpec.ofChange scaleBackWrong)

/-- 'regulatorlaw01.ScaleUnits': WHATEVER THE INPUT: true; the input reads as it did. -/
def scaleUnitsSpec : ChangeSpec := { name := "scaleUnits", fn := fun _ => fun
  | [d1, d2, d3, d4] => { results := [.lit (.bool true)], args := [d1, d2, d3, d4] }
  | _ => none }
def scaleUnitsRow : OpenClaim := { program := "ythcbkagjlhchkaa", sum := "16e4ebdfb8b737070b4ec7550177293ae0de4294ea1a83c0deda692a4d96f2fd", func := "regulator/regulatorlaw01.ScaleUnits", spec := "scaleUnits", unfollowed := true, recurses := true, named := ["math/bits.divideError", "math/bits.overflowError"], apart := false }
def ScaleUnitsSaid : Prop := scaleUnitsRow.holds Try.pinned (OpenSpec.ofChange scaleUnitsSpec)

/-- ITS FALSE NEIGHBOUR: 'it returns false'. Refute it at one input. -/
def scaleUnitsWrong : ChangeSpec := { name := "scaleUnits", fn := fun _ => fun
  | [d1, d2, d3, d4] => { results := [.lit (.bool false)], args := [d1, d2, d3, d4] }
  | _ => none }
def ScaleUnitsWrongFalsely : Prop := scaleUnitsRow.holds Try.pinned (OpenSpec.ofChange scaleUnitsWrong)

/-- 'regulatorlaw01.ScaleSums': WHATEVER THE INPUT: true; the input reads as it did. -/
def scaleSumsSpec : ChangeSpec := { name := "scaleSums", fn := fun _ => fun
  | [d1, d2, d3, d4, d5] => { results := [.lit (.bool true)], args := [d1, d2, d3, d4, d5] }
  | _ => none }
def scaleSumsRow : OpenClaim := { program := "ythcbkagjlhchkaa", sum := "16e4ebdfb8b737070b4ec7550177293ae0de4294ea1a83c0deda692a4d96f2fd", func := "regulator/regulatorlaw01.ScaleSums", spec := "scaleSums", unfollowed := true, recurses := true, named := ["math/bits.divideError", "math/bits.overflowError"], apart := false }
def ScaleSumsSaid : Prop := scaleSumsRow.holds Try.pinned (OpenSpec.ofChange scaleSumsSpec)

/-- ITS FALSE NEIGHBOUR: 'it returns false'. Refute it at one input. -/
def scaleSumsWrong : ChangeSpec := { name := "scaleSums", fn := fun _ => fun
  | [d1, d2, d3, d4, d5] => { results := [.lit (.bool false)], args := [d1, d2, d3, d4, d5] }
  | _ => none }
def ScaleSumsWrongFalsely : Prop := scaleSumsRow.holds Try.pinned (OpenSpec.ofChange scaleSumsWrong)

/- THE SECOND FORM. 'bulk': how many values and letters a reading holds, each counted each time it is reached (what is shared counts as often as it is met; a slice's spare places count too). A statement '..UptoSaid' is the law's where the arguments, and the package variables that the reading takes, are together of bulk at most 1048576: NARROWER than '..Said'. Prove '..Said' where nothing that the law and all that it calls make is longer than what came in: it says more and counts as full. Else prove '..UptoSaid'. A law counts once. -/
mutual
def uptoBulk {H : Type} : DataW H → Nat
  | .lit (.string bytes) => bytes.length + 1
  | .lit _ => 1
  | .nil => 1
  | .ptr d => uptoBulk d + 1
  | .slice elems spare => uptoBulkAll elems + uptoBulkAll spare + 1
  | .agg parts => uptoBulkAll parts + 1
  | .iface _ d => uptoBulk d + 1
  | .map entries => uptoBulkEntries entries + 1
  | .held _ => 1
def uptoBulkAll {H : Type} : List (DataW H) → Nat
  | [] => 0
  | d :: r => uptoBulk d + uptoBulkAll r
def uptoBulkEntries {H : Type} : List (Lit × DataW H) → Nat
  | [] => 0
  | x :: r => uptoBulkEntry x + uptoBulkEntries r
def uptoBulkEntry {H : Type} : Lit × DataW H → Nat
  | (.string bytes, d) => bytes.length + uptoBulk d + 1
  | (_, d) => uptoBulk d + 1
 end
def uptoSmall : (H : Type) → List (DataW H) → Bool := fun _ ds => decide (uptoBulkAll ds ≤ 1048576)
def OpenSpec.upto (s : _root_.Go.ChangeSpec) : _root_.Go.OpenSpec := { _root_.Go.OpenSpec.ofChange s with cond := some uptoSmall }

/-- 'regulatorlaw01.ScaleMatchesReference', WHERE WHAT IT READS IS OF BULK AT MOST 1048576: true; the input reads as it did. -/
def scaleMatchesReferenceUptoRow : OpenClaim := { program := "ythcbkagjlhchkaa", sum := "16e4ebdfb8b737070b4ec7550177293ae0de4294ea1a83c0deda692a4d96f2fd", func := "regulator/regulatorlaw01.ScaleMatchesReference", spec := "scaleMatchesReference", unfollowed := true, recurses := true, named := ["math/bits.divideError", "math/bits.overflowError"], apart := false, narrowed := true }
def ScaleMatchesReferenceUptoSaid : Prop := scaleMatchesReferenceUptoRow.holds Try.pinned (OpenSpec.upto scaleMatchesReferenceSpec)

/-- 'regulatorlaw01.ScaleRounds', WHERE WHAT IT READS IS OF BULK AT MOST 1048576: true; the input reads as it did. -/
def scaleRoundsUptoRow : OpenClaim := { program := "ythcbkagjlhchkaa", sum := "16e4ebdfb8b737070b4ec7550177293ae0de4294ea1a83c0deda692a4d96f2fd", func := "regulator/regulatorlaw01.ScaleRounds", spec := "scaleRounds", unfollowed := true, recurses := true, named := ["math/bits.divideError", "math/bits.overflowError"], apart := false, narrowed := true }
def ScaleRoundsUptoSaid : Prop := scaleRoundsUptoRow.holds Try.pinned (OpenSpec.upto scaleRoundsSpec)

/-- 'regulatorlaw01.ScaleSigns', WHERE WHAT IT READS IS OF BULK AT MOST 1048576: true; the input reads as it did. -/
def scaleSignsUptoRow : OpenClaim := { program := "ythcbkagjlhchkaa", sum := "16e4ebdfb8b737070b4ec7550177293ae0de4294ea1a83c0deda692a4d96f2fd", func := "regulator/regulatorlaw01.ScaleSigns", spec := "scaleSigns", unfollowed := true, recurses := true, named := ["math/bits.divideError", "math/bits.overflowError"], apart := false, narrowed := true }
def ScaleSignsUptoSaid : Prop := scaleSignsUptoRow.holds Try.pinned (OpenSpec.upto scaleSignsSpec)

/-- 'regulatorlaw01.ScaleOrder', WHERE WHAT IT READS IS OF BULK AT MOST 1048576: true; the input reads as it did. -/
def scaleOrderUptoRow : OpenClaim := { program := "ythcbkagjlhchkaa", sum := "16e4ebdfb8b737070b4ec7550177293ae0de4294ea1a83c0deda692a4d96f2fd", func := "regulator/regulatorlaw01.ScaleOrder", spec := "scaleOrder", unfollowed := true, recurses := true, named := ["math/bits.divideError", "math/bits.overflowError"], apart := false, narrowed := true }
def ScaleOrderUptoSaid : Prop := scaleOrderUptoRow.holds Try.pinned (OpenSpec.upto scaleOrderSpec)

/-- 'regulatorlaw01.ScaleBack', WHERE WHAT IT READS IS OF BULK AT MOST 1048576: true; the input reads as it did. -/
def scaleBackUptoRow : OpenClaim := { program := "ythcbkagjlhchkaa", sum := "16e4ebdfb8b737070b4ec7550177293ae0de4294ea1a83c0deda692a4d96f2fd", func := "regulator/regulatorlaw01.ScaleBack", spec := "scaleBack", unfollowed := true, recurses := true, named := ["math/bits.divideError", "math/bits.overflowError"], apart := false, narrowed := true }
def ScaleBackUptoSaid : Prop := scaleBackUptoRow.holds Try.pinned (OpenSpec.upto scaleBackSpec)

/-- 'regulatorlaw01.ScaleUnits', WHERE WHAT IT READS IS OF BULK AT MOST 1048576: true; the input reads as it did. -/
def scaleUnitsUptoRow : OpenClaim := { program := "ythcbkagjlhchkaa", sum := "16e4ebdfb8b737070b4ec7550177293ae0de4294ea1a83c0deda692a4d96f2fd", func := "regulator/regulatorlaw01.ScaleUnits", spec := "scaleUnits", unfollowed := true, recurses := true, named := ["math/bits.divideError", "math/bits.overflowError"], apart := false, narrowed := true }
def ScaleUnitsUptoSaid : Prop := scaleUnitsUptoRow.holds Try.pinned (OpenSpec.upto scaleUnitsSpec)

/-- 'regulatorlaw01.ScaleSums', WHERE WHAT IT READS IS OF BULK AT MOST 1048576: true; the input reads as it did. -/
def scaleSumsUptoRow : OpenClaim := { program := "ythcbkagjlhchkaa", sum := "16e4ebdfb8b737070b4ec7550177293ae0de4294ea1a83c0deda692a4d96f2fd", func := "regulator/regulatorlaw01.ScaleSums", spec := "scaleSums", unfollowed := true, recurses := true, named := ["math/bits.divideError", "math/bits.overflowError"], apart := false, narrowed := true }
def ScaleSumsUptoSaid : Prop := scaleSumsUptoRow.holds Try.pinned (OpenSpec.upto scaleSumsSpec)

end Rows
end Go.Proofs.Ythcbkagjlhchkaa
