/-
  No cell of these rows narrows 'for every input' (looked for: loops, veiled, ifaces, maps, wideKeys, modest, calm, conditions, laid).
  DERIVED. THE GIVEN ROWS OF THIS SEAT. 6 by the template 'for every input the law returns true; each argument reads behind the call as it read before'; 0 by the template 'total and deterministic' (their statements: YtcabegloipllhaaTotals.lean).
  GIVEN WITH THE SEED: the statements are not yours to turn. If you find one false, say at which input.
  Laid BY PROGRAM, IN A SANDBOX (cutbox-rows.mjs): the forced cells as the released guide's own fill.sh prints them over the translation 21f5e4c2e8e6593c… (all of the seat's roots in one cut). By AI agents, Wed Nov 11 2026. No macro, syntax, notation, axiom, sorry.
-/
import Derived.Test.YtcabegloipllhaaChecked
import GoSem.Claim
import GoSem.ClaimJoined
import GoSem.ClaimMapViews
import Derived.JoinedTies
import Derived.KernelRfl
namespace Go.Proofs.Ytcabegloipllhaa
/- THE CELL 'sum', in the pinned program and in every row, IS THE sha256 OF THE DUMP (.gsa) THAT YtcabegloipllhaaProg.lean LOADS. Nothing in Lean hashes anything: it is a label: what it is worth is what the hold of that sum in a sandbox is worth. -/
noncomputable def Try.pinned : Pinned := { name := "ytcabegloipllhaa", sum := "21f5e4c2e8e6593c19fe99a8f1f92b259bdd4390f598c472e0f3565801c0330c", checked := Try.checked }
namespace Rows
def none {H : Type} : Left H := { results := [], args := [] }

/-- 'regulatorlaw19.SmearMatchesReference': WHATEVER THE INPUT: true; the input reads as it did. -/
def smearMatchesReferenceSpec : ChangeSpec := { name := "smearMatchesReference", fn := fun _ => fun
  | [d1, d2, d3, d4] => { results := [.lit (.bool true)], args := [d1, d2, d3, d4] }
  | _ => none }
def smearMatchesReferenceRow : OpenClaim := { program := "ytcabegloipllhaa", sum := "21f5e4c2e8e6593c19fe99a8f1f92b259bdd4390f598c472e0f3565801c0330c", func := "regulator/regulatorlaw19.SmearMatchesReference", spec := "smearMatchesReference", unfollowed := true, recurses := true, apart := false }
def SmearMatchesReferenceSaid : Prop := smearMatchesReferenceRow.holds Try.pinned (OpenSpec.ofChange smearMatchesReferenceSpec)

/-- ITS FALSE NEIGHBOUR: 'it returns false'. Refute it at one input. -/
def smearMatchesReferenceWrong : ChangeSpec := { name := "smearMatchesReference", fn := fun _ => fun
  | [d1, d2, d3, d4] => { results := [.lit (.bool false)], args := [d1, d2, d3, d4] }
  | _ => none }
def SmearMatchesReferenceWrongFalsely : Prop := smearMatchesReferenceRow.holds Try.pinned (OpenSpec.ofChange smearMatchesReferenceWrong)

/-- 'regulatorlaw19.SmearGoesOn': WHATEVER THE INPUT: true; the input reads as it did. -/
def smearGoesOnSpec : ChangeSpec := { name := "smearGoesOn", fn := fun _ => fun
  | [d1, d2, d3] => { results := [.lit (.bool true)], args := [d1, d2, d3] }
  | _ => none }
def smearGoesOnRow : OpenClaim := { program := "ytcabegloipllhaa", sum := "21f5e4c2e8e6593c19fe99a8f1f92b259bdd4390f598c472e0f3565801c0330c", func := "regulator/regulatorlaw19.SmearGoesOn", spec := "smearGoesOn", unfollowed := true, recurses := true, apart := false }
def SmearGoesOnSaid : Prop := smearGoesOnRow.holds Try.pinned (OpenSpec.ofChange smearGoesOnSpec)

/-- ITS FALSE NEIGHBOUR: 'it returns false'. Refute it at one input. -/
def smearGoesOnWrong : ChangeSpec := { name := "smearGoesOn", fn := fun _ => fun
  | [d1, d2, d3] => { results := [.lit (.bool false)], args := [d1, d2, d3] }
  | _ => none }
def SmearGoesOnWrongFalsely : Prop := smearGoesOnRow.holds Try.pinned (OpenSpec.ofChange smearGoesOnWrong)

/-- 'regulatorlaw19.SmearInverse': WHATEVER THE INPUT: true; the input reads as it did. -/
def smearInverseSpec : ChangeSpec := { name := "smearInverse", fn := fun _ => fun
  | [d1, d2, d3, d4] => { results := [.lit (.bool true)], args := [d1, d2, d3, d4] }
  | _ => none }
def smearInverseRow : OpenClaim := { program := "ytcabegloipllhaa", sum := "21f5e4c2e8e6593c19fe99a8f1f92b259bdd4390f598c472e0f3565801c0330c", func := "regulator/regulatorlaw19.SmearInverse", spec := "smearInverse", unfollowed := true, recurses := true, apart := false }
def SmearInverseSaid : Prop := smearInverseRow.holds Try.pinned (OpenSpec.ofChange smearInverseSpec)

/-- ITS FALSE NEIGHBOUR: 'it returns false'. Refute it at one input. -/
def smearInverseWrong : ChangeSpec := { name := "smearInverse", fn := fun _ => fun
  | [d1, d2, d3, d4] => { results := [.lit (.bool false)], args := [d1, d2, d3, d4] }
  | _ => none }
def SmearInverseWrongFalsely : Prop := smearInverseRow.holds Try.pinned (OpenSpec.ofChange smearInverseWrong)

/-- 'regulatorlaw19.SmearApart': WHATEVER THE INPUT: true; the input reads as it did. -/
def smearApartSpec : ChangeSpec := { name := "smearApart", fn := fun _ => fun
  | [d1, d2, d3] => { results := [.lit (.bool true)], args := [d1, d2, d3] }
  | _ => none }
def smearApartRow : OpenClaim := { program := "ytcabegloipllhaa", sum := "21f5e4c2e8e6593c19fe99a8f1f92b259bdd4390f598c472e0f3565801c0330c", func := "regulator/regulatorlaw19.SmearApart", spec := "smearApart", unfollowed := true, recurses := true, apart := false }
def SmearApartSaid : Prop := smearApartRow.holds Try.pinned (OpenSpec.ofChange smearApartSpec)

/-- ITS FALSE NEIGHBOUR: 'it returns false'. Refute it at one input. -/
def smearApartWrong : ChangeSpec := { name := "smearApart", fn := fun _ => fun
  | [d1, d2, d3] => { results := [.lit (.bool false)], args := [d1, d2, d3] }
  | _ => none }
def SmearApartWrongFalsely : Prop := smearApartRow.holds Try.pinned (OpenSpec.ofChange smearApartWrong)

/-- 'regulatorlaw19.SmearLater': WHATEVER THE INPUT: true; the input reads as it did. -/
def smearLaterSpec : ChangeSpec := { name := "smearLater", fn := fun _ => fun
  | [d1, d2, d3, d4, d5] => { results := [.lit (.bool true)], args := [d1, d2, d3, d4, d5] }
  | _ => none }
def smearLaterRow : OpenClaim := { program := "ytcabegloipllhaa", sum := "21f5e4c2e8e6593c19fe99a8f1f92b259bdd4390f598c472e0f3565801c0330c", func := "regulator/regulatorlaw19.SmearLater", spec := "smearLater", unfollowed := true, recurses := true, apart := false }
def SmearLaterSaid : Prop := smearLaterRow.holds Try.pinned (OpenSpec.ofChange smearLaterSpec)

/-- ITS FALSE NEIGHBOUR: 'it returns false'. Refute it at one input. -/
def smearLaterWrong : ChangeSpec := { name := "smearLater", fn := fun _ => fun
  | [d1, d2, d3, d4, d5] => { results := [.lit (.bool false)], args := [d1, d2, d3, d4, d5] }
  | _ => none }
def SmearLaterWrongFalsely : Prop := smearLaterRow.holds Try.pinned (OpenSpec.ofChange smearLaterWrong)

/-- 'regulatorlaw19.SmearWindow': WHATEVER THE INPUT: true; the input reads as it did. -/
def smearWindowSpec : ChangeSpec := { name := "smearWindow", fn := fun _ => fun
  | [d1, d2, d3] => { results := [.lit (.bool true)], args := [d1, d2, d3] }
  | _ => none }
def smearWindowRow : OpenClaim := { program := "ytcabegloipllhaa", sum := "21f5e4c2e8e6593c19fe99a8f1f92b259bdd4390f598c472e0f3565801c0330c", func := "regulator/regulatorlaw19.SmearWindow", spec := "smearWindow", unfollowed := true, recurses := true, apart := false }
def SmearWindowSaid : Prop := smearWindowRow.holds Try.pinned (OpenSpec.ofChange smearWindowSpec)

/-- ITS FALSE NEIGHBOUR: 'it returns false'. Refute it at one input. -/
def smearWindowWrong : ChangeSpec := { name := "smearWindow", fn := fun _ => fun
  | [d1, d2, d3] => { results := [.lit (.bool false)], args := [d1, d2, d3] }
  | _ => none }
def SmearWindowWrongFalsely : Prop := smearWindowRow.holds Try.pinned (OpenSpec.ofChange smearWindowWrong)

/- THE SECOND FORM. 'bulk': how many values and letters a reading holds, each counted each time it is reached (what is shared counts as often as it is met; a slice's spare places count too). A statement '..UptoSaid' is the law's where the arguments, and the package variables that the reading takes, are together of bulk at most 1048576: NARROWER than '..Said'. Prove '..Said' where nothing that the law and all that it calls make is longer than what came in: it says more and counts as full. Else prove '..UptoSaid'. A law counts once. -/
mutual
def uptoBulk {H : Type} : DataW H → Nat
  | .lit (.string bytes) => bytes.length + 1
  | .lit _ => 1
  | .nil => 1
  | .ptr d => uptoBulk d + 1
  | .slice elems spare => uptoBulkAll elems + uptoBulkAll spare + 1
  | .agg parts => uptoBulkAll parts + 1
  | .iface _ d => uptoBulk d + 1
  | .map entries => uptoBulkEntries entries + 1
  | .held _ => 1
def uptoBulkAll {H : Type} : List (DataW H) → Nat
  | [] => 0
  | d :: r => uptoBulk d + uptoBulkAll r
def uptoBulkEntries {H : Type} : List (Lit × DataW H) → Nat
  | [] => 0
  | x :: r => uptoBulkEntry x + uptoBulkEntries r
def uptoBulkEntry {H : Type} : Lit × DataW H → Nat
  | (.string bytes, d) => bytes.length + uptoBulk d + 1
  | (_, d) => uptoBulk d + 1
 end
def uptoSmall : (H : Type) → List (DataW H) → Bool := fun _ ds => decide (uptoBulkAll ds ≤ 1048576)
def OpenSpec.upto (s : _root_.Go.ChangeSpec) : _root_.Go.OpenSpec := { _root_.Go.OpenSpec.ofChange s with cond := some uptoSmall }

/-- 'regulatorlaw19.SmearMatchesReference', WHERE WHAT IT READS IS OF BULK AT MOST 1048576: true; the input reads as it did. -/
def smearMatchesReferenceUptoRow : OpenClaim := { program := "ytcabegloipllhaa", sum := "21f5e4c2e8e6593c19fe99a8f1f92b259bdd4390f598c472e0f3565801c0330c", func := "regulator/regulatorlaw19.SmearMatchesReference", spec := "smearMatchesReference", unfollowed := true, recurses := true, apart := false, narrowed := true }
def SmearMatchesReferenceUptoSaid : Prop := smearMatchesReferenceUptoRow.holds Try.pinned (OpenSpec.upto smearMatchesReferenceSpec)

/-- 'regulatorlaw19.SmearGoesOn', WHERE WHAT IT READS IS OF BULK AT MOST 1048576: true; the input reads as it did. -/
def smearGoesOnUptoRow : OpenClaim := { program := "ytcabegloipllhaa", sum := "21f5e4c2e8e6593c19fe99a8f1f92b259bdd4390f598c472e0f3565801c0330c", func := "regulator/regulatorlaw19.SmearGoesOn", spec := "smearGoesOn", unfollowed := true, recurses := true, apart := false, narrowed := true }
def SmearGoesOnUptoSaid : Prop := smearGoesOnUptoRow.holds Try.pinned (OpenSpec.upto smearGoesOnSpec)

/-- 'regulatorlaw19.SmearInverse', WHERE WHAT IT READS IS OF BULK AT MOST 1048576: true; the input reads as it did. -/
def smearInverseUptoRow : OpenClaim := { program := "ytcabegloipllhaa", sum := "21f5e4c2e8e6593c19fe99a8f1f92b259bdd4390f598c472e0f3565801c0330c", func := "regulator/regulatorlaw19.SmearInverse", spec := "smearInverse", unfollowed := true, recurses := true, apart := false, narrowed := true }
def SmearInverseUptoSaid : Prop := smearInverseUptoRow.holds Try.pinned (OpenSpec.upto smearInverseSpec)

/-- 'regulatorlaw19.SmearApart', WHERE WHAT IT READS IS OF BULK AT MOST 1048576: true; the input reads as it did. -/
def smearApartUptoRow : OpenClaim := { program := "ytcabegloipllhaa", sum := "21f5e4c2e8e6593c19fe99a8f1f92b259bdd4390f598c472e0f3565801c0330c", func := "regulator/regulatorlaw19.SmearApart", spec := "smearApart", unfollowed := true, recurses := true, apart := false, narrowed := true }
def SmearApartUptoSaid : Prop := smearApartUptoRow.holds Try.pinned (OpenSpec.upto smearApartSpec)

/-- 'regulatorlaw19.SmearLater', WHERE WHAT IT READS IS OF BULK AT MOST 1048576: true; the input reads as it did. -/
def smearLaterUptoRow : OpenClaim := { program := "ytcabegloipllhaa", sum := "21f5e4c2e8e6593c19fe99a8f1f92b259bdd4390f598c472e0f3565801c0330c", func := "regulator/regulatorlaw19.SmearLater", spec := "smearLater", unfollowed := true, recurses := true, apart := false, narrowed := true }
def SmearLaterUptoSaid : Prop := smearLaterUptoRow.holds Try.pinned (OpenSpec.upto smearLaterSpec)

/-- 'regulatorlaw19.SmearWindow', WHERE WHAT IT READS IS OF BULK AT MOST 1048576: true; the input reads as it did. -/
def smearWindowUptoRow : OpenClaim := { program := "ytcabegloipllhaa", sum := "21f5e4c2e8e6593c19fe99a8f1f92b259bdd4390f598c472e0f3565801c0330c", func := "regulator/regulatorlaw19.SmearWindow", spec := "smearWindow", unfollowed := true, recurses := true, apart := false, narrowed := true }
def SmearWindowUptoSaid : Prop := smearWindowUptoRow.holds Try.pinned (OpenSpec.upto smearWindowSpec)

end Rows
end Go.Proofs.Ytcabegloipllhaa
