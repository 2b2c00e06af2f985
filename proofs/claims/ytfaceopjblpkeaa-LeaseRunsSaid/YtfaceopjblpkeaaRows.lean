/-
  No cell of these rows narrows 'for every input' (looked for: loops, veiled, ifaces, maps, wideKeys, modest, calm, conditions, laid).
  DERIVED. THE GIVEN ROWS OF THIS SEAT. 7 by the template 'for every input the law returns true; each argument reads behind the call as it read before'; 0 by the template 'total and deterministic' (their statements: YtfaceopjblpkeaaTotals.lean).
  GIVEN WITH THE SEED: the statements are not yours to turn. If you find one false, say at which input.
  Laid BY PROGRAM, IN A SANDBOX (cutbox-rows.mjs): the forced cells as the released guide's own fill.sh prints them over the translation b2b8e07b21f586cf… (all of the seat's roots in one cut). By AI agents, Wed Nov 11 2026. No macro, syntax, notation, axiom, sorry.
-/
import Derived.Test.YtfaceopjblpkeaaChecked
import GoSem.Claim
import GoSem.ClaimJoined
import GoSem.ClaimMapViews
import Derived.JoinedTies
import Derived.KernelRfl
namespace Go.Proofs.Ytfaceopjblpkeaa
/- THE CELL 'sum', in the pinned program and in every row, IS THE sha256 OF THE DUMP (.gsa) THAT YtfaceopjblpkeaaProg.lean LOADS. Nothing in Lean hashes anything: it is a label: what it is worth is what the hold of that sum in a sandbox is worth. -/
noncomputable def Try.pinned : Pinned := { name := "ytfaceopjblpkeaa", sum := "b2b8e07b21f586cf41906b2a23cc746f8cf98aa11fc0880c41a80a7fec775aff", checked := Try.checked }
namespace Rows
def none {H : Type} : Left H := { results := [], args := [] }

/-- 'regulatorlaw35.LeaseMatchesReference': WHATEVER THE INPUT: true; the input reads as it did. -/
def leaseMatchesReferenceSpec : ChangeSpec := { name := "leaseMatchesReference", fn := fun _ => fun
  | [d1, d2, d3, d4] => { results := [.lit (.bool true)], args := [d1, d2, d3, d4] }
  | _ => none }
def leaseMatchesReferenceRow : OpenClaim := { program := "ytfaceopjblpkeaa", sum := "b2b8e07b21f586cf41906b2a23cc746f8cf98aa11fc0880c41a80a7fec775aff", func := "regulator/regulatorlaw35.LeaseMatchesReference", spec := "leaseMatchesReference", unfollowed := true, recurses := true, apart := false }
def LeaseMatchesReferenceSaid : Prop := leaseMatchesReferenceRow.holds Try.pinned (OpenSpec.ofChange leaseMatchesReferenceSpec)

/-- ITS FALSE NEIGHBOUR: 'it returns false'. Refute it at one input. -/
def leaseMatchesReferenceWrong : ChangeSpec := { name := "leaseMatchesReference", fn := fun _ => fun
  | [d1, d2, d3, d4] => { results := [.lit (.bool false)], args := [d1, d2, d3, d4] }
  | _ => none }
def LeaseMatchesReferenceWrongFalsely : Prop := leaseMatchesReferenceRow.holds Try.pinned (OpenSpec.ofChange leaseMatchesReferenceWrong)

/-- 'regulatorlaw35.LeaseOne': WHATEVER THE INPUT: true; the input reads as it did. -/
def leaseOneSpec : ChangeSpec := { name := "leaseOne", fn := fun _ => fun
  | [d1, d2, d3, d4, d5, d6] => { results := [.lit (.bool true)], args := [d1, d2, d3, d4, d5, d6] }
  | _ => none }
def leaseOneRow : OpenClaim := { program := "ytfaceopjblpkeaa", sum := "b2b8e07b21f586cf41906b2a23cc746f8cf98aa11fc0880c41a80a7fec775aff", func := "regulator/regulatorlaw35.LeaseOne", spec := "leaseOne", unfollowed := true, recurses := true, apart := false }
def LeaseOneSaid : Prop := leaseOneRow.holds Try.pinned (OpenSpec.ofChange leaseOneSpec)

/-- ITS FALSE NEIGHBOUR: 'it returns false'. Refute it at one input. -/
def leaseOneWrong : ChangeSpec := { name := "leaseOne", fn := fun _ => fun
  | [d1, d2, d3, d4, d5, d6] => { results := [.lit (.bool false)], args := [d1, d2, d3, d4, d5, d6] }
  | _ => none }
def LeaseOneWrongFalsely : Prop := leaseOneRow.holds Try.pinned (OpenSpec.ofChange leaseOneWrong)

/-- 'regulatorlaw35.LeaseGrants': WHATEVER THE INPUT: true; the input reads as it did. -/
def leaseGrantsSpec : ChangeSpec := { name := "leaseGrants", fn := fun _ => fun
  | [d1, d2, d3, d4, d5, d6] => { results := [.lit (.bool true)], args := [d1, d2, d3, d4, d5, d6] }
  | _ => none }
def leaseGrantsRow : OpenClaim := { program := "ytfaceopjblpkeaa", sum := "b2b8e07b21f586cf41906b2a23cc746f8cf98aa11fc0880c41a80a7fec775aff", func := "regulator/regulatorlaw35.LeaseGrants", spec := "leaseGrants", unfollowed := true, recurses := true, apart := false }
def LeaseGrantsSaid : Prop := leaseGrantsRow.holds Try.pinned (OpenSpec.ofChange leaseGrantsSpec)

/-- ITS FALSE NEIGHBOUR: 'it returns false'. Refute it at one input. -/
def leaseGrantsWrong : ChangeSpec := { name := "leaseGrants", fn := fun _ => fun
  | [d1, d2, d3, d4, d5, d6] => { results := [.lit (.bool false)], args := [d1, d2, d3, d4, d5, d6] }
  | _ => none }
def LeaseGrantsWrongFalsely : Prop := leaseGrantsRow.holds Try.pinned (OpenSpec.ofChange leaseGrantsWrong)

/-- 'regulatorlaw35.LeaseRefuses': WHATEVER THE INPUT: true; the input reads as it did. -/
def leaseRefusesSpec : ChangeSpec := { name := "leaseRefuses", fn := fun _ => fun
  | [d1, d2, d3, d4, d5] => { results := [.lit (.bool true)], args := [d1, d2, d3, d4, d5] }
  | _ => none }
def leaseRefusesRow : OpenClaim := { program := "ytfaceopjblpkeaa", sum := "b2b8e07b21f586cf41906b2a23cc746f8cf98aa11fc0880c41a80a7fec775aff", func := "regulator/regulatorlaw35.LeaseRefuses", spec := "leaseRefuses", unfollowed := true, recurses := true, apart := false }
def LeaseRefusesSaid : Prop := leaseRefusesRow.holds Try.pinned (OpenSpec.ofChange leaseRefusesSpec)

/-- ITS FALSE NEIGHBOUR: 'it returns false'. Refute it at one input. -/
def leaseRefusesWrong : ChangeSpec := { name := "leaseRefuses", fn := fun _ => fun
  | [d1, d2, d3, d4, d5] => { results := [.lit (.bool false)], args := [d1, d2, d3, d4, d5] }
  | _ => none }
def LeaseRefusesWrongFalsely : Prop := leaseRefusesRow.holds Try.pinned (OpenSpec.ofChange leaseRefusesWrong)

/-- 'regulatorlaw35.LeaseDrops': WHATEVER THE INPUT: true; the input reads as it did. -/
def leaseDropsSpec : ChangeSpec := { name := "leaseDrops", fn := fun _ => fun
  | [d1, d2, d3, d4] => { results := [.lit (.bool true)], args := [d1, d2, d3, d4] }
  | _ => none }
def leaseDropsRow : OpenClaim := { program := "ytfaceopjblpkeaa", sum := "b2b8e07b21f586cf41906b2a23cc746f8cf98aa11fc0880c41a80a7fec775aff", func := "regulator/regulatorlaw35.LeaseDrops", spec := "leaseDrops", unfollowed := true, recurses := true, apart := false }
def LeaseDropsSaid : Prop := leaseDropsRow.holds Try.pinned (OpenSpec.ofChange leaseDropsSpec)

/-- ITS FALSE NEIGHBOUR: 'it returns false'. Refute it at one input. -/
def leaseDropsWrong : ChangeSpec := { name := "leaseDrops", fn := fun _ => fun
  | [d1, d2, d3, d4] => { results := [.lit (.bool false)], args := [d1, d2, d3, d4] }
  | _ => none }
def LeaseDropsWrongFalsely : Prop := leaseDropsRow.holds Try.pinned (OpenSpec.ofChange leaseDropsWrong)

/-- 'regulatorlaw35.LeaseFree': WHATEVER THE INPUT: true; the input reads as it did. -/
def leaseFreeSpec : ChangeSpec := { name := "leaseFree", fn := fun _ => fun
  | [d1, d2, d3, d4] => { results := [.lit (.bool true)], args := [d1, d2, d3, d4] }
  | _ => none }
def leaseFreeRow : OpenClaim := { program := "ytfaceopjblpkeaa", sum := "b2b8e07b21f586cf41906b2a23cc746f8cf98aa11fc0880c41a80a7fec775aff", func := "regulator/regulatorlaw35.LeaseFree", spec := "leaseFree", unfollowed := true, recurses := true, apart := false }
def LeaseFreeSaid : Prop := leaseFreeRow.holds Try.pinned (OpenSpec.ofChange leaseFreeSpec)

/-- ITS FALSE NEIGHBOUR: 'it returns false'. Refute it at one input. -/
def leaseFreeWrong : ChangeSpec := { name := "leaseFree", fn := fun _ => fun
  | [d1, d2, d3, d4] => { results := [.lit (.bool false)], args := [d1, d2, d3, d4] }
  | _ => none }
def LeaseFreeWrongFalsely : Prop := leaseFreeRow.holds Try.pinned (OpenSpec.ofChange leaseFreeWrong)

/-- 'regulatorlaw35.LeaseRuns': WHATEVER THE INPUT: true; the input reads as it did. -/
def leaseRunsSpec : ChangeSpec := { name := "leaseRuns", fn := fun _ => fun
  | [d1, d2, d3, d4, d5, d6] => { results := [.lit (.bool true)], args := [d1, d2, d3, d4, d5, d6] }
  | _ => none }
def leaseRunsRow : OpenClaim := { program := "ytfaceopjblpkeaa", sum := "b2b8e07b21f586cf41906b2a23cc746f8cf98aa11fc0880c41a80a7fec775aff", func := "regulator/regulatorlaw35.LeaseRuns", spec := "leaseRuns", unfollowed := true, recurses := true, apart := false }
def LeaseRunsSaid : Prop := leaseRunsRow.holds Try.pinned (OpenSpec.ofChange leaseRunsSpec)

/-- ITS FALSE NEIGHBOUR: 'it returns false'. Refute it at one input. -/
def leaseRunsWrong : ChangeSpec := { name := "leaseRuns", fn := fun _ => fun
  | [d1, d2, d3, d4, d5, d6] => { results := [.lit (.bool false)], args := [d1, d2, d3, d4, d5, d6] }
  | _ => none }
def LeaseRunsWrongFalsely : Prop := leaseRunsRow.holds Try.pinned (OpenSpec.ofChange leaseRunsWrong)

/- THE SECOND FORM. 'bulk': how many values and letters a reading holds, each counted each time it is reached (what is shared counts as often as it is met; a slice's spare places count too). A statement '..UptoSaid' is the law's where the arguments, and the package variables that the reading takes, are together of bulk at most 1048576: NARROWER than '..Said'. Prove '..Said' where nothing that the law and all that it calls make is longer than what came in: it says more and counts as full. Else prove '..UptoSaid'. A law counts once. -/
mutual
def uptoBulk {H : Type} : DataW H → Nat
  | .lit (.string bytes) => bytes.length + 1
  | .lit _ => 1
  | .nil => 1
  | .ptr d => uptoBulk d + 1
  | .slice elems spare => uptoBulkAll elems + uptoBulkAll spare + 1
  | .agg parts => uptoBulkAll parts + 1
  | .iface _ d => uptoBulk d + 1
  | .map entries => uptoBulkEntries entries + 1
  | .held _ => 1
def uptoBulkAll {H : Type} : List (DataW H) → Nat
  | [] => 0
  | d :: r => uptoBulk d + uptoBulkAll r
def uptoBulkEntries {H : Type} : List (Lit × DataW H) → Nat
  | [] => 0
  | x :: r => uptoBulkEntry x + uptoBulkEntries r
def uptoBulkEntry {H : Type} : Lit × DataW H → Nat
  | (.string bytes, d) => bytes.length + uptoBulk d + 1
  | (_, d) => uptoBulk d + 1
 end
def uptoSmall : (H : Type) → List (DataW H) → Bool := fun _ ds => decide (uptoBulkAll ds ≤ 1048576)
def OpenSpec.upto (s : _root_.Go.ChangeSpec) : _root_.Go.OpenSpec := { _root_.Go.OpenSpec.ofChange s with cond := some uptoSmall }

/-- 'regulatorlaw35.LeaseMatchesReference', WHERE WHAT IT READS IS OF BULK AT MOST 1048576: true; the input reads as it did. -/
def leaseMatchesReferenceUptoRow : OpenClaim := { program := "ytfaceopjblpkeaa", sum := "b2b8e07b21f586cf41906b2a23cc746f8cf98aa11fc0880c41a80a7fec775aff", func := "regulator/regulatorlaw35.LeaseMatchesReference", spec := "leaseMatchesReference", unfollowed := true, recurses := true, apart := false, narrowed := true }
def LeaseMatchesReferenceUptoSaid : Prop := leaseMatchesReferenceUptoRow.holds Try.pinned (OpenSpec.upto leaseMatchesReferenceSpec)

/-- 'regulatorlaw35.LeaseOne', WHERE WHAT IT READS IS OF BULK AT MOST 1048576: true; the input reads as it did. -/
def leaseOneUptoRow : OpenClaim := { program := "ytfaceopjblpkeaa", sum := "b2b8e07b21f586cf41906b2a23cc746f8cf98aa11fc0880c41a80a7fec775aff", func := "regulator/regulatorlaw35.LeaseOne", spec := "leaseOne", unfollowed := true, recurses := true, apart := false, narrowed := true }
def LeaseOneUptoSaid : Prop := leaseOneUptoRow.holds Try.pinned (OpenSpec.upto leaseOneSpec)

/-- 'regulatorlaw35.LeaseGrants', WHERE WHAT IT READS IS OF BULK AT MOST 1048576: true; the input reads as it did. -/
def leaseGrantsUptoRow : OpenClaim := { program := "ytfaceopjblpkeaa", sum := "b2b8e07b21f586cf41906b2a23cc746f8cf98aa11fc0880c41a80a7fec775aff", func := "regulator/regulatorlaw35.LeaseGrants", spec := "leaseGrants", unfollowed := true, recurses := true, apart := false, narrowed := true }
def LeaseGrantsUptoSaid : Prop := leaseGrantsUptoRow.holds Try.pinned (OpenSpec.upto leaseGrantsSpec)

/-- 'regulatorlaw35.LeaseRefuses', WHERE WHAT IT READS IS OF BULK AT MOST 1048576: true; the input reads as it did. -/
def leaseRefusesUptoRow : OpenClaim := { program := "ytfaceopjblpkeaa", sum := "b2b8e07b21f586cf41906b2a23cc746f8cf98aa11fc0880c41a80a7fec775aff", func := "regulator/regulatorlaw35.LeaseRefuses", spec := "leaseRefuses", unfollowed := true, recurses := true, apart := false, narrowed := true }
def LeaseRefusesUptoSaid : Prop := leaseRefusesUptoRow.holds Try.pinned (OpenSpec.upto leaseRefusesSpec)

/-- 'regulatorlaw35.LeaseDrops', WHERE WHAT IT READS IS OF BULK AT MOST 1048576: true; the input reads as it did. -/
def leaseDropsUptoRow : OpenClaim := { program := "ytfaceopjblpkeaa", sum := "b2b8e07b21f586cf41906b2a23cc746f8cf98aa11fc0880c41a80a7fec775aff", func := "regulator/regulatorlaw35.LeaseDrops", spec := "leaseDrops", unfollowed := true, recurses := true, apart := false, narrowed := true }
def LeaseDropsUptoSaid : Prop := leaseDropsUptoRow.holds Try.pinned (OpenSpec.upto leaseDropsSpec)

/-- 'regulatorlaw35.LeaseFree', WHERE WHAT IT READS IS OF BULK AT MOST 1048576: true; the input reads as it did. -/
def leaseFreeUptoRow : OpenClaim := { program := "ytfaceopjblpkeaa", sum := "b2b8e07b21f586cf41906b2a23cc746f8cf98aa11fc0880c41a80a7fec775aff", func := "regulator/regulatorlaw35.LeaseFree", spec := "leaseFree", unfollowed := true, recurses := true, apart := false, narrowed := true }
def LeaseFreeUptoSaid : Prop := leaseFreeUptoRow.holds Try.pinned (OpenSpec.upto leaseFreeSpec)

/-- 'regulatorlaw35.LeaseRuns', WHERE WHAT IT READS IS OF BULK AT MOST 1048576: true; the input reads as it did. -/
def leaseRunsUptoRow : OpenClaim := { program := "ytfaceopjblpkeaa", sum := "b2b8e07b21f586cf41906b2a23cc746f8cf98aa11fc0880c41a80a7fec775aff", func := "regulator/regulatorlaw35.LeaseRuns", spec := "leaseRuns", unfollowed := true, recurses := true, apart := false, narrowed := true }
def LeaseRunsUptoSaid : Prop := leaseRunsUptoRow.holds Try.pinned (OpenSpec.upto leaseRunsSpec)

end Rows
end Go.Proofs.Ytfaceopjblpkeaa
