/-
  No cell of these rows narrows 'for every input' (looked for: loops, veiled, ifaces, maps, wideKeys, modest, calm, conditions, laid).
  DERIVED. THE GIVEN ROWS OF THIS SEAT. 7 by the template 'for every input the law returns true; each argument reads behind the call as it read before'; 0 by the template 'total and deterministic' (their statements: YtdmjciklobokbaaTotals.lean).
  GIVEN WITH THE SEED: the statements are not yours to turn. If you find one false, say at which input.
  Laid BY PROGRAM, IN A SANDBOX (cutbox-rows.mjs): the forced cells as the released guide's own fill.sh prints them over the translation 412e3c6954bf5080… (all of the seat's roots in one cut). By AI agents, Wed Nov 11 2026. No macro, syntax, notation, axiom, sorry.
-/
import Derived.Test.YtdmjciklobokbaaChecked
import GoSem.Claim
import GoSem.ClaimJoined
import GoSem.ClaimMapViews
import Derived.JoinedTies
import Derived.KernelRfl
namespace Go.Proofs.Ytdmjciklobokbaa
/- THE CELL 'sum', in the pinned program and in every row, IS THE sha256 OF THE DUMP (.gsa) THAT YtdmjciklobokbaaProg.lean LOADS. Nothing in Lean hashes anything: it is a label: what it is worth is what the hold of that sum in a sandbox is worth. -/
noncomputable def Try.pinned : Pinned := { name := "ytdmjciklobokbaa", sum := "412e3c6954bf5080742a0ecb2f8b217985e77d23b59d4ac3ee2d3d5b8d4eebe8", checked := Try.checked }
namespace Rows
def none {H : Type} : Left H := { results := [], args := [] }

/-- 'regulatorlaw17.LeapMatchesReference': WHATEVER THE INPUT: true; the input reads as it did. -/
def leapMatchesReferenceSpec : ChangeSpec := { name := "leapMatchesReference", fn := fun _ => fun
  | [d1, d2, d3] => { results := [.lit (.bool true)], args := [d1, d2, d3] }
  | _ => none }
def leapMatchesReferenceRow : OpenClaim := { program := "ytdmjciklobokbaa", sum := "412e3c6954bf5080742a0ecb2f8b217985e77d23b59d4ac3ee2d3d5b8d4eebe8", func := "regulator/regulatorlaw17.LeapMatchesReference", spec := "leapMatchesReference", unfollowed := true, recurses := true, apart := false }
def LeapMatchesReferenceSaid : Prop := leapMatchesReferenceRow.holds Try.pinned (OpenSpec.ofChange leapMatchesReferenceSpec)

/-- ITS FALSE NEIGHBOUR: 'it returns false'. Refute it at one input. -/
def leapMatchesReferenceWrong : ChangeSpec := { name := "leapMatchesReference", fn := fun _ => fun
  | [d1, d2, d3] => { results := [.lit (.bool false)], args := [d1, d2, d3] }
  | _ => none }
def LeapMatchesReferenceWrongFalsely : Prop := leapMatchesReferenceRow.holds Try.pinned (OpenSpec.ofChange leapMatchesReferenceWrong)

/-- 'regulatorlaw17.LeapDays': WHATEVER THE INPUT: true; the input reads as it did. -/
def leapDaysSpec : ChangeSpec := { name := "leapDays", fn := fun _ => fun
  | [d1, d2] => { results := [.lit (.bool true)], args := [d1, d2] }
  | _ => none }
def leapDaysRow : OpenClaim := { program := "ytdmjciklobokbaa", sum := "412e3c6954bf5080742a0ecb2f8b217985e77d23b59d4ac3ee2d3d5b8d4eebe8", func := "regulator/regulatorlaw17.LeapDays", spec := "leapDays", unfollowed := true, recurses := true, apart := false }
def LeapDaysSaid : Prop := leapDaysRow.holds Try.pinned (OpenSpec.ofChange leapDaysSpec)

/-- ITS FALSE NEIGHBOUR: 'it returns false'. Refute it at one input. -/
def leapDaysWrong : ChangeSpec := { name := "leapDays", fn := fun _ => fun
  | [d1, d2] => { results := [.lit (.bool false)], args := [d1, d2] }
  | _ => none }
def LeapDaysWrongFalsely : Prop := leapDaysRow.holds Try.pinned (OpenSpec.ofChange leapDaysWrong)

/-- 'regulatorlaw17.LeapTimes': WHATEVER THE INPUT: true; the input reads as it did. -/
def leapTimesSpec : ChangeSpec := { name := "leapTimes", fn := fun _ => fun
  | [d1, d2] => { results := [.lit (.bool true)], args := [d1, d2] }
  | _ => none }
def leapTimesRow : OpenClaim := { program := "ytdmjciklobokbaa", sum := "412e3c6954bf5080742a0ecb2f8b217985e77d23b59d4ac3ee2d3d5b8d4eebe8", func := "regulator/regulatorlaw17.LeapTimes", spec := "leapTimes", unfollowed := true, recurses := true, apart := false }
def LeapTimesSaid : Prop := leapTimesRow.holds Try.pinned (OpenSpec.ofChange leapTimesSpec)

/-- ITS FALSE NEIGHBOUR: 'it returns false'. Refute it at one input. -/
def leapTimesWrong : ChangeSpec := { name := "leapTimes", fn := fun _ => fun
  | [d1, d2] => { results := [.lit (.bool false)], args := [d1, d2] }
  | _ => none }
def LeapTimesWrongFalsely : Prop := leapTimesRow.holds Try.pinned (OpenSpec.ofChange leapTimesWrong)

/-- 'regulatorlaw17.LeapOffsets': WHATEVER THE INPUT: true; the input reads as it did. -/
def leapOffsetsSpec : ChangeSpec := { name := "leapOffsets", fn := fun _ => fun
  | [d1, d2] => { results := [.lit (.bool true)], args := [d1, d2] }
  | _ => none }
def leapOffsetsRow : OpenClaim := { program := "ytdmjciklobokbaa", sum := "412e3c6954bf5080742a0ecb2f8b217985e77d23b59d4ac3ee2d3d5b8d4eebe8", func := "regulator/regulatorlaw17.LeapOffsets", spec := "leapOffsets", unfollowed := true, recurses := true, apart := false }
def LeapOffsetsSaid : Prop := leapOffsetsRow.holds Try.pinned (OpenSpec.ofChange leapOffsetsSpec)

/-- ITS FALSE NEIGHBOUR: 'it returns false'. Refute it at one input. -/
def leapOffsetsWrong : ChangeSpec := { name := "leapOffsets", fn := fun _ => fun
  | [d1, d2] => { results := [.lit (.bool false)], args := [d1, d2] }
  | _ => none }
def LeapOffsetsWrongFalsely : Prop := leapOffsetsRow.holds Try.pinned (OpenSpec.ofChange leapOffsetsWrong)

/-- 'regulatorlaw17.LeapFurther': WHATEVER THE INPUT: true; the input reads as it did. -/
def leapFurtherSpec : ChangeSpec := { name := "leapFurther", fn := fun _ => fun
  | [d1, d2, d3, d4] => { results := [.lit (.bool true)], args := [d1, d2, d3, d4] }
  | _ => none }
def leapFurtherRow : OpenClaim := { program := "ytdmjciklobokbaa", sum := "412e3c6954bf5080742a0ecb2f8b217985e77d23b59d4ac3ee2d3d5b8d4eebe8", func := "regulator/regulatorlaw17.LeapFurther", spec := "leapFurther", unfollowed := true, recurses := true, apart := false }
def LeapFurtherSaid : Prop := leapFurtherRow.holds Try.pinned (OpenSpec.ofChange leapFurtherSpec)

/-- ITS FALSE NEIGHBOUR: 'it returns false'. Refute it at one input. -/
def leapFurtherWrong : ChangeSpec := { name := "leapFurther", fn := fun _ => fun
  | [d1, d2, d3, d4] => { results := [.lit (.bool false)], args := [d1, d2, d3, d4] }
  | _ => none }
def LeapFurtherWrongFalsely : Prop := leapFurtherRow.holds Try.pinned (OpenSpec.ofChange leapFurtherWrong)

/-- 'regulatorlaw17.LeapOrder': WHATEVER THE INPUT: true; the input reads as it did. -/
def leapOrderSpec : ChangeSpec := { name := "leapOrder", fn := fun _ => fun
  | [d1, d2, d3, d4, d5] => { results := [.lit (.bool true)], args := [d1, d2, d3, d4, d5] }
  | _ => none }
def leapOrderRow : OpenClaim := { program := "ytdmjciklobokbaa", sum := "412e3c6954bf5080742a0ecb2f8b217985e77d23b59d4ac3ee2d3d5b8d4eebe8", func := "regulator/regulatorlaw17.LeapOrder", spec := "leapOrder", unfollowed := true, recurses := true, apart := false }
def LeapOrderSaid : Prop := leapOrderRow.holds Try.pinned (OpenSpec.ofChange leapOrderSpec)

/-- ITS FALSE NEIGHBOUR: 'it returns false'. Refute it at one input. -/
def leapOrderWrong : ChangeSpec := { name := "leapOrder", fn := fun _ => fun
  | [d1, d2, d3, d4, d5] => { results := [.lit (.bool false)], args := [d1, d2, d3, d4, d5] }
  | _ => none }
def LeapOrderWrongFalsely : Prop := leapOrderRow.holds Try.pinned (OpenSpec.ofChange leapOrderWrong)

/-- 'regulatorlaw17.LeapBeginnings': WHATEVER THE INPUT: true; the input reads as it did. -/
def leapBeginningsSpec : ChangeSpec := { name := "leapBeginnings", fn := fun _ => fun
  | [d1, d2, d3, d4] => { results := [.lit (.bool true)], args := [d1, d2, d3, d4] }
  | _ => none }
def leapBeginningsRow : OpenClaim := { program := "ytdmjciklobokbaa", sum := "412e3c6954bf5080742a0ecb2f8b217985e77d23b59d4ac3ee2d3d5b8d4eebe8", func := "regulator/regulatorlaw17.LeapBeginnings", spec := "leapBeginnings", unfollowed := true, recurses := true, apart := false }
def LeapBeginningsSaid : Prop := leapBeginningsRow.holds Try.pinned (OpenSpec.ofChange leapBeginningsSpec)

/-- ITS FALSE NEIGHBOUR: 'it returns false'. Refute it at one input. -/
def leapBeginningsWrong : ChangeSpec := { name := "leapBeginnings", fn := fun _ => fun
  | [d1, d2, d3, d4] => { results := [.lit (.bool false)], args := [d1, d2, d3, d4] }
  | _ => none }
def LeapBeginningsWrongFalsely : Prop := leapBeginningsRow.holds Try.pinned (OpenSpec.ofChange leapBeginningsWrong)

/- THE SECOND FORM. 'bulk': how many values and letters a reading holds, each counted each time it is reached (what is shared counts as often as it is met; a slice's spare places count too). A statement '..UptoSaid' is the law's where the arguments, and the package variables that the reading takes, are together of bulk at most 1048576: NARROWER than '..Said'. Prove '..Said' where nothing that the law and all that it calls make is longer than what came in: it says more and counts as full. Else prove '..UptoSaid'. A law counts once. -/
mutual
def uptoBulk {H : Type} : DataW H → Nat
  | .lit (.string bytes) => bytes.length + 1
  | .lit _ => 1
  | .nil => 1
  | .ptr d => uptoBulk d + 1
  | .slice elems spare => uptoBulkAll elems + uptoBulkAll spare + 1
  | .agg parts => uptoBulkAll parts + 1
  | .iface _ d => uptoBulk d + 1
  | .map entries => uptoBulkEntries entries + 1
  | .held _ => 1
def uptoBulkAll {H : Type} : List (DataW H) → Nat
  | [] => 0
  | d :: r => uptoBulk d + uptoBulkAll r
def uptoBulkEntries {H : Type} : List (Lit × DataW H) → Nat
  | [] => 0
  | x :: r => uptoBulkEntry x + uptoBulkEntries r
def uptoBulkEntry {H : Type} : Lit × DataW H → Nat
  | (.string bytes, d) => bytes.length + uptoBulk d + 1
  | (_, d) => uptoBulk d + 1
 end
def uptoSmall : (H : Type) → List (DataW H) → Bool := fun _ ds => decide (uptoBulkAll ds ≤ 1048576)
def OpenSpec.upto (s : _root_.Go.ChangeSpec) : _root_.Go.OpenSpec := { _root_.Go.OpenSpec.ofChange s with cond := some uptoSmall }

/-- 'regulatorlaw17.LeapMatchesReference', WHERE WHAT IT READS IS OF BULK AT MOST 1048576: true; the input reads as it did. -/
def leapMatchesReferenceUptoRow : OpenClaim := { program := "ytdmjciklobokbaa", sum := "412e3c6954bf5080742a0ecb2f8b217985e77d23b59d4ac3ee2d3d5b8d4eebe8", func := "regulator/regulatorlaw17.LeapMatchesReference", spec := "leapMatchesReference", unfollowed := true, recurses := true, apart := false, narrowed := true }
def LeapMatchesReferenceUptoSaid : Prop := leapMatchesReferenceUptoRow.holds Try.pinned (OpenSpec.upto leapMatchesReferenceSpec)

/-- 'regulatorlaw17.LeapDays', WHERE WHAT IT READS IS OF BULK AT MOST 1048576: true; the input reads as it did. -/
def leapDaysUptoRow : OpenClaim := { program := "ytdmjciklobokbaa", sum := "412e3c6954bf5080742a0ecb2f8b217985e77d23b59d4ac3ee2d3d5b8d4eebe8", func := "regulator/regulatorlaw17.LeapDays", spec := "leapDays", unfollowed := true, recurses := true, apart := false, narrowed := true }
def LeapDaysUptoSaid : Prop := leapDaysUptoRow.holds Try.pinned (OpenSpec.upto leapDaysSpec)

/-- 'regulatorlaw17.LeapTimes', WHERE WHAT IT READS IS OF BULK AT MOST 1048576: true; the input reads as it did. -/
def leapTimesUptoRow : OpenClaim := { program := "ytdmjciklobokbaa", sum := "412e3c6954bf5080742a0ecb2f8b217985e77d23b59d4ac3ee2d3d5b8d4eebe8", func := "regulator/regulatorlaw17.LeapTimes", spec := "leapTimes", unfollowed := true, recurses := true, apart := false, narrowed := true }
def LeapTimesUptoSaid : Prop := leapTimesUptoRow.holds Try.pinned (OpenSpec.upto leapTimesSpec)

/-- 'regulatorlaw17.LeapOffsets', WHERE WHAT IT READS IS OF BULK AT MOST 1048576: true; the input reads as it did. -/
def leapOffsetsUptoRow : OpenClaim := { program := "ytdmjciklobokbaa", sum := "412e3c6954bf5080742a0ecb2f8b217985e77d23b59d4ac3ee2d3d5b8d4eebe8", func := "regulator/regulatorlaw17.LeapOffsets", spec := "leapOffsets", unfollowed := true, recurses := true, apart := false, narrowed := true }
def LeapOffsetsUptoSaid : Prop := leapOffsetsUptoRow.holds Try.pinned (OpenSpec.upto leapOffsetsSpec)

/-- 'regulatorlaw17.LeapFurther', WHERE WHAT IT READS IS OF BULK AT MOST 1048576: true; the input reads as it did. -/
def leapFurtherUptoRow : OpenClaim := { program := "ytdmjciklobokbaa", sum := "412e3c6954bf5080742a0ecb2f8b217985e77d23b59d4ac3ee2d3d5b8d4eebe8", func := "regulator/regulatorlaw17.LeapFurther", spec := "leapFurther", unfollowed := true, recurses := true, apart := false, narrowed := true }
def LeapFurtherUptoSaid : Prop := leapFurtherUptoRow.holds Try.pinned (OpenSpec.upto leapFurtherSpec)

/-- 'regulatorlaw17.LeapOrder', WHERE WHAT IT READS IS OF BULK AT MOST 1048576: true; the input reads as it did. -/
def leapOrderUptoRow : OpenClaim := { program := "ytdmjciklobokbaa", sum := "412e3c6954bf5080742a0ecb2f8b217985e77d23b59d4ac3ee2d3d5b8d4eebe8", func := "regulator/regulatorlaw17.LeapOrder", spec := "leapOrder", unfollowed := true, recurses := true, apart := false, narrowed := true }
def LeapOrderUptoSaid : Prop := leapOrderUptoRow.holds Try.pinned (OpenSpec.upto leapOrderSpec)

/-- 'regulatorlaw17.LeapBeginnings', WHERE WHAT IT READS IS OF BULK AT MOST 1048576: true; the input reads as it did. -/
def leapBeginningsUptoRow : OpenClaim := { program := "ytdmjciklobokbaa", sum := "412e3c6954bf5080742a0ecb2f8b217985e77d23b59d4ac3ee2d3d5b8d4eebe8", func := "regulator/regulatorlaw17.LeapBeginnings", spec := "leapBeginnings", unfollowed := true, recurses := true, apart := false, narrowed := true }
def LeapBeginningsUptoSaid : Prop := leapBeginningsUptoRow.holds Try.pinned (OpenSpec.upto leapBeginningsSpec)

end Rows
end Go.Proofs.Ytdmjciklobokbaa
