/-
  NARROWER THAN 'FOR EVERY INPUT', by the rows' own cells (each row's printed sentence says how): RecurMatchesReference: laid · RecurDays: laid · RecurCorrects: laid · RecurNothing: laid · RecurUntil: laid · RecurSeconds: laid · RecurFires: laid.
  DERIVED. THE GIVEN ROWS OF THIS SEAT. 7 by the template 'for every input the law returns true; each argument reads behind the call as it read before'; 0 by the template 'total and deterministic' (their statements: YtmicbniipbcapaaDoorTotals.lean).
  GIVEN WITH THE SEED: the statements are not yours to turn. If you find one false, say at which input.
  Laid BY PROGRAM, IN A SANDBOX (cutbox-rows.mjs): the forced cells as the released guide's own fill.sh prints them over the translation 2be07534a487cf55… (all of the seat's roots in one cut). By AI agents, Wed Nov 11 2026. No macro, syntax, notation, axiom, sorry.
-/
import Derived.Test.YtmicbniipbcapaaDoorChecked
import GoSem.Claim
import GoSem.ClaimJoined
import GoSem.ClaimMapViews
import Derived.JoinedTies
import Derived.KernelRfl
namespace Go.Proofs.YtmicbniipbcapaaDoor
/- THE CELL 'sum', in the pinned program and in every row, IS THE sha256 OF THE DUMP (.gsa) THAT YtmicbniipbcapaaDoorProg.lean LOADS. Nothing in Lean hashes anything: it is a label: what it is worth is what the hold of that sum in a sandbox is worth. -/
noncomputable def Tryd.pinned : Pinned := { name := "ytmicbniipbcapaadoor", sum := "2be07534a487cf555b410a164fb42b33bb2d8fc60d1ede71c1368ef636070288", checked := Tryd.checked }
namespace Rows
def none {H : Type} : Left H := { results := [], args := [] }

/- WHAT THE LISTED PACKAGE-LEVEL VARIABLES READ AS WHEN THE CALL BEGINS. Each datum BY PROGRAM (the guide's laid-datum.mjs) off the statement by which the dump's own 'gosem.cut.vars' lays the variable. In a bare row this is a premise. The card (YtmicbniipbcapaaDoorCards.lean) ties it to the program's text. -/
def laid_regulator_calendar_lengths {H : Type} : DataW H := .agg [.lit (.int .i64 31), .lit (.int .i64 28), .lit (.int .i64 31), .lit (.int .i64 30), .lit (.int .i64 31), .lit (.int .i64 30), .lit (.int .i64 31), .lit (.int .i64 31), .lit (.int .i64 30), .lit (.int .i64 31), .lit (.int .i64 30), .lit (.int .i64 31)]

/-- 'regulatorlaw21.RecurMatchesReference': WHATEVER THE INPUT: true; the input reads as it did. -/
def recurMatchesReferenceSpec : ChangeSpec := { name := "recurMatchesReference", fn := fun _ => fun
  | [d1, d2, d3, d4] => { results := [.lit (.bool true)], args := [d1, d2, d3, d4] }
  | _ => none }
def recurMatchesReferenceRow : OpenClaim := { program := "ytmicbniipbcapaadoor", sum := "2be07534a487cf555b410a164fb42b33bb2d8fc60d1ede71c1368ef636070288", func := "regulator/regulatorlaw21.RecurMatchesReference", spec := "recurMatchesReference", unfollowed := true, recurses := true, named := ["regulator/calendar.lengths"], plainKeys := false, apart := false, laid := [("regulator/calendar.lengths", laid_regulator_calendar_lengths)] }
def RecurMatchesReferenceSaid : Prop := recurMatchesReferenceRow.holds Tryd.pinned (OpenSpec.ofChange recurMatchesReferenceSpec)

/-- ITS FALSE NEIGHBOUR: 'it returns false'. Refute it at one input. -/
def recurMatchesReferenceWrong : ChangeSpec := { name := "recurMatchesReference", fn := fun _ => fun
  | [d1, d2, d3, d4] => { results := [.lit (.bool false)], args := [d1, d2, d3, d4] }
  | _ => none }
def RecurMatchesReferenceWrongFalsely : Prop := recurMatchesReferenceRow.holds Tryd.pinned (OpenSpec.ofChange recurMatchesReferenceWrong)

/-- 'regulatorlaw21.RecurDays': WHATEVER THE INPUT: true; the input reads as it did. -/
def recurDaysSpec : ChangeSpec := { name := "recurDays", fn := fun _ => fun
  | [d1, d2] => { results := [.lit (.bool true)], args := [d1, d2] }
  | _ => none }
def recurDaysRow : OpenClaim := { program := "ytmicbniipbcapaadoor", sum := "2be07534a487cf555b410a164fb42b33bb2d8fc60d1ede71c1368ef636070288", func := "regulator/regulatorlaw21.RecurDays", spec := "recurDays", unfollowed := true, recurses := true, named := ["regulator/calendar.lengths"], plainKeys := false, apart := false, laid := [("regulator/calendar.lengths", laid_regulator_calendar_lengths)] }
def RecurDaysSaid : Prop := recurDaysRow.holds Tryd.pinned (OpenSpec.ofChange recurDaysSpec)

/-- ITS FALSE NEIGHBOUR: 'it returns false'. Refute it at one input. -/
def recurDaysWrong : ChangeSpec := { name := "recurDays", fn := fun _ => fun
  | [d1, d2] => { results := [.lit (.bool false)], args := [d1, d2] }
  | _ => none }
def RecurDaysWrongFalsely : Prop := recurDaysRow.holds Tryd.pinned (OpenSpec.ofChange recurDaysWrong)

/-- 'regulatorlaw21.RecurCorrects': WHATEVER THE INPUT: true; the input reads as it did. -/
def recurCorrectsSpec : ChangeSpec := { name := "recurCorrects", fn := fun _ => fun
  | [d1, d2, d3, d4] => { results := [.lit (.bool true)], args := [d1, d2, d3, d4] }
  | _ => none }
def recurCorrectsRow : OpenClaim := { program := "ytmicbniipbcapaadoor", sum := "2be07534a487cf555b410a164fb42b33bb2d8fc60d1ede71c1368ef636070288", func := "regulator/regulatorlaw21.RecurCorrects", spec := "recurCorrects", unfollowed := true, recurses := true, named := ["regulator/calendar.lengths"], plainKeys := false, apart := false, laid := [("regulator/calendar.lengths", laid_regulator_calendar_lengths)] }
def RecurCorrectsSaid : Prop := recurCorrectsRow.holds Tryd.pinned (OpenSpec.ofChange recurCorrectsSpec)

/-- ITS FALSE NEIGHBOUR: 'it returns false'. Refute it at one input. -/
def recurCorrectsWrong : ChangeSpec := { name := "recurCorrects", fn := fun _ => fun
  | [d1, d2, d3, d4] => { results := [.lit (.bool false)], args := [d1, d2, d3, d4] }
  | _ => none }
def RecurCorrectsWrongFalsely : Prop := recurCorrectsRow.holds Tryd.pinned (OpenSpec.ofChange recurCorrectsWrong)

/-- 'regulatorlaw21.RecurNothing': WHATEVER THE INPUT: true; the input reads as it did. -/
def recurNothingSpec : ChangeSpec := { name := "recurNothing", fn := fun _ => fun
  | [d1, d2, d3, d4, d5] => { results := [.lit (.bool true)], args := [d1, d2, d3, d4, d5] }
  | _ => none }
def recurNothingRow : OpenClaim := { program := "ytmicbniipbcapaadoor", sum := "2be07534a487cf555b410a164fb42b33bb2d8fc60d1ede71c1368ef636070288", func := "regulator/regulatorlaw21.RecurNothing", spec := "recurNothing", unfollowed := true, recurses := true, named := ["regulator/calendar.lengths"], plainKeys := false, apart := false, laid := [("regulator/calendar.lengths", laid_regulator_calendar_lengths)] }
def RecurNothingSaid : Prop := recurNothingRow.holds Tryd.pinned (OpenSpec.ofChange recurNothingSpec)

/-- ITS FALSE NEIGHBOUR: 'it returns false'. Refute it at one input. -/
def recurNothingWrong : ChangeSpec := { name := "recurNothing", fn := fun _ => fun
  | [d1, d2, d3, d4, d5] => { results := [.lit (.bool false)], args := [d1, d2, d3, d4, d5] }
  | _ => none }
def RecurNothingWrongFalsely : Prop := recurNothingRow.holds Tryd.pinned (OpenSpec.ofChange recurNothingWrong)

/-- 'regulatorlaw21.RecurUntil': WHATEVER THE INPUT: true; the input reads as it did. -/
def recurUntilSpec : ChangeSpec := { name := "recurUntil", fn := fun _ => fun
  | [d1, d2, d3] => { results := [.lit (.bool true)], args := [d1, d2, d3] }
  | _ => none }
def recurUntilRow : OpenClaim := { program := "ytmicbniipbcapaadoor", sum := "2be07534a487cf555b410a164fb42b33bb2d8fc60d1ede71c1368ef636070288", func := "regulator/regulatorlaw21.RecurUntil", spec := "recurUntil", unfollowed := true, recurses := true, named := ["regulator/calendar.lengths"], plainKeys := false, apart := false, laid := [("regulator/calendar.lengths", laid_regulator_calendar_lengths)] }
def RecurUntilSaid : Prop := recurUntilRow.holds Tryd.pinned (OpenSpec.ofChange recurUntilSpec)

/-- ITS FALSE NEIGHBOUR: 'it returns false'. Refute it at one input. -/
def recurUntilWrong : ChangeSpec := { name := "recurUntil", fn := fun _ => fun
  | [d1, d2, d3] => { results := [.lit (.bool false)], args := [d1, d2, d3] }
  | _ => none }
def RecurUntilWrongFalsely : Prop := recurUntilRow.holds Tryd.pinned (OpenSpec.ofChange recurUntilWrong)

/-- 'regulatorlaw21.RecurSeconds': WHATEVER THE INPUT: true; the input reads as it did. -/
def recurSecondsSpec : ChangeSpec := { name := "recurSeconds", fn := fun _ => fun
  | [d1, d2, d3] => { results := [.lit (.bool true)], args := [d1, d2, d3] }
  | _ => none }
def recurSecondsRow : OpenClaim := { program := "ytmicbniipbcapaadoor", sum := "2be07534a487cf555b410a164fb42b33bb2d8fc60d1ede71c1368ef636070288", func := "regulator/regulatorlaw21.RecurSeconds", spec := "recurSeconds", unfollowed := true, recurses := true, named := ["regulator/calendar.lengths"], plainKeys := false, apart := false, laid := [("regulator/calendar.lengths", laid_regulator_calendar_lengths)] }
def RecurSecondsSaid : Prop := recurSecondsRow.holds Tryd.pinned (OpenSpec.ofChange recurSecondsSpec)

/-- ITS FALSE NEIGHBOUR: 'it returns false'. Refute it at one input. -/
def recurSecondsWrong : ChangeSpec := { name := "recurSeconds", fn := fun _ => fun
  | [d1, d2, d3] => { results := [.lit (.bool false)], args := [d1, d2, d3] }
  | _ => none }
def RecurSecondsWrongFalsely : Prop := recurSecondsRow.holds Tryd.pinned (OpenSpec.ofChange recurSecondsWrong)

/-- 'regulatorlaw21.RecurFires': WHATEVER THE INPUT: true; the input reads as it did. -/
def recurFiresSpec : ChangeSpec := { name := "recurFires", fn := fun _ => fun
  | [d1, d2] => { results := [.lit (.bool true)], args := [d1, d2] }
  | _ => none }
def recurFiresRow : OpenClaim := { program := "ytmicbniipbcapaadoor", sum := "2be07534a487cf555b410a164fb42b33bb2d8fc60d1ede71c1368ef636070288", func := "regulator/regulatorlaw21.RecurFires", spec := "recurFires", unfollowed := true, recurses := true, named := ["regulator/calendar.lengths"], plainKeys := false, apart := false, laid := [("regulator/calendar.lengths", laid_regulator_calendar_lengths)] }
def RecurFiresSaid : Prop := recurFiresRow.holds Tryd.pinned (OpenSpec.ofChange recurFiresSpec)

/-- ITS FALSE NEIGHBOUR: 'it returns false'. Refute it at one input. -/
def recurFiresWrong : ChangeSpec := { name := "recurFires", fn := fun _ => fun
  | [d1, d2] => { results := [.lit (.bool false)], args := [d1, d2] }
  | _ => none }
def RecurFiresWrongFalsely : Prop := recurFiresRow.holds Tryd.pinned (OpenSpec.ofChange recurFiresWrong)

/- THE SECOND FORM. 'bulk': how many values and letters a reading holds, each counted each time it is reached (what is shared counts as often as it is met; a slice's spare places count too). A statement '..UptoSaid' is the law's where the arguments, and the package variables that the reading takes, are together of bulk at most 1048576: NARROWER than '..Said'. Prove '..Said' where nothing that the law and all that it calls make is longer than what came in: it says more and counts as full. Else prove '..UptoSaid'. A law counts once. -/
mutual
def uptoBulk {H : Type} : DataW H → Nat
  | .lit (.string bytes) => bytes.length + 1
  | .lit _ => 1
  | .nil => 1
  | .ptr d => uptoBulk d + 1
  | .slice elems spare => uptoBulkAll elems + uptoBulkAll spare + 1
  | .agg parts => uptoBulkAll parts + 1
  | .iface _ d => uptoBulk d + 1
  | .map entries => uptoBulkEntries entries + 1
  | .held _ => 1
def uptoBulkAll {H : Type} : List (DataW H) → Nat
  | [] => 0
  | d :: r => uptoBulk d + uptoBulkAll r
def uptoBulkEntries {H : Type} : List (Lit × DataW H) → Nat
  | [] => 0
  | x :: r => uptoBulkEntry x + uptoBulkEntries r
def uptoBulkEntry {H : Type} : Lit × DataW H → Nat
  | (.string bytes, d) => bytes.length + uptoBulk d + 1
  | (_, d) => uptoBulk d + 1
 end
def uptoSmall : (H : Type) → List (DataW H) → Bool := fun _ ds => decide (uptoBulkAll ds ≤ 1048576)
def OpenSpec.upto (s : _root_.Go.ChangeSpec) : _root_.Go.OpenSpec := { _root_.Go.OpenSpec.ofChange s with cond := some uptoSmall }

/-- 'regulatorlaw21.RecurMatchesReference', WHERE WHAT IT READS IS OF BULK AT MOST 1048576: true; the input reads as it did. -/
def recurMatchesReferenceUptoRow : OpenClaim := { program := "ytmicbniipbcapaadoor", sum := "2be07534a487cf555b410a164fb42b33bb2d8fc60d1ede71c1368ef636070288", func := "regulator/regulatorlaw21.RecurMatchesReference", spec := "recurMatchesReference", unfollowed := true, recurses := true, named := ["regulator/calendar.lengths"], plainKeys := false, apart := false, laid := [("regulator/calendar.lengths", laid_regulator_calendar_lengths)], narrowed := true }
def RecurMatchesReferenceUptoSaid : Prop := recurMatchesReferenceUptoRow.holds Tryd.pinned (OpenSpec.upto recurMatchesReferenceSpec)

/-- 'regulatorlaw21.RecurDays', WHERE WHAT IT READS IS OF BULK AT MOST 1048576: true; the input reads as it did. -/
def recurDaysUptoRow : OpenClaim := { program := "ytmicbniipbcapaadoor", sum := "2be07534a487cf555b410a164fb42b33bb2d8fc60d1ede71c1368ef636070288", func := "regulator/regulatorlaw21.RecurDays", spec := "recurDays", unfollowed := true, recurses := true, named := ["regulator/calendar.lengths"], plainKeys := false, apart := false, laid := [("regulator/calendar.lengths", laid_regulator_calendar_lengths)], narrowed := true }
def RecurDaysUptoSaid : Prop := recurDaysUptoRow.holds Tryd.pinned (OpenSpec.upto recurDaysSpec)

/-- 'regulatorlaw21.RecurCorrects', WHERE WHAT IT READS IS OF BULK AT MOST 1048576: true; the input reads as it did. -/
def recurCorrectsUptoRow : OpenClaim := { program := "ytmicbniipbcapaadoor", sum := "2be07534a487cf555b410a164fb42b33bb2d8fc60d1ede71c1368ef636070288", func := "regulator/regulatorlaw21.RecurCorrects", spec := "recurCorrects", unfollowed := true, recurses := true, named := ["regulator/calendar.lengths"], plainKeys := false, apart := false, laid := [("regulator/calendar.lengths", laid_regulator_calendar_lengths)], narrowed := true }
def RecurCorrectsUptoSaid : Prop := recurCorrectsUptoRow.holds Tryd.pinned (OpenSpec.upto recurCorrectsSpec)

/-- 'regulatorlaw21.RecurNothing', WHERE WHAT IT READS IS OF BULK AT MOST 1048576: true; the input reads as it did. -/
def recurNothingUptoRow : OpenClaim := { program := "ytmicbniipbcapaadoor", sum := "2be07534a487cf555b410a164fb42b33bb2d8fc60d1ede71c1368ef636070288", func := "regulator/regulatorlaw21.RecurNothing", spec := "recurNothing", unfollowed := true, recurses := true, named := ["regulator/calendar.lengths"], plainKeys := false, apart := false, laid := [("regulator/calendar.lengths", laid_regulator_calendar_lengths)], narrowed := true }
def RecurNothingUptoSaid : Prop := recurNothingUptoRow.holds Tryd.pinned (OpenSpec.upto recurNothingSpec)

/-- 'regulatorlaw21.RecurUntil', WHERE WHAT IT READS IS OF BULK AT MOST 1048576: true; the input reads as it did. -/
def recurUntilUptoRow : OpenClaim := { program := "ytmicbniipbcapaadoor", sum := "2be07534a487cf555b410a164fb42b33bb2d8fc60d1ede71c1368ef636070288", func := "regulator/regulatorlaw21.RecurUntil", spec := "recurUntil", unfollowed := true, recurses := true, named := ["regulator/calendar.lengths"], plainKeys := false, apart := false, laid := [("regulator/calendar.lengths", laid_regulator_calendar_lengths)], narrowed := true }
def RecurUntilUptoSaid : Prop := recurUntilUptoRow.holds Tryd.pinned (OpenSpec.upto recurUntilSpec)

/-- 'regulatorlaw21.RecurSeconds', WHERE WHAT IT READS IS OF BULK AT MOST 1048576: true; the input reads as it did. -/
def recurSecondsUptoRow : OpenClaim := { program := "ytmicbniipbcapaadoor", sum := "2be07534a487cf555b410a164fb42b33bb2d8fc60d1ede71c1368ef636070288", func := "regulator/regulatorlaw21.RecurSeconds", spec := "recurSeconds", unfollowed := true, recurses := true, named := ["regulator/calendar.lengths"], plainKeys := false, apart := false, laid := [("regulator/calendar.lengths", laid_regulator_calendar_lengths)], narrowed := true }
def RecurSecondsUptoSaid : Prop := recurSecondsUptoRow.holds Tryd.pinned (OpenSpec.upto recurSecondsSpec)

/-- 'regulatorlaw21.RecurFires', WHERE WHAT IT READS IS OF BULK AT MOST 1048576: true; the input reads as it did. -/
def recurFiresUptoRow : OpenClaim := { program := "ytmicbniipbcapaadoor", sum := "2be07534a487cf555b410a164fb42b33bb2d8fc60d1ede71c1368ef636070288", func := "regulator/regulatorlaw21.RecurFires", spec := "recurFires", unfollowed := true, recurses := true, named := ["regulator/calendar.lengths"], plainKeys := false, apart := false, laid := [("regulator/calendar.lengths", laid_regulator_calendar_lengths)], narrowed := true }
def RecurFiresUptoSaid : Prop := recurFiresUptoRow.holds Tryd.pinned (OpenSpec.upto recurFiresSpec)

end Rows
end Go.Proofs.YtmicbniipbcapaaDoor
