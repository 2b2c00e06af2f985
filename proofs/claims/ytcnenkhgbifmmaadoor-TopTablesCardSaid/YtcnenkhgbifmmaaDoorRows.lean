/-
  NARROWER THAN 'FOR EVERY INPUT', by the rows' own cells (each row's printed sentence says how): TopCorrected: laid · TopTables: laid · TopSmeared: laid.
  DERIVED. THE GIVEN ROWS OF THIS SEAT. 3 by the template 'for every input the law returns true; each argument reads behind the call as it read before'; 0 by the template 'total and deterministic' (their statements: YtcnenkhgbifmmaaDoorTotals.lean).
  GIVEN WITH THE SEED: the statements are not yours to turn. If you find one false, say at which input.
  Laid BY PROGRAM, IN A SANDBOX (cutbox-rows.mjs): the forced cells as the released guide's own fill.sh prints them over the translation 1a26ec894048ece0… (all of the seat's roots in one cut). By AI agents, Wed Nov 11 2026. No macro, syntax, notation, axiom, sorry.
-/
import Derived.Test.YtcnenkhgbifmmaaDoorChecked
import GoSem.Claim
import GoSem.ClaimJoined
import GoSem.ClaimMapViews
import Derived.JoinedTies
import Derived.KernelRfl
namespace Go.Proofs.YtcnenkhgbifmmaaDoor
/- THE CELL 'sum', in the pinned program and in every row, IS THE sha256 OF THE DUMP (.gsa) THAT YtcnenkhgbifmmaaDoorProg.lean LOADS. Nothing in Lean hashes anything: it is a label: what it is worth is what the hold of that sum in a sandbox is worth. -/
noncomputable def Tryd.pinned : Pinned := { name := "ytcnenkhgbifmmaadoor", sum := "1a26ec894048ece08bfc76d5db64f2025458ec8ed39ea13f471d8c2de35c29f1", checked := Tryd.checked }
namespace Rows
def none {H : Type} : Left H := { results := [], args := [] }

/- WHAT THE LISTED PACKAGE-LEVEL VARIABLES READ AS WHEN THE CALL BEGINS. Each datum BY PROGRAM (the guide's laid-datum.mjs) off the statement by which the dump's own 'gosem.cut.vars' lays the variable. In a bare row this is a premise. The card (YtcnenkhgbifmmaaDoorCards.lean) ties it to the program's text. -/
def laid_regulator_calendar_lengths {H : Type} : DataW H := .agg [.lit (.int .i64 31), .lit (.int .i64 28), .lit (.int .i64 31), .lit (.int .i64 30), .lit (.int .i64 31), .lit (.int .i64 30), .lit (.int .i64 31), .lit (.int .i64 31), .lit (.int .i64 30), .lit (.int .i64 31), .lit (.int .i64 30), .lit (.int .i64 31)]

/-- 'regulatortop.TopCorrected': WHATEVER THE INPUT: true; the input reads as it did. -/
def topCorrectedSpec : ChangeSpec := { name := "topCorrected", fn := fun _ => fun
  | [d1, d2, d3, d4, d5] => { results := [.lit (.bool true)], args := [d1, d2, d3, d4, d5] }
  | _ => none }
def topCorrectedRow : OpenClaim := { program := "ytcnenkhgbifmmaadoor", sum := "1a26ec894048ece08bfc76d5db64f2025458ec8ed39ea13f471d8c2de35c29f1", func := "regulator/regulatortop.TopCorrected", spec := "topCorrected", unfollowed := true, recurses := true, named := ["regulator/calendar.lengths"], plainKeys := false, apart := false, laid := [("regulator/calendar.lengths", laid_regulator_calendar_lengths)] }
def TopCorrectedSaid : Prop := topCorrectedRow.holds Tryd.pinned (OpenSpec.ofChange topCorrectedSpec)

/-- ITS FALSE NEIGHBOUR: 'it returns false'. Refute it at one input. -/
def topCorrectedWrong : ChangeSpec := { name := "topCorrected", fn := fun _ => fun
  | [d1, d2, d3, d4, d5] => { results := [.lit (.bool false)], args := [d1, d2, d3, d4, d5] }
  | _ => none }
def TopCorrectedWrongFalsely : Prop := topCorrectedRow.holds Tryd.pinned (OpenSpec.ofChange topCorrectedWrong)

/-- 'regulatortop.TopTables': WHATEVER THE INPUT: true; the input reads as it did. -/
def topTablesSpec : ChangeSpec := { name := "topTables", fn := fun _ => fun
  | [d1, d2, d3, d4] => { results := [.lit (.bool true)], args := [d1, d2, d3, d4] }
  | _ => none }
def topTablesRow : OpenClaim := { program := "ytcnenkhgbifmmaadoor", sum := "1a26ec894048ece08bfc76d5db64f2025458ec8ed39ea13f471d8c2de35c29f1", func := "regulator/regulatortop.TopTables", spec := "topTables", unfollowed := true, recurses := true, named := ["regulator/calendar.lengths"], plainKeys := false, apart := false, laid := [("regulator/calendar.lengths", laid_regulator_calendar_lengths)] }
def TopTablesSaid : Prop := topTablesRow.holds Tryd.pinned (OpenSpec.ofChange topTablesSpec)

/-- ITS FALSE NEIGHBOUR: 'it returns false'. Refute it at one input. -/
def topTablesWrong : ChangeSpec := { name := "topTables", fn := fun _ => fun
  | [d1, d2, d3, d4] => { results := [.lit (.bool false)], args := [d1, d2, d3, d4] }
  | _ => none }
def TopTablesWrongFalsely : Prop := topTablesRow.holds Tryd.pinned (OpenSpec.ofChange topTablesWrong)

/-- 'regulatortop.TopSmeared': WHATEVER THE INPUT: true; the input reads as it did. -/
def topSmearedSpec : ChangeSpec := { name := "topSmeared", fn := fun _ => fun
  | [d1, d2, d3] => { results := [.lit (.bool true)], args := [d1, d2, d3] }
  | _ => none }
def topSmearedRow : OpenClaim := { program := "ytcnenkhgbifmmaadoor", sum := "1a26ec894048ece08bfc76d5db64f2025458ec8ed39ea13f471d8c2de35c29f1", func := "regulator/regulatortop.TopSmeared", spec := "topSmeared", unfollowed := true, recurses := true, named := ["regulator/calendar.lengths"], plainKeys := false, apart := false, laid := [("regulator/calendar.lengths", laid_regulator_calendar_lengths)] }
def TopSmearedSaid : Prop := topSmearedRow.holds Tryd.pinned (OpenSpec.ofChange topSmearedSpec)

/-- ITS FALSE NEIGHBOUR: 'it returns false'. Refute it at one input. -/
def topSmearedWrong : ChangeSpec := { name := "topSmeared", fn := fun _ => fun
  | [d1, d2, d3] => { results := [.lit (.bool false)], args := [d1, d2, d3] }
  | _ => none }
def TopSmearedWrongFalsely : Prop := topSmearedRow.holds Tryd.pinned (OpenSpec.ofChange topSmearedWrong)

/- THE SECOND FORM. 'bulk': how many values and letters a reading holds, each counted each time it is reached (what is shared counts as often as it is met; a slice's spare places count too). A statement '..UptoSaid' is the law's where the arguments, and the package variables that the reading takes, are together of bulk at most 1048576: NARROWER than '..Said'. Prove '..Said' where nothing that the law and all that it calls make is longer than what came in: it says more and counts as full. Else prove '..UptoSaid'. A law counts once. -/
mutual
def uptoBulk {H : Type} : DataW H → Nat
  | .lit (.string bytes) => bytes.length + 1
  | .lit _ => 1
  | .nil => 1
  | .ptr d => uptoBulk d + 1
  | .slice elems spare => uptoBulkAll elems + uptoBulkAll spare + 1
  | .agg parts => uptoBulkAll parts + 1
  | .iface _ d => uptoBulk d + 1
  | .map entries => uptoBulkEntries entries + 1
  | .held _ => 1
def uptoBulkAll {H : Type} : List (DataW H) → Nat
  | [] => 0
  | d :: r => uptoBulk d + uptoBulkAll r
def uptoBulkEntries {H : Type} : List (Lit × DataW H) → Nat
  | [] => 0
  | x :: r => uptoBulkEntry x + uptoBulkEntries r
def uptoBulkEntry {H : Type} : Lit × DataW H → Nat
  | (.string bytes, d) => bytes.length + uptoBulk d + 1
  | (_, d) => uptoBulk d + 1
 end
def uptoSmall : (H : Type) → List (DataW H) → Bool := fun _ ds => decide (uptoBulkAll ds ≤ 1048576)
def OpenSpec.upto (s : _root_.Go.ChangeSpec) : _root_.Go.OpenSpec := { _root_.Go.OpenSpec.ofChange s with cond := some uptoSmall }

/-- 'regulatortop.TopCorrected', WHERE WHAT IT READS IS OF BULK AT MOST 1048576: true; the input reads as it did. -/
def topCorrectedUptoRow : OpenClaim := { program := "ytcnenkhgbifmmaadoor", sum := "1a26ec894048ece08bfc76d5db64f2025458ec8ed39ea13f471d8c2de35c29f1", func := "regulator/regulatortop.TopCorrected", spec := "topCorrected", unfollowed := true, recurses := true, named := ["regulator/calendar.lengths"], plainKeys := false, apart := false, laid := [("regulator/calendar.lengths", laid_regulator_calendar_lengths)], narrowed := true }
def TopCorrectedUptoSaid : Prop := topCorrectedUptoRow.holds Tryd.pinned (OpenSpec.upto topCorrectedSpec)

/-- 'regulatortop.TopTables', WHERE WHAT IT READS IS OF BULK AT MOST 1048576: true; the input reads as it did. -/
def topTablesUptoRow : OpenClaim := { program := "ytcnenkhgbifmmaadoor", sum := "1a26ec894048ece08bfc76d5db64f2025458ec8ed39ea13f471d8c2de35c29f1", func := "regulator/regulatortop.TopTables", spec := "topTables", unfollowed := true, recurses := true, named := ["regulator/calendar.lengths"], plainKeys := false, apart := false, laid := [("regulator/calendar.lengths", laid_regulator_calendar_lengths)], narrowed := true }
def TopTablesUptoSaid : Prop := topTablesUptoRow.holds Tryd.pinned (OpenSpec.upto topTablesSpec)

/-- 'regulatortop.TopSmeared', WHERE WHAT IT READS IS OF BULK AT MOST 1048576: true; the input reads as it did. -/
def topSmearedUptoRow : OpenClaim := { program := "ytcnenkhgbifmmaadoor", sum := "1a26ec894048ece08bfc76d5db64f2025458ec8ed39ea13f471d8c2de35c29f1", func := "regulator/regulatortop.TopSmeared", spec := "topSmeared", unfollowed := true, recurses := true, named := ["regulator/calendar.lengths"], plainKeys := false, apart := false, laid := [("regulator/calendar.lengths", laid_regulator_calendar_lengths)], narrowed := true }
def TopSmearedUptoSaid : Prop := topSmearedUptoRow.holds Tryd.pinned (OpenSpec.upto topSmearedSpec)

end Rows
end Go.Proofs.YtcnenkhgbifmmaaDoor
