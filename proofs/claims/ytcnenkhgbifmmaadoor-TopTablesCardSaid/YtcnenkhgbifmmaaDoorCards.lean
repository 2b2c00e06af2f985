/-
  DERIVED. GIVEN WITH THE SEED: THE CARDS: each row of YtcnenkhgbifmmaaDoorRows.lean that lists a variable, with what it lists TIED to the program's text (the seventh form; the later family's looks); each row that meets fmt, with fmt's text TOLD by the authors' own Lean function (tested against real Go, not proved from fmt's source: count such statements apart). THE CARD IS WHAT COUNTS. Prove the row's statement (the work); the ties are given (YtcnenkhgbifmmaaDoorTie.lean); close each card by the builder's one call (the guide's Derived/Test/ToyasCard.lean, 'card_holds'). Laid BY PROGRAM, IN A SANDBOX (cutbox-door.mjs). By AI agents, Wed Nov 11 2026. No macro, syntax, notation, axiom, sorry.
-/
import Derived.Test.YtcnenkhgbifmmaaDoorRows
import GoSem.ClaimSeven
namespace Go.Proofs.YtcnenkhgbifmmaaDoor
namespace Rows

/-- THE TIED CARD OF 'regulatortop.TopCorrected'. -/
def topCorrectedCard : Claim7 := { stood := { row := topCorrectedRow, standIns := [], harness := (true, "bd542c025ad16d39f9f1825358079e7b4525271b385705dd72516c208276f020"), looks := false }, kinds := [], alts := [], laidByText := true, laidKinds := [.data], laidTests := true, laidLooks := .later }
def TopCorrectedCardSaid : Prop := Claim7.holds Tryd.pinned (.plain (OpenSpec.ofChange topCorrectedSpec)) topCorrectedCard

/-- THE TIED CARD OF 'regulatortop.TopTables'. -/
def topTablesCard : Claim7 := { stood := { row := topTablesRow, standIns := [], harness := (true, "bd542c025ad16d39f9f1825358079e7b4525271b385705dd72516c208276f020"), looks := false }, kinds := [], alts := [], laidByText := true, laidKinds := [.data], laidTests := true, laidLooks := .later }
def TopTablesCardSaid : Prop := Claim7.holds Tryd.pinned (.plain (OpenSpec.ofChange topTablesSpec)) topTablesCard

/-- THE TIED CARD OF 'regulatortop.TopSmeared'. -/
def topSmearedCard : Claim7 := { stood := { row := topSmearedRow, standIns := [], harness := (true, "bd542c025ad16d39f9f1825358079e7b4525271b385705dd72516c208276f020"), looks := false }, kinds := [], alts := [], laidByText := true, laidKinds := [.data], laidTests := true, laidLooks := .later }
def TopSmearedCardSaid : Prop := Claim7.holds Tryd.pinned (.plain (OpenSpec.ofChange topSmearedSpec)) topSmearedCard

/-- THE SECOND FORM's CARD OF 'regulatortop.TopCorrected'. -/
def topCorrectedUptoCard : Claim7 := { stood := { row := topCorrectedUptoRow, standIns := [], harness := (true, "bd542c025ad16d39f9f1825358079e7b4525271b385705dd72516c208276f020"), looks := false }, kinds := [], alts := [], laidByText := true, laidKinds := [.data], laidTests := true, laidLooks := .later }
def TopCorrectedUptoCardSaid : Prop := Claim7.holds Tryd.pinned (.plain (OpenSpec.upto topCorrectedSpec)) topCorrectedUptoCard

/-- THE SECOND FORM's CARD OF 'regulatortop.TopTables'. -/
def topTablesUptoCard : Claim7 := { stood := { row := topTablesUptoRow, standIns := [], harness := (true, "bd542c025ad16d39f9f1825358079e7b4525271b385705dd72516c208276f020"), looks := false }, kinds := [], alts := [], laidByText := true, laidKinds := [.data], laidTests := true, laidLooks := .later }
def TopTablesUptoCardSaid : Prop := Claim7.holds Tryd.pinned (.plain (OpenSpec.upto topTablesSpec)) topTablesUptoCard

/-- THE SECOND FORM's CARD OF 'regulatortop.TopSmeared'. -/
def topSmearedUptoCard : Claim7 := { stood := { row := topSmearedUptoRow, standIns := [], harness := (true, "bd542c025ad16d39f9f1825358079e7b4525271b385705dd72516c208276f020"), looks := false }, kinds := [], alts := [], laidByText := true, laidKinds := [.data], laidTests := true, laidLooks := .later }
def TopSmearedUptoCardSaid : Prop := Claim7.holds Tryd.pinned (.plain (OpenSpec.upto topSmearedSpec)) topSmearedUptoCard
end Rows
end Go.Proofs.YtcnenkhgbifmmaaDoor
