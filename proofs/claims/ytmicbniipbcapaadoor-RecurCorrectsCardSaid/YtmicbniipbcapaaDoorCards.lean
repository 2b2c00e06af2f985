/-
  DERIVED. GIVEN WITH THE SEED: THE CARDS: each row of YtmicbniipbcapaaDoorRows.lean that lists a variable, with what it lists TIED to the program's text (the seventh form; the later family's looks); each row that meets fmt, with fmt's text TOLD by the authors' own Lean function (tested against real Go, not proved from fmt's source: count such statements apart). THE CARD IS WHAT COUNTS. Prove the row's statement (the work); the ties are given (YtmicbniipbcapaaDoorTie.lean); close each card by the builder's one call (the guide's Derived/Test/ToyasCard.lean, 'card_holds'). Laid BY PROGRAM, IN A SANDBOX (cutbox-door.mjs). By AI agents, Wed Nov 11 2026. No macro, syntax, notation, axiom, sorry.
-/
import Derived.Test.YtmicbniipbcapaaDoorRows
import GoSem.ClaimSeven
namespace Go.Proofs.YtmicbniipbcapaaDoor
namespace Rows

/-- THE TIED CARD OF 'regulatorlaw21.RecurMatchesReference'. -/
def recurMatchesReferenceCard : Claim7 := { stood := { row := recurMatchesReferenceRow, standIns := [], harness := (true, "7dbbb92a7f6477ede76a4e2b0a2148f85d8478a2607fc58c480f95656c37d9f8"), looks := false }, kinds := [], alts := [], laidByText := true, laidKinds := [.data], laidTests := true, laidLooks := .later }
def RecurMatchesReferenceCardSaid : Prop := Claim7.holds Tryd.pinned (.plain (OpenSpec.ofChange recurMatchesReferenceSpec)) recurMatchesReferenceCard

/-- THE TIED CARD OF 'regulatorlaw21.RecurDays'. -/
def recurDaysCard : Claim7 := { stood := { row := recurDaysRow, standIns := [], harness := (true, "7dbbb92a7f6477ede76a4e2b0a2148f85d8478a2607fc58c480f95656c37d9f8"), looks := false }, kinds := [], alts := [], laidByText := true, laidKinds := [.data], laidTests := true, laidLooks := .later }
def RecurDaysCardSaid : Prop := Claim7.holds Tryd.pinned (.plain (OpenSpec.ofChange recurDaysSpec)) recurDaysCard

/-- THE TIED CARD OF 'regulatorlaw21.RecurCorrects'. -/
def recurCorrectsCard : Claim7 := { stood := { row := recurCorrectsRow, standIns := [], harness := (true, "7dbbb92a7f6477ede76a4e2b0a2148f85d8478a2607fc58c480f95656c37d9f8"), looks := false }, kinds := [], alts := [], laidByText := true, laidKinds := [.data], laidTests := true, laidLooks := .later }
def RecurCorrectsCardSaid : Prop := Claim7.holds Tryd.pinned (.plain (OpenSpec.ofChange recurCorrectsSpec)) recurCorrectsCard

/-- THE TIED CARD OF 'regulatorlaw21.RecurNothing'. -/
def recurNothingCard : Claim7 := { stood := { row := recurNothingRow, standIns := [], harness := (true, "7dbbb92a7f6477ede76a4e2b0a2148f85d8478a2607fc58c480f95656c37d9f8"), looks := false }, kinds := [], alts := [], laidByText := true, laidKinds := [.data], laidTests := true, laidLooks := .later }
def RecurNothingCardSaid : Prop := Claim7.holds Tryd.pinned (.plain (OpenSpec.ofChange recurNothingSpec)) recurNothingCard

/-- THE TIED CARD OF 'regulatorlaw21.RecurUntil'. -/
def recurUntilCard : Claim7 := { stood := { row := recurUntilRow, standIns := [], harness := (true, "7dbbb92a7f6477ede76a4e2b0a2148f85d8478a2607fc58c480f95656c37d9f8"), looks := false }, kinds := [], alts := [], laidByText := true, laidKinds := [.data], laidTests := true, laidLooks := .later }
def RecurUntilCardSaid : Prop := Claim7.holds Tryd.pinned (.plain (OpenSpec.ofChange recurUntilSpec)) recurUntilCard

/-- THE TIED CARD OF 'regulatorlaw21.RecurSeconds'. -/
def recurSecondsCard : Claim7 := { stood := { row := recurSecondsRow, standIns := [], harness := (true, "7dbbb92a7f6477ede76a4e2b0a2148f85d8478a2607fc58c480f95656c37d9f8"), looks := false }, kinds := [], alts := [], laidByText := true, laidKinds := [.data], laidTests := true, laidLooks := .later }
def RecurSecondsCardSaid : Prop := Claim7.holds Tryd.pinned (.plain (OpenSpec.ofChange recurSecondsSpec)) recurSecondsCard

/-- THE TIED CARD OF 'regulatorlaw21.RecurFires'. -/
def recurFiresCard : Claim7 := { stood := { row := recurFiresRow, standIns := [], harness := (true, "7dbbb92a7f6477ede76a4e2b0a2148f85d8478a2607fc58c480f95656c37d9f8"), looks := false }, kinds := [], alts := [], laidByText := true, laidKinds := [.data], laidTests := true, laidLooks := .later }
def RecurFiresCardSaid : Prop := Claim7.holds Tryd.pinned (.plain (OpenSpec.ofChange recurFiresSpec)) recurFiresCard

/-- THE SECOND FORM's CARD OF 'regulatorlaw21.RecurMatchesReference'. -/
def recurMatchesReferenceUptoCard : Claim7 := { stood := { row := recurMatchesReferenceUptoRow, standIns := [], harness := (true, "7dbbb92a7f6477ede76a4e2b0a2148f85d8478a2607fc58c480f95656c37d9f8"), looks := false }, kinds := [], alts := [], laidByText := true, laidKinds := [.data], laidTests := true, laidLooks := .later }
def RecurMatchesReferenceUptoCardSaid : Prop := Claim7.holds Tryd.pinned (.plain (OpenSpec.upto recurMatchesReferenceSpec)) recurMatchesReferenceUptoCard

/-- THE SECOND FORM's CARD OF 'regulatorlaw21.RecurDays'. -/
def recurDaysUptoCard : Claim7 := { stood := { row := recurDaysUptoRow, standIns := [], harness := (true, "7dbbb92a7f6477ede76a4e2b0a2148f85d8478a2607fc58c480f95656c37d9f8"), looks := false }, kinds := [], alts := [], laidByText := true, laidKinds := [.data], laidTests := true, laidLooks := .later }
def RecurDaysUptoCardSaid : Prop := Claim7.holds Tryd.pinned (.plain (OpenSpec.upto recurDaysSpec)) recurDaysUptoCard

/-- THE SECOND FORM's CARD OF 'regulatorlaw21.RecurCorrects'. -/
def recurCorrectsUptoCard : Claim7 := { stood := { row := recurCorrectsUptoRow, standIns := [], harness := (true, "7dbbb92a7f6477ede76a4e2b0a2148f85d8478a2607fc58c480f95656c37d9f8"), looks := false }, kinds := [], alts := [], laidByText := true, laidKinds := [.data], laidTests := true, laidLooks := .later }
def RecurCorrectsUptoCardSaid : Prop := Claim7.holds Tryd.pinned (.plain (OpenSpec.upto recurCorrectsSpec)) recurCorrectsUptoCard

/-- THE SECOND FORM's CARD OF 'regulatorlaw21.RecurNothing'. -/
def recurNothingUptoCard : Claim7 := { stood := { row := recurNothingUptoRow, standIns := [], harness := (true, "7dbbb92a7f6477ede76a4e2b0a2148f85d8478a2607fc58c480f95656c37d9f8"), looks := false }, kinds := [], alts := [], laidByText := true, laidKinds := [.data], laidTests := true, laidLooks := .later }
def RecurNothingUptoCardSaid : Prop := Claim7.holds Tryd.pinned (.plain (OpenSpec.upto recurNothingSpec)) recurNothingUptoCard

/-- THE SECOND FORM's CARD OF 'regulatorlaw21.RecurUntil'. -/
def recurUntilUptoCard : Claim7 := { stood := { row := recurUntilUptoRow, standIns := [], harness := (true, "7dbbb92a7f6477ede76a4e2b0a2148f85d8478a2607fc58c480f95656c37d9f8"), looks := false }, kinds := [], alts := [], laidByText := true, laidKinds := [.data], laidTests := true, laidLooks := .later }
def RecurUntilUptoCardSaid : Prop := Claim7.holds Tryd.pinned (.plain (OpenSpec.upto recurUntilSpec)) recurUntilUptoCard

/-- THE SECOND FORM's CARD OF 'regulatorlaw21.RecurSeconds'. -/
def recurSecondsUptoCard : Claim7 := { stood := { row := recurSecondsUptoRow, standIns := [], harness := (true, "7dbbb92a7f6477ede76a4e2b0a2148f85d8478a2607fc58c480f95656c37d9f8"), looks := false }, kinds := [], alts := [], laidByText := true, laidKinds := [.data], laidTests := true, laidLooks := .later }
def RecurSecondsUptoCardSaid : Prop := Claim7.holds Tryd.pinned (.plain (OpenSpec.upto recurSecondsSpec)) recurSecondsUptoCard

/-- THE SECOND FORM's CARD OF 'regulatorlaw21.RecurFires'. -/
def recurFiresUptoCard : Claim7 := { stood := { row := recurFiresUptoRow, standIns := [], harness := (true, "7dbbb92a7f6477ede76a4e2b0a2148f85d8478a2607fc58c480f95656c37d9f8"), looks := false }, kinds := [], alts := [], laidByText := true, laidKinds := [.data], laidTests := true, laidLooks := .later }
def RecurFiresUptoCardSaid : Prop := Claim7.holds Tryd.pinned (.plain (OpenSpec.upto recurFiresSpec)) recurFiresUptoCard
end Rows
end Go.Proofs.YtmicbniipbcapaaDoor
