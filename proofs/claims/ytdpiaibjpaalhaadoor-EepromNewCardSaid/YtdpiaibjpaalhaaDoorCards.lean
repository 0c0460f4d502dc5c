/-
  DERIVED. GIVEN WITH THE SEED: THE CARDS: each row of YtdpiaibjpaalhaaDoorRows.lean that lists a variable, with what it lists TIED to the program's text (the seventh form; the later family's looks); each row that meets fmt, with fmt's text TOLD by the authors' own Lean function (tested against real Go, not proved from fmt's source: count such statements apart). THE CARD IS WHAT COUNTS. Prove the row's statement (the work); the ties are given (YtdpiaibjpaalhaaDoorTie.lean); close each card by the builder's one call (the guide's Derived/Test/ToyasCard.lean, 'card_holds'). Laid BY PROGRAM, IN A SANDBOX (cutbox-door.mjs). By AI agents, Wed Nov 11 2026. No macro, syntax, notation, axiom, sorry.
-/
import Derived.Test.YtdpiaibjpaalhaaDoorRows
import GoSem.ClaimSeven
namespace Go.Proofs.YtdpiaibjpaalhaaDoor
namespace Rows

/-- THE TIED CARD OF 'keepsakelaw10.EepromWrites'. -/
def eepromWritesCard : Claim7 := { stood := { row := eepromWritesRow, standIns := [], harness := (true, "a94f2cf0f9691db6f62f45ef93568d4e4fb5998c6d3e27ff7a8d07c94e0d2ab8"), looks := false }, kinds := [], alts := [], laidByText := true, laidKinds := [.data], laidTests := true, laidLooks := .later }
def EepromWritesCardSaid : Prop := Claim7.holds Tryd.pinned (.plain (OpenSpec.ofChange eepromWritesSpec)) eepromWritesCard

/-- THE TIED CARD OF 'keepsakelaw10.EepromReads'. -/
def eepromReadsCard : Claim7 := { stood := { row := eepromReadsRow, standIns := [], harness := (true, "a94f2cf0f9691db6f62f45ef93568d4e4fb5998c6d3e27ff7a8d07c94e0d2ab8"), looks := false }, kinds := [], alts := [], laidByText := true, laidKinds := [.data], laidTests := true, laidLooks := .later }
def EepromReadsCardSaid : Prop := Claim7.holds Tryd.pinned (.plain (OpenSpec.ofChange eepromReadsSpec)) eepromReadsCard

/-- THE TIED CARD OF 'keepsakelaw10.EepromBusy'. -/
def eepromBusyCard : Claim7 := { stood := { row := eepromBusyRow, standIns := [], harness := (true, "a94f2cf0f9691db6f62f45ef93568d4e4fb5998c6d3e27ff7a8d07c94e0d2ab8"), looks := false }, kinds := [], alts := [], laidByText := true, laidKinds := [.data], laidTests := true, laidLooks := .later }
def EepromBusyCardSaid : Prop := Claim7.holds Tryd.pinned (.plain (OpenSpec.ofChange eepromBusySpec)) eepromBusyCard

/-- THE TIED CARD OF 'keepsakelaw10.EepromIdle'. -/
def eepromIdleCard : Claim7 := { stood := { row := eepromIdleRow, standIns := [], harness := (true, "a94f2cf0f9691db6f62f45ef93568d4e4fb5998c6d3e27ff7a8d07c94e0d2ab8"), looks := false }, kinds := [], alts := [], laidByText := true, laidKinds := [.data], laidTests := true, laidLooks := .later }
def EepromIdleCardSaid : Prop := Claim7.holds Tryd.pinned (.plain (OpenSpec.ofChange eepromIdleSpec)) eepromIdleCard

/-- THE TIED CARD OF 'keepsakelaw10.EepromPlays'. -/
def eepromPlaysCard : Claim7 := { stood := { row := eepromPlaysRow, standIns := [], harness := (true, "a94f2cf0f9691db6f62f45ef93568d4e4fb5998c6d3e27ff7a8d07c94e0d2ab8"), looks := false }, kinds := [], alts := [], laidByText := true, laidKinds := [.data], laidTests := true, laidLooks := .later }
def EepromPlaysCardSaid : Prop := Claim7.holds Tryd.pinned (.plain (OpenSpec.ofChange eepromPlaysSpec)) eepromPlaysCard

/-- THE TIED CARD OF 'keepsakelaw10.EepromNew'. -/
def eepromNewCard : Claim7 := { stood := { row := eepromNewRow, standIns := [], harness := (true, "a94f2cf0f9691db6f62f45ef93568d4e4fb5998c6d3e27ff7a8d07c94e0d2ab8"), looks := false }, kinds := [], alts := [], laidByText := true, laidKinds := [.data], laidTests := true, laidLooks := .later }
def EepromNewCardSaid : Prop := Claim7.holds Tryd.pinned (.plain (OpenSpec.ofChange eepromNewSpec)) eepromNewCard

/-- THE TIED CARD OF 'keepsakelaw10.EepromCut'. -/
def eepromCutCard : Claim7 := { stood := { row := eepromCutRow, standIns := [], harness := (true, "a94f2cf0f9691db6f62f45ef93568d4e4fb5998c6d3e27ff7a8d07c94e0d2ab8"), looks := false }, kinds := [], alts := [], laidByText := true, laidKinds := [.data], laidTests := true, laidLooks := .later }
def EepromCutCardSaid : Prop := Claim7.holds Tryd.pinned (.plain (OpenSpec.ofChange eepromCutSpec)) eepromCutCard

/-- THE SECOND FORM's CARD OF 'keepsakelaw10.EepromWrites'. -/
def eepromWritesUptoCard : Claim7 := { stood := { row := eepromWritesUptoRow, standIns := [], harness := (true, "a94f2cf0f9691db6f62f45ef93568d4e4fb5998c6d3e27ff7a8d07c94e0d2ab8"), looks := false }, kinds := [], alts := [], laidByText := true, laidKinds := [.data], laidTests := true, laidLooks := .later }
def EepromWritesUptoCardSaid : Prop := Claim7.holds Tryd.pinned (.plain (OpenSpec.upto eepromWritesSpec)) eepromWritesUptoCard

/-- THE SECOND FORM's CARD OF 'keepsakelaw10.EepromReads'. -/
def eepromReadsUptoCard : Claim7 := { stood := { row := eepromReadsUptoRow, standIns := [], harness := (true, "a94f2cf0f9691db6f62f45ef93568d4e4fb5998c6d3e27ff7a8d07c94e0d2ab8"), looks := false }, kinds := [], alts := [], laidByText := true, laidKinds := [.data], laidTests := true, laidLooks := .later }
def EepromReadsUptoCardSaid : Prop := Claim7.holds Tryd.pinned (.plain (OpenSpec.upto eepromReadsSpec)) eepromReadsUptoCard

/-- THE SECOND FORM's CARD OF 'keepsakelaw10.EepromBusy'. -/
def eepromBusyUptoCard : Claim7 := { stood := { row := eepromBusyUptoRow, standIns := [], harness := (true, "a94f2cf0f9691db6f62f45ef93568d4e4fb5998c6d3e27ff7a8d07c94e0d2ab8"), looks := false }, kinds := [], alts := [], laidByText := true, laidKinds := [.data], laidTests := true, laidLooks := .later }
def EepromBusyUptoCardSaid : Prop := Claim7.holds Tryd.pinned (.plain (OpenSpec.upto eepromBusySpec)) eepromBusyUptoCard

/-- THE SECOND FORM's CARD OF 'keepsakelaw10.EepromIdle'. -/
def eepromIdleUptoCard : Claim7 := { stood := { row := eepromIdleUptoRow, standIns := [], harness := (true, "a94f2cf0f9691db6f62f45ef93568d4e4fb5998c6d3e27ff7a8d07c94e0d2ab8"), looks := false }, kinds := [], alts := [], laidByText := true, laidKinds := [.data], laidTests := true, laidLooks := .later }
def EepromIdleUptoCardSaid : Prop := Claim7.holds Tryd.pinned (.plain (OpenSpec.upto eepromIdleSpec)) eepromIdleUptoCard

/-- THE SECOND FORM's CARD OF 'keepsakelaw10.EepromPlays'. -/
def eepromPlaysUptoCard : Claim7 := { stood := { row := eepromPlaysUptoRow, standIns := [], harness := (true, "a94f2cf0f9691db6f62f45ef93568d4e4fb5998c6d3e27ff7a8d07c94e0d2ab8"), looks := false }, kinds := [], alts := [], laidByText := true, laidKinds := [.data], laidTests := true, laidLooks := .later }
def EepromPlaysUptoCardSaid : Prop := Claim7.holds Tryd.pinned (.plain (OpenSpec.upto eepromPlaysSpec)) eepromPlaysUptoCard

/-- THE SECOND FORM's CARD OF 'keepsakelaw10.EepromNew'. -/
def eepromNewUptoCard : Claim7 := { stood := { row := eepromNewUptoRow, standIns := [], harness := (true, "a94f2cf0f9691db6f62f45ef93568d4e4fb5998c6d3e27ff7a8d07c94e0d2ab8"), looks := false }, kinds := [], alts := [], laidByText := true, laidKinds := [.data], laidTests := true, laidLooks := .later }
def EepromNewUptoCardSaid : Prop := Claim7.holds Tryd.pinned (.plain (OpenSpec.upto eepromNewSpec)) eepromNewUptoCard

/-- THE SECOND FORM's CARD OF 'keepsakelaw10.EepromCut'. -/
def eepromCutUptoCard : Claim7 := { stood := { row := eepromCutUptoRow, standIns := [], harness := (true, "a94f2cf0f9691db6f62f45ef93568d4e4fb5998c6d3e27ff7a8d07c94e0d2ab8"), looks := false }, kinds := [], alts := [], laidByText := true, laidKinds := [.data], laidTests := true, laidLooks := .later }
def EepromCutUptoCardSaid : Prop := Claim7.holds Tryd.pinned (.plain (OpenSpec.upto eepromCutSpec)) eepromCutUptoCard
end Rows
end Go.Proofs.YtdpiaibjpaalhaaDoor
