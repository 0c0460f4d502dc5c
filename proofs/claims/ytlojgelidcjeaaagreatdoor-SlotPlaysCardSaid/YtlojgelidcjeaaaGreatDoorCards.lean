/-
  DERIVED. GIVEN WITH THE SEED: THE CARDS: each row of YtlojgelidcjeaaaGreatDoorRows.lean that lists a variable, with what it lists TIED to the program's text (the seventh form; the later family's looks); each row that meets fmt, with fmt's text TOLD by the authors' own Lean function (tested against real Go, not proved from fmt's source: count such statements apart). THE CARD IS WHAT COUNTS. Prove the row's statement (the work); the ties are given (YtlojgelidcjeaaaGreatDoorTie.lean); close each card by the builder's one call (the guide's Derived/Test/ToyasCard.lean, 'card_holds'). Laid BY PROGRAM, IN A SANDBOX (cutbox-door.mjs). By AI agents, Wed Nov 11 2026. No macro, syntax, notation, axiom, sorry.
-/
import Derived.Test.YtlojgelidcjeaaaGreatDoorRows
import GoSem.ClaimSeven
namespace Go.Proofs.YtlojgelidcjeaaaGreatDoor
namespace Rows

/-- THE TIED CARD OF 'keepsakelaw06.SlotPlays'. -/
def slotPlaysCard : Claim7 := { stood := { row := slotPlaysRow, standIns := [], harness := (true, "40c9183c3ada756e9ac9ed12d08c21003b4eebb504b784773b736d951fb5db80"), looks := false }, kinds := [], alts := [], laidByText := true, laidKinds := [.data], laidTests := true, laidLooks := .later }
def SlotPlaysCardSaid : Prop := Claim7.holds Tryz.pinned (.plain (OpenSpec.ofChange slotPlaysSpec)) slotPlaysCard

/-- THE SECOND FORM's CARD OF 'keepsakelaw06.SlotPlays'. -/
def slotPlaysUptoCard : Claim7 := { stood := { row := slotPlaysUptoRow, standIns := [], harness := (true, "40c9183c3ada756e9ac9ed12d08c21003b4eebb504b784773b736d951fb5db80"), looks := false }, kinds := [], alts := [], laidByText := true, laidKinds := [.data], laidTests := true, laidLooks := .later }
def SlotPlaysUptoCardSaid : Prop := Claim7.holds Tryz.pinned (.plain (OpenSpec.upto slotPlaysSpec)) slotPlaysUptoCard
end Rows
end Go.Proofs.YtlojgelidcjeaaaGreatDoor
