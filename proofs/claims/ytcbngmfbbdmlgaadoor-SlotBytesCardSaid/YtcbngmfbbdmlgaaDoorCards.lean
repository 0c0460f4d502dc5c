/-
  DERIVED. GIVEN WITH THE SEED: THE CARDS: each row of YtcbngmfbbdmlgaaDoorRows.lean that lists a variable, with what it lists TIED to the program's text (the seventh form; the later family's looks); each row that meets fmt, with fmt's text TOLD by the authors' own Lean function (tested against real Go, not proved from fmt's source: count such statements apart). THE CARD IS WHAT COUNTS. Prove the row's statement (the work); the ties are given (YtcbngmfbbdmlgaaDoorTie.lean); close each card by the builder's one call (the guide's Derived/Test/ToyasCard.lean, 'card_holds'). Laid BY PROGRAM, IN A SANDBOX (cutbox-door.mjs). By AI agents, Wed Nov 11 2026. No macro, syntax, notation, axiom, sorry.
-/
import Derived.Test.YtcbngmfbbdmlgaaDoorRows
import GoSem.ClaimSeven
namespace Go.Proofs.YtcbngmfbbdmlgaaDoor
namespace Rows

/-- THE TIED CARD OF 'keepsakelaw06.SlotSpans'. -/
def slotSpansCard : Claim7 := { stood := { row := slotSpansRow, standIns := [], harness := (true, "40adc3c12ab53681c6efa58d90e9706687b78ee2b5749d2a36eac08db2e4b8d4"), looks := false }, kinds := [], alts := [], laidByText := true, laidKinds := [.data], laidTests := true, laidLooks := .later }
def SlotSpansCardSaid : Prop := Claim7.holds Tryd.pinned (.plain (OpenSpec.ofChange slotSpansSpec)) slotSpansCard

/-- THE TIED CARD OF 'keepsakelaw06.SlotBytes'. -/
def slotBytesCard : Claim7 := { stood := { row := slotBytesRow, standIns := [], harness := (true, "40adc3c12ab53681c6efa58d90e9706687b78ee2b5749d2a36eac08db2e4b8d4"), looks := false }, kinds := [], alts := [], laidByText := true, laidKinds := [.data], laidTests := true, laidLooks := .later }
def SlotBytesCardSaid : Prop := Claim7.holds Tryd.pinned (.plain (OpenSpec.ofChange slotBytesSpec)) slotBytesCard

/-- THE TIED CARD OF 'keepsakelaw06.SlotStranger'. -/
def slotStrangerCard : Claim7 := { stood := { row := slotStrangerRow, standIns := [], harness := (true, "40adc3c12ab53681c6efa58d90e9706687b78ee2b5749d2a36eac08db2e4b8d4"), looks := false }, kinds := [], alts := [], laidByText := true, laidKinds := [.data], laidTests := true, laidLooks := .later }
def SlotStrangerCardSaid : Prop := Claim7.holds Tryd.pinned (.plain (OpenSpec.ofChange slotStrangerSpec)) slotStrangerCard

/-- THE TIED CARD OF 'keepsakelaw06.SlotBack'. -/
def slotBackCard : Claim7 := { stood := { row := slotBackRow, standIns := [], harness := (true, "40adc3c12ab53681c6efa58d90e9706687b78ee2b5749d2a36eac08db2e4b8d4"), looks := false }, kinds := [], alts := [], laidByText := true, laidKinds := [.data], laidTests := true, laidLooks := .later }
def SlotBackCardSaid : Prop := Claim7.holds Tryd.pinned (.plain (OpenSpec.ofChange slotBackSpec)) slotBackCard

/-- THE TIED CARD OF 'keepsakelaw06.SlotApart'. -/
def slotApartCard : Claim7 := { stood := { row := slotApartRow, standIns := [], harness := (true, "40adc3c12ab53681c6efa58d90e9706687b78ee2b5749d2a36eac08db2e4b8d4"), looks := false }, kinds := [], alts := [], laidByText := true, laidKinds := [.data], laidTests := true, laidLooks := .later }
def SlotApartCardSaid : Prop := Claim7.holds Tryd.pinned (.plain (OpenSpec.ofChange slotApartSpec)) slotApartCard

/-- THE SECOND FORM's CARD OF 'keepsakelaw06.SlotSpans'. -/
def slotSpansUptoCard : Claim7 := { stood := { row := slotSpansUptoRow, standIns := [], harness := (true, "40adc3c12ab53681c6efa58d90e9706687b78ee2b5749d2a36eac08db2e4b8d4"), looks := false }, kinds := [], alts := [], laidByText := true, laidKinds := [.data], laidTests := true, laidLooks := .later }
def SlotSpansUptoCardSaid : Prop := Claim7.holds Tryd.pinned (.plain (OpenSpec.upto slotSpansSpec)) slotSpansUptoCard

/-- THE SECOND FORM's CARD OF 'keepsakelaw06.SlotBytes'. -/
def slotBytesUptoCard : Claim7 := { stood := { row := slotBytesUptoRow, standIns := [], harness := (true, "40adc3c12ab53681c6efa58d90e9706687b78ee2b5749d2a36eac08db2e4b8d4"), looks := false }, kinds := [], alts := [], laidByText := true, laidKinds := [.data], laidTests := true, laidLooks := .later }
def SlotBytesUptoCardSaid : Prop := Claim7.holds Tryd.pinned (.plain (OpenSpec.upto slotBytesSpec)) slotBytesUptoCard

/-- THE SECOND FORM's CARD OF 'keepsakelaw06.SlotStranger'. -/
def slotStrangerUptoCard : Claim7 := { stood := { row := slotStrangerUptoRow, standIns := [], harness := (true, "40adc3c12ab53681c6efa58d90e9706687b78ee2b5749d2a36eac08db2e4b8d4"), looks := false }, kinds := [], alts := [], laidByText := true, laidKinds := [.data], laidTests := true, laidLooks := .later }
def SlotStrangerUptoCardSaid : Prop := Claim7.holds Tryd.pinned (.plain (OpenSpec.upto slotStrangerSpec)) slotStrangerUptoCard

/-- THE SECOND FORM's CARD OF 'keepsakelaw06.SlotBack'. -/
def slotBackUptoCard : Claim7 := { stood := { row := slotBackUptoRow, standIns := [], harness := (true, "40adc3c12ab53681c6efa58d90e9706687b78ee2b5749d2a36eac08db2e4b8d4"), looks := false }, kinds := [], alts := [], laidByText := true, laidKinds := [.data], laidTests := true, laidLooks := .later }
def SlotBackUptoCardSaid : Prop := Claim7.holds Tryd.pinned (.plain (OpenSpec.upto slotBackSpec)) slotBackUptoCard

/-- THE SECOND FORM's CARD OF 'keepsakelaw06.SlotApart'. -/
def slotApartUptoCard : Claim7 := { stood := { row := slotApartUptoRow, standIns := [], harness := (true, "40adc3c12ab53681c6efa58d90e9706687b78ee2b5749d2a36eac08db2e4b8d4"), looks := false }, kinds := [], alts := [], laidByText := true, laidKinds := [.data], laidTests := true, laidLooks := .later }
def SlotApartUptoCardSaid : Prop := Claim7.holds Tryd.pinned (.plain (OpenSpec.upto slotApartSpec)) slotApartUptoCard
end Rows
end Go.Proofs.YtcbngmfbbdmlgaaDoor
