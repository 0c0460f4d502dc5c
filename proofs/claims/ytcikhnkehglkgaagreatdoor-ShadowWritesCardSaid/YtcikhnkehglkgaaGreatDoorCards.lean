/-
  DERIVED. GIVEN WITH THE SEED: THE CARDS: each row of YtcikhnkehglkgaaGreatDoorRows.lean that lists a variable, with what it lists TIED to the program's text (the seventh form; the later family's looks); each row that meets fmt, with fmt's text TOLD by the authors' own Lean function (tested against real Go, not proved from fmt's source: count such statements apart). THE CARD IS WHAT COUNTS. Prove the row's statement (the work); the ties are given (YtcikhnkehglkgaaGreatDoorTie.lean); close each card by the builder's one call (the guide's Derived/Test/ToyasCard.lean, 'card_holds'). Laid BY PROGRAM, IN A SANDBOX (cutbox-door.mjs). By AI agents, Wed Nov 11 2026. No macro, syntax, notation, axiom, sorry.
-/
import Derived.Test.YtcikhnkehglkgaaGreatDoorRows
import GoSem.ClaimSeven
namespace Go.Proofs.YtcikhnkehglkgaaGreatDoor
namespace Rows

/-- THE TIED CARD OF 'keepsakelaw07.ShadowTurns'. -/
def shadowTurnsCard : Claim7 := { stood := { row := shadowTurnsRow, standIns := [], harness := (true, "3060bd021600b01cc4710b6fb5921e41f3a3f8bcfe86f989fb2397a30ac0521e"), looks := true }, kinds := [], alts := [], laidByText := true, laidKinds := [.data], laidTests := true, laidLooks := .later }
def ShadowTurnsCardSaid : Prop := Claim7.holds Tryz.pinned (.plain (OpenSpec.ofChange shadowTurnsSpec)) shadowTurnsCard

/-- THE TIED CARD OF 'keepsakelaw07.ShadowStale'. -/
def shadowStaleCard : Claim7 := { stood := { row := shadowStaleRow, standIns := [], harness := (true, "3060bd021600b01cc4710b6fb5921e41f3a3f8bcfe86f989fb2397a30ac0521e"), looks := true }, kinds := [], alts := [], laidByText := true, laidKinds := [.data], laidTests := true, laidLooks := .later }
def ShadowStaleCardSaid : Prop := Claim7.holds Tryz.pinned (.plain (OpenSpec.ofChange shadowStaleSpec)) shadowStaleCard

/-- THE TIED CARD OF 'keepsakelaw07.ShadowWrites'. -/
def shadowWritesCard : Claim7 := { stood := { row := shadowWritesRow, standIns := [], harness := (true, "3060bd021600b01cc4710b6fb5921e41f3a3f8bcfe86f989fb2397a30ac0521e"), looks := true }, kinds := [], alts := [], laidByText := true, laidKinds := [.data], laidTests := true, laidLooks := .later }
def ShadowWritesCardSaid : Prop := Claim7.holds Tryz.pinned (.plain (OpenSpec.ofChange shadowWritesSpec)) shadowWritesCard

/-- THE TIED CARD OF 'keepsakelaw07.ShadowFormat'. -/
def shadowFormatCard : Claim7 := { stood := { row := shadowFormatRow, standIns := [], harness := (true, "3060bd021600b01cc4710b6fb5921e41f3a3f8bcfe86f989fb2397a30ac0521e"), looks := true }, kinds := [], alts := [], laidByText := true, laidKinds := [.data], laidTests := true, laidLooks := .later }
def ShadowFormatCardSaid : Prop := Claim7.holds Tryz.pinned (.plain (OpenSpec.ofChange shadowFormatSpec)) shadowFormatCard

/-- THE TIED CARD OF 'keepsakelaw07.ShadowCrashes'. -/
def shadowCrashesCard : Claim7 := { stood := { row := shadowCrashesRow, standIns := [], harness := (true, "3060bd021600b01cc4710b6fb5921e41f3a3f8bcfe86f989fb2397a30ac0521e"), looks := true }, kinds := [], alts := [], laidByText := true, laidKinds := [.data], laidTests := true, laidLooks := .later }
def ShadowCrashesCardSaid : Prop := Claim7.holds Tryz.pinned (.plain (OpenSpec.ofChange shadowCrashesSpec)) shadowCrashesCard

/-- THE TIED CARD OF 'keepsakelaw07.ShadowPlays'. -/
def shadowPlaysCard : Claim7 := { stood := { row := shadowPlaysRow, standIns := [], harness := (true, "3060bd021600b01cc4710b6fb5921e41f3a3f8bcfe86f989fb2397a30ac0521e"), looks := true }, kinds := [], alts := [], laidByText := true, laidKinds := [.data], laidTests := true, laidLooks := .later }
def ShadowPlaysCardSaid : Prop := Claim7.holds Tryz.pinned (.plain (OpenSpec.ofChange shadowPlaysSpec)) shadowPlaysCard

/-- THE TIED CARD OF 'keepsakelaw07.ShadowTwice'. -/
def shadowTwiceCard : Claim7 := { stood := { row := shadowTwiceRow, standIns := [], harness := (true, "3060bd021600b01cc4710b6fb5921e41f3a3f8bcfe86f989fb2397a30ac0521e"), looks := true }, kinds := [], alts := [], laidByText := true, laidKinds := [.data], laidTests := true, laidLooks := .later }
def ShadowTwiceCardSaid : Prop := Claim7.holds Tryz.pinned (.plain (OpenSpec.ofChange shadowTwiceSpec)) shadowTwiceCard

/-- THE SECOND FORM's CARD OF 'keepsakelaw07.ShadowTurns'. -/
def shadowTurnsUptoCard : Claim7 := { stood := { row := shadowTurnsUptoRow, standIns := [], harness := (true, "3060bd021600b01cc4710b6fb5921e41f3a3f8bcfe86f989fb2397a30ac0521e"), looks := true }, kinds := [], alts := [], laidByText := true, laidKinds := [.data], laidTests := true, laidLooks := .later }
def ShadowTurnsUptoCardSaid : Prop := Claim7.holds Tryz.pinned (.plain (OpenSpec.upto shadowTurnsSpec)) shadowTurnsUptoCard

/-- THE SECOND FORM's CARD OF 'keepsakelaw07.ShadowStale'. -/
def shadowStaleUptoCard : Claim7 := { stood := { row := shadowStaleUptoRow, standIns := [], harness := (true, "3060bd021600b01cc4710b6fb5921e41f3a3f8bcfe86f989fb2397a30ac0521e"), looks := true }, kinds := [], alts := [], laidByText := true, laidKinds := [.data], laidTests := true, laidLooks := .later }
def ShadowStaleUptoCardSaid : Prop := Claim7.holds Tryz.pinned (.plain (OpenSpec.upto shadowStaleSpec)) shadowStaleUptoCard

/-- THE SECOND FORM's CARD OF 'keepsakelaw07.ShadowWrites'. -/
def shadowWritesUptoCard : Claim7 := { stood := { row := shadowWritesUptoRow, standIns := [], harness := (true, "3060bd021600b01cc4710b6fb5921e41f3a3f8bcfe86f989fb2397a30ac0521e"), looks := true }, kinds := [], alts := [], laidByText := true, laidKinds := [.data], laidTests := true, laidLooks := .later }
def ShadowWritesUptoCardSaid : Prop := Claim7.holds Tryz.pinned (.plain (OpenSpec.upto shadowWritesSpec)) shadowWritesUptoCard

/-- THE SECOND FORM's CARD OF 'keepsakelaw07.ShadowFormat'. -/
def shadowFormatUptoCard : Claim7 := { stood := { row := shadowFormatUptoRow, standIns := [], harness := (true, "3060bd021600b01cc4710b6fb5921e41f3a3f8bcfe86f989fb2397a30ac0521e"), looks := true }, kinds := [], alts := [], laidByText := true, laidKinds := [.data], laidTests := true, laidLooks := .later }
def ShadowFormatUptoCardSaid : Prop := Claim7.holds Tryz.pinned (.plain (OpenSpec.upto shadowFormatSpec)) shadowFormatUptoCard

/-- THE SECOND FORM's CARD OF 'keepsakelaw07.ShadowCrashes'. -/
def shadowCrashesUptoCard : Claim7 := { stood := { row := shadowCrashesUptoRow, standIns := [], harness := (true, "3060bd021600b01cc4710b6fb5921e41f3a3f8bcfe86f989fb2397a30ac0521e"), looks := true }, kinds := [], alts := [], laidByText := true, laidKinds := [.data], laidTests := true, laidLooks := .later }
def ShadowCrashesUptoCardSaid : Prop := Claim7.holds Tryz.pinned (.plain (OpenSpec.upto shadowCrashesSpec)) shadowCrashesUptoCard

/-- THE SECOND FORM's CARD OF 'keepsakelaw07.ShadowPlays'. -/
def shadowPlaysUptoCard : Claim7 := { stood := { row := shadowPlaysUptoRow, standIns := [], harness := (true, "3060bd021600b01cc4710b6fb5921e41f3a3f8bcfe86f989fb2397a30ac0521e"), looks := true }, kinds := [], alts := [], laidByText := true, laidKinds := [.data], laidTests := true, laidLooks := .later }
def ShadowPlaysUptoCardSaid : Prop := Claim7.holds Tryz.pinned (.plain (OpenSpec.upto shadowPlaysSpec)) shadowPlaysUptoCard

/-- THE SECOND FORM's CARD OF 'keepsakelaw07.ShadowTwice'. -/
def shadowTwiceUptoCard : Claim7 := { stood := { row := shadowTwiceUptoRow, standIns := [], harness := (true, "3060bd021600b01cc4710b6fb5921e41f3a3f8bcfe86f989fb2397a30ac0521e"), looks := true }, kinds := [], alts := [], laidByText := true, laidKinds := [.data], laidTests := true, laidLooks := .later }
def ShadowTwiceUptoCardSaid : Prop := Claim7.holds Tryz.pinned (.plain (OpenSpec.upto shadowTwiceSpec)) shadowTwiceUptoCard
end Rows
end Go.Proofs.YtcikhnkehglkgaaGreatDoor
