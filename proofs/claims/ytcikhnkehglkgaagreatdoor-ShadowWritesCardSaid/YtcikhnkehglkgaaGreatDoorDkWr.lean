/- PROVED: the contract of disk.Disk.Writes. No conditions beyond those that each theorem states. -/
import Derived.Test.YtcikhnkehglkgaaGreatDoorDkC
namespace Go.Proofs.YtcikhnkehglkgaaGreatDoor
open Go.RowKit Go.Proofs.YtcikhnkehglkgaaGreatDoorLib Go.WideElems Go.Maps
set_option linter.unusedSimpArgs false
set_option linter.unusedVariables false

theorem writes_any (w : World) (b : Nat) (F : List Nat) (s : DiskS) (h : DiskAt w b F s) :
    Calls Tryz.prog 27 #[.pointer (some ⟨b, 0, none⟩)] w (Post w [] fun v W => v = .int .i64 s.writes) := by
  obtain ⟨vl, bc, bp, nc, Dc, np, Dp, h⟩ := h
  have c0 := h.blk.cell 5 rfl
  clear h
  go_enter Tryz.func27, Tryz.ntmps27
  go_wp2
  go_ret
  exact ⟨_, rfl, rfl, Kept.refl _ _⟩
end Go.Proofs.YtcikhnkehglkgaaGreatDoor
