/- PROVED: the contracts of the helpers of package effect. No conditions beyond those that each theorem states. -/
import Derived.Test.YtmiihcaccejklaaAlu2
namespace Go.Proofs.Ytmiihcaccejklaa
open Go.RowKit Go.Proofs.YtmiihcaccejklaaLib
set_option linter.unusedSimpArgs false
set_option linter.unusedVariables false

/-- a processor's registers -/
structure Regs where
  a : Int
  x : Int
  y : Int
  s : Int
  p : Int
  pc : Int
def Regs.val (r : Regs) : Value := .agg #[.int .u8 r.a, .int .u8 r.x, .int .u8 r.y, .int .u8 r.s, .int .u8 r.p, .int .u16 r.pc]
def Byte (x : Int) : Prop := 0 ≤ x ∧ x ≤ 255
structure Regs.Ok (r : Regs) : Prop where
  a : Byte r.a
  x : Byte r.x
  y : Byte r.y
  s : Byte r.s
  p : Byte r.p
  pc : 0 ≤ r.pc ∧ r.pc ≤ 65535

theorem set_any (w : World) (A B : Addr) (u : Value) (p v : Int) (hA : w.cell? A = some u) (hB : w.cell? B = some (.int .u8 p)) (fA : w.frozen? A = false) (fB : w.frozen? B = false) (hne : A ≠ B) (h0 : 0 ≤ p) (h1 : p ≤ 255) :
    Calls Try.prog 29 #[.pointer (some A), .pointer (some B), .int .u8 v] w fun e W => e = .returned (.tuple #[]) ∧ (w.setCell A (.int .u8 v)).setCell B (.int .u8 (nzM p v)) = W := by
  have d1 : (w.setCell A (.int .u8 v)).cell? B = some (.int .u8 p) := by
    rw [World.cell?_setCell_other _ _ _ _ hne]; exact hB
  have d2 : (w.setCell A (.int .u8 v)).frozen? B = false := by simpa using fB
  go_enter Try.func29, Try.ntmps29
  go_wp2_with fail
  refine (nz_any _ _ _ h0 h1).mono ?_
  rintro _ _ ⟨rfl, rfl⟩
  go_wp2_with fail
  go_end0
  exact ⟨rfl, rfl⟩

end Go.Proofs.Ytmiihcaccejklaa
