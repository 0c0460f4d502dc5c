/- PROVED: how the arguments of a statement on chips on two wires read in memory. No conditions beyond those that each theorem states. -/
import Derived.Test.YtdpiaibjpaalhaaDoorProg
import Derived.Test.YtdpiaibjpaalhaaDoorArg
namespace Go.Proofs.YtdpiaibjpaalhaaDoor
open Go.RowKit Go.Proofs.YtdpiaibjpaalhaaDoorLib
set_option linter.unusedSimpArgs false
set_option linter.unusedVariables false

set_option maxRecDepth 100000 in
theorem K_byte {H : Type} {enc : TypeId × Value → H} {W : World} {cs : List Value} (h : Rds enc Tryd.prog W 5 cs) : ∃ x, cs.length = 1 ∧ Byte1 W cs x := by
  obtain ⟨n, rfl, wf⟩ := Rds.int Tryd.underlying5 h
  exact ⟨n, rfl, rfl, wf_u8 wf⟩
/-- cells that hold a sample -/
def Samp (_ : World) (cs : List Value) (o : Bool × Bool × Bool) : Prop := cs = [.bool o.1, .bool o.2.1, .bool o.2.2]
set_option maxRecDepth 100000 in
theorem K_samp {H : Type} {enc : TypeId × Value → H} {W : World} {cs : List Value} (h : Rds enc Tryd.prog W 48 cs) : ∃ x, cs.length = 3 ∧ Samp W cs x := by
  obtain ⟨hl, hf⟩ := Rds.struct Tryd.underlying48 h
  have c1 : Tryd.prog.cellsOf 4 = 1 := by kernel_rfl
  have c2 : Tryd.prog.cellsOf 48 = 3 := by kernel_rfl
  rw [c2] at hl
  match cs, hl with
  | [x0, x1, x2], _ =>
    have g0 := hf 0 _ rfl
    have g1 := hf 1 _ rfl
    have g2 := hf 2 _ rfl
    simp [c1] at g0 g1 g2
    obtain ⟨a, ea⟩ := Rds.bool Tryd.underlying4 g0
    obtain ⟨b, eb⟩ := Rds.bool Tryd.underlying4 g1
    obtain ⟨c, ec⟩ := Rds.bool Tryd.underlying4 g2
    cases ea; cases eb; cases ec
    exact ⟨(a, b, c), rfl, rfl⟩
end Go.Proofs.YtdpiaibjpaalhaaDoor
