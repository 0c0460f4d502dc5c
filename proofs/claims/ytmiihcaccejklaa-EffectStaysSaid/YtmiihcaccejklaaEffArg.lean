/- PROVED: how the registers that a statement is handed read in memory. No conditions beyond those that each theorem states. -/
import Derived.Test.YtmiihcaccejklaaEff
import Derived.Test.YtmiihcaccejklaaArg
namespace Go.Proofs.Ytmiihcaccejklaa
open Go.RowKit Go.Proofs.YtmiihcaccejklaaLib
set_option linter.unusedSimpArgs false
set_option linter.unusedVariables false

theorem Regs.of {H : Type} {enc : TypeId × Value → H} {W : World} {v : Value} {cs : Array Value} (e : v = .agg cs) (h : Rds enc Try.prog W 29 v.cells.toList) : ∃ r : Regs, v = r.val ∧ r.Ok := by
  subst e
  have hc : (Value.agg cs).cells.toList = cs.toList := by simp [Value.cells]
  rw [hc] at h
  obtain ⟨hl, hf⟩ := Rds.struct Try.underlying29 h
  have c1 : Try.prog.cellsOf 5 = 1 := by kernel_rfl
  have c3 : Try.prog.cellsOf 27 = 1 := by kernel_rfl
  have c2 : Try.prog.cellsOf 29 = 6 := by kernel_rfl
  rw [c2] at hl
  obtain ⟨l⟩ := cs
  simp only [] at hl hf
  match l, hl with
  | [x0, x1, x2, x3, x4, x5], _ =>
    have g0 := hf 0 _ rfl
    have g1 := hf 1 _ rfl
    have g2 := hf 2 _ rfl
    have g3 := hf 3 _ rfl
    have g4 := hf 4 _ rfl
    have g5 := hf 5 _ rfl
    simp [c1, c3] at g0 g1 g2 g3 g4 g5
    obtain ⟨a, ea, wa⟩ := Rds.int Try.underlying5 g0
    obtain ⟨b, eb, wb⟩ := Rds.int Try.underlying5 g1
    obtain ⟨c, ec, wc⟩ := Rds.int Try.underlying5 g2
    obtain ⟨d, ed, wd⟩ := Rds.int Try.underlying5 g3
    obtain ⟨f, ef, wf⟩ := Rds.int Try.underlying5 g4
    obtain ⟨g, eg, wg⟩ := Rds.int Try.underlying27 g5
    cases ea; cases eb; cases ec; cases ed; cases ef; cases eg
    exact ⟨⟨a, b, c, d, f, g⟩, rfl, wf_u8 wa, wf_u8 wb, wf_u8 wc, wf_u8 wd, wf_u8 wf, wf_u16 wg⟩

end Go.Proofs.Ytmiihcaccejklaa
