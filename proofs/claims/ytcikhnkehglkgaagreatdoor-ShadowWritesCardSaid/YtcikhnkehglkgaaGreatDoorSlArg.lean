/- PROVED: how the arguments of a statement on slots read in memory. No conditions beyond those that each theorem states. -/
import Derived.Test.YtcikhnkehglkgaaGreatDoorProg
import Derived.Test.YtcikhnkehglkgaaGreatDoorArg
namespace Go.Proofs.YtcikhnkehglkgaaGreatDoor
open Go.RowKit Go.Proofs.YtcikhnkehglkgaaGreatDoorLib
set_option linter.unusedSimpArgs false
set_option linter.unusedVariables false

set_option maxRecDepth 100000 in
theorem K_byte {H : Type} {enc : TypeId × Value → H} {W : World} {cs : List Value} (h : Rds enc Tryz.prog W 5 cs) : ∃ x, cs.length = 1 ∧ Byte1 W cs x := by
  obtain ⟨n, rfl, wf⟩ := Rds.int Tryz.underlying5 h
  exact ⟨n, rfl, rfl, wf_u8 wf⟩
def I64 (x : Int) : Prop := -9223372036854775808 ≤ x ∧ x ≤ 9223372036854775807
abbrev geoV (x : Int × Int × Int) : Value := .agg #[.int .i64 x.1, .int .i64 x.2.1, .int .i64 x.2.2]
set_option maxRecDepth 100000 in
theorem Geom.of {H : Type} {enc : TypeId × Value → H} {W : World} {v : Value} {cs : Array Value} (e : v = .agg cs) (h : Rds enc Tryz.prog W 23 v.cells.toList) : ∃ r : Int × Int × Int, v = geoV r ∧ I64 r.1 ∧ I64 r.2.1 ∧ I64 r.2.2 := by
  subst e
  have hc : (Value.agg cs).cells.toList = cs.toList := by simp [Value.cells]
  rw [hc] at h
  obtain ⟨hl, hf⟩ := Rds.struct Tryz.underlying23 h
  have c1 : Tryz.prog.cellsOf 3 = 1 := by kernel_rfl
  have c2 : Tryz.prog.cellsOf 23 = 3 := by kernel_rfl
  rw [c2] at hl
  obtain ⟨l⟩ := cs
  simp only [] at hl hf
  match l, hl with
  | [x0, x1, x2], _ =>
    have g0 := hf 0 _ rfl
    have g1 := hf 1 _ rfl
    have g2 := hf 2 _ rfl
    simp [c1] at g0 g1 g2
    obtain ⟨a, ea, wa⟩ := Rds.int Tryz.underlying3 g0
    obtain ⟨b, eb, wb⟩ := Rds.int Tryz.underlying3 g1
    obtain ⟨c, ec, wc⟩ := Rds.int Tryz.underlying3 g2
    cases ea; cases eb; cases ec
    exact ⟨(a, b, c), rfl, wf_i64 wa, wf_i64 wb, wf_i64 wc⟩
end Go.Proofs.YtcikhnkehglkgaaGreatDoor
