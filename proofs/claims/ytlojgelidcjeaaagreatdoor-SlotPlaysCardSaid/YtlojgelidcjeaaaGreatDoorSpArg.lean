/- PROVED: how the operations of keepsakelaw06 that a statement is handed read in memory. No conditions beyond those that each theorem states. -/
import Derived.Test.YtlojgelidcjeaaaGreatDoorSpB
import Derived.Test.YtlojgelidcjeaaaGreatDoorSlArg
namespace Go.Proofs.YtlojgelidcjeaaaGreatDoor
open Go.RowKit Go.Proofs.YtlojgelidcjeaaaGreatDoorLib
set_option linter.unusedSimpArgs false
set_option linter.unusedVariables false

set_option maxRecDepth 100000 in
theorem K_bytes {H : Type} {enc : TypeId × Value → H} {W : World} {cs : List Value} (h : Rds enc Tryz.prog W 35 cs) : ∃ v xs, cs = [v] ∧ SliceAt Byte1 1 W W.heap.size v xs :=
  Rds.slice Tryz.underlying35 (by kernel_rfl : Tryz.prog.cellsOf 5 = 1) (fun cs h => K_byte h) (by decide) h
set_option maxRecDepth 100000 in
theorem K_tear {H : Type} {enc : TypeId × Value → H} {W : World} {cs : List Value} (h : Rds enc Tryz.prog W 66 cs) : ∃ t, cs.length = 2 ∧ TearK W.heap.size W cs t := by
  obtain ⟨hl, hf⟩ := Rds.struct Tryz.underlying66 h
  have c1 : Tryz.prog.cellsOf 3 = 1 := by kernel_rfl
  have c3 : Tryz.prog.cellsOf 35 = 1 := by kernel_rfl
  have c2 : Tryz.prog.cellsOf 66 = 2 := by kernel_rfl
  rw [c2] at hl
  match cs, hl with
  | [x0, x1], _ =>
    have g0 := hf 0 _ rfl
    have g1 := hf 1 _ rfl
    simp [c1, c3] at g0 g1
    obtain ⟨a, ea, wa⟩ := Rds.int Tryz.underlying3 g0
    obtain ⟨v, xs, ev, hv⟩ := K_bytes g1
    cases ea; cases ev
    exact ⟨(a, xs), rfl, _, rfl, hv⟩
set_option maxRecDepth 100000 in
theorem K_tears {H : Type} {enc : TypeId × Value → H} {W : World} {cs : List Value} (h : Rds enc Tryz.prog W 36 cs) : ∃ v xs, cs = [v] ∧ SliceAt (TearK W.heap.size) 2 W W.heap.size v xs :=
  Rds.slice Tryz.underlying36 (by kernel_rfl : Tryz.prog.cellsOf 66 = 2) (fun cs h => K_tear h) (by decide) h
set_option maxRecDepth 100000 in
theorem K_spop {H : Type} {enc : TypeId × Value → H} {W : World} {cs : List Value} (h : Rds enc Tryz.prog W 38 cs) : ∃ o, cs.length = 6 ∧ SpK W.heap.size W cs o := by
  obtain ⟨hl, hf⟩ := Rds.struct Tryz.underlying38 h
  have c0 : Tryz.prog.cellsOf 5 = 1 := by kernel_rfl
  have c1 : Tryz.prog.cellsOf 3 = 1 := by kernel_rfl
  have c5 : Tryz.prog.cellsOf 34 = 1 := by kernel_rfl
  have c3 : Tryz.prog.cellsOf 35 = 1 := by kernel_rfl
  have c4 : Tryz.prog.cellsOf 36 = 1 := by kernel_rfl
  have c2 : Tryz.prog.cellsOf 38 = 6 := by kernel_rfl
  rw [c2] at hl
  match cs, hl with
  | [x0, x1, x2, x3, x4, x5], _ =>
    have g0 := hf 0 _ rfl
    have g1 := hf 1 _ rfl
    have g2 := hf 2 _ rfl
    have g3 := hf 3 _ rfl
    have g4 := hf 4 _ rfl
    have g5 := hf 5 _ rfl
    simp [c0, c1, c3, c4, c5] at g0 g1 g2 g3 g4 g5
    obtain ⟨k, ek, wk⟩ := Rds.int Tryz.underlying5 g0
    obtain ⟨i, ei, wi⟩ := Rds.int Tryz.underlying3 g1
    obtain ⟨q, eq, wq⟩ := Rds.int Tryz.underlying34 g2
    obtain ⟨v, xs, ev, hv⟩ := K_bytes g3
    obtain ⟨n, en, wn⟩ := Rds.int Tryz.underlying5 g4
    obtain ⟨u, ys, eu, hu⟩ := K_tears g5
    cases ek; cases ei; cases eq; cases ev; cases en; cases eu
    exact ⟨⟨k, i, q, xs, n, ys⟩, rfl, _, _, rfl, hv, hu, wf_u8 wk, wf_i64 wi, wf_u64 wq, wf_u8 wn⟩
end Go.Proofs.YtlojgelidcjeaaaGreatDoor
