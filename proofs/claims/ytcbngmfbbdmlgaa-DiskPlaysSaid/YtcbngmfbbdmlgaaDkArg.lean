/- PROVED: how the operations that a statement on disks is handed read in memory. No conditions beyond those that each theorem states. -/
import Derived.Test.YtcbngmfbbdmlgaaDkK
import Derived.Test.YtcbngmfbbdmlgaaArg
namespace Go.Proofs.Ytcbngmfbbdmlgaa
open Go.RowKit Go.Proofs.YtcbngmfbbdmlgaaLib
set_option linter.unusedSimpArgs false
set_option linter.unusedVariables false

theorem bytesOp : Try.prog.bytesOf 36 = 64 := by kernel_rfl
set_option maxRecDepth 100000 in
theorem K_byte {H : Type} {enc : TypeId × Value → H} {W : World} {cs : List Value} (h : Rds enc Try.prog W 5 cs) : ∃ x, cs.length = 1 ∧ Byte1 W cs x := by
  obtain ⟨n, rfl, wf⟩ := Rds.int Try.underlying5 h
  exact ⟨n, rfl, rfl, wf_u8 wf⟩
set_option maxRecDepth 100000 in
theorem K_bytes {H : Type} {enc : TypeId × Value → H} {W : World} {cs : List Value} (h : Rds enc Try.prog W 31 cs) : ∃ v xs, cs = [v] ∧ SliceAt Byte1 1 W W.heap.size v xs :=
  Rds.slice Try.underlying31 (by kernel_rfl : Try.prog.cellsOf 5 = 1) (fun cs h => K_byte h) (by decide) h
set_option maxRecDepth 100000 in
theorem K_tear {H : Type} {enc : TypeId × Value → H} {W : World} {cs : List Value} (h : Rds enc Try.prog W 51 cs) : ∃ t, cs.length = 2 ∧ TearK W.heap.size W cs t := by
  obtain ⟨hl, hf⟩ := Rds.struct Try.underlying51 h
  have c1 : Try.prog.cellsOf 3 = 1 := by kernel_rfl
  have c3 : Try.prog.cellsOf 31 = 1 := by kernel_rfl
  have c2 : Try.prog.cellsOf 51 = 2 := by kernel_rfl
  rw [c2] at hl
  match cs, hl with
  | [x0, x1], _ =>
    have g0 := hf 0 _ rfl
    have g1 := hf 1 _ rfl
    simp [c1, c3] at g0 g1
    obtain ⟨a, ea, wa⟩ := Rds.int Try.underlying3 g0
    obtain ⟨v, xs, ev, hv⟩ := K_bytes g1
    cases ea; cases ev
    exact ⟨(a, xs), rfl, _, rfl, hv⟩
set_option maxRecDepth 100000 in
theorem K_tears {H : Type} {enc : TypeId × Value → H} {W : World} {cs : List Value} (h : Rds enc Try.prog W 34 cs) : ∃ v xs, cs = [v] ∧ SliceAt (TearK W.heap.size) 2 W W.heap.size v xs :=
  Rds.slice Try.underlying34 (by kernel_rfl : Try.prog.cellsOf 51 = 2) (fun cs h => K_tear h) (by decide) h
set_option maxRecDepth 100000 in
theorem K_dkop {H : Type} {enc : TypeId × Value → H} {W : World} {cs : List Value} (h : Rds enc Try.prog W 36 cs) : ∃ o, cs.length = 4 ∧ OpK W.heap.size W cs o := by
  obtain ⟨hl, hf⟩ := Rds.struct Try.underlying36 h
  have c0 : Try.prog.cellsOf 5 = 1 := by kernel_rfl
  have c1 : Try.prog.cellsOf 3 = 1 := by kernel_rfl
  have c3 : Try.prog.cellsOf 31 = 1 := by kernel_rfl
  have c4 : Try.prog.cellsOf 34 = 1 := by kernel_rfl
  have c2 : Try.prog.cellsOf 36 = 4 := by kernel_rfl
  rw [c2] at hl
  match cs, hl with
  | [x0, x1, x2, x3], _ =>
    have g0 := hf 0 _ rfl
    have g1 := hf 1 _ rfl
    have g2 := hf 2 _ rfl
    have g3 := hf 3 _ rfl
    simp [c0, c1, c3, c4] at g0 g1 g2 g3
    obtain ⟨k, ek, wk⟩ := Rds.int Try.underlying5 g0
    obtain ⟨i, ei, wi⟩ := Rds.int Try.underlying3 g1
    obtain ⟨v, xs, ev, hv⟩ := K_bytes g2
    obtain ⟨u, ys, eu, hu⟩ := K_tears g3
    cases ek; cases ei; cases ev; cases eu
    exact ⟨⟨k, i, xs, ys⟩, rfl, _, _, rfl, hv, hu, wf_i64 wi, wf_u8 wk⟩
theorem Op.of {H : Type} {enc : TypeId × Value → H} {W : World} {v : Value} {cs : Array Value} (e : v = .agg cs) (h : Rds enc Try.prog W 36 v.cells.toList) : ∃ x : DkOp × List Value, v = .agg x.2.toArray ∧ x.2.length = 4 ∧ OpK W.heap.size W x.2 x.1 := by
  subst e
  have hc : (Value.agg cs).cells.toList = cs.toList := by simp [Value.cells]
  rw [hc] at h
  obtain ⟨o, h1, h2⟩ := K_dkop h
  exact ⟨(o, cs.toList), by simp, h1, h2⟩
end Go.Proofs.Ytcbngmfbbdmlgaa
