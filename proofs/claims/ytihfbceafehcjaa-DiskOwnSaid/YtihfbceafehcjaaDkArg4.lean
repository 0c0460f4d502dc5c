/- PROVED: how four bytes that a statement is handed read in memory. No conditions beyond those that each theorem states. -/
import Derived.Test.YtihfbceafehcjaaDkArg
import Derived.OpenShut
namespace Go.Proofs.Ytihfbceafehcjaa
open Go.RowKit Go.Proofs.YtihfbceafehcjaaLib
set_option linter.unusedSimpArgs false
set_option maxRecDepth 100000
set_option linter.unusedVariables false

theorem okArr4 {W : World} {r : Reach} {base : Nat} {v : Value} (h : Value.okWide Try.prog W r base 56 v) : ∃ cs : Array Value, v = .agg cs := by
  simp only [Value.okWide, Try.underlying56] at h
  obtain ⟨cs, h1, _⟩ := h
  exact ⟨cs, h1⟩

theorem Arr4.of {H : Type} {enc : TypeId × Value → H} {W : World} {v : Value} {cs : Array Value} (e : v = .agg cs) (h : Rds enc Try.prog W 56 v.cells.toList) : ∃ x : Int × Int × Int × Int, v = .agg #[.int .u8 x.1, .int .u8 x.2.1, .int .u8 x.2.2.1, .int .u8 x.2.2.2] ∧ Bts [x.1, x.2.1, x.2.2.1, x.2.2.2] := by
  subst e
  have hc : (Value.agg cs).cells.toList = cs.toList := by simp [Value.cells]
  rw [hc] at h
  obtain ⟨n, z, hn⟩ := h
  obtain ⟨xs, m, _, _, hl, hxl, hf⟩ := DataW.trod_array Try.underlying56 hn
  have c1 : Try.prog.cellsOf 5 = 1 := by kernel_rfl
  have c2 : Try.prog.cellsOf 56 = 4 := by kernel_rfl
  rw [c2] at hl
  obtain ⟨l⟩ := cs
  simp only [] at hl hf
  match l, hl with
  | [y0, y1, y2, y3], _ =>
    have f : ∀ i, i < 4 → ∃ z, DataW.trod enc Try.prog W 0 (fun _ => true) true m 5 (([y0, y1, y2, y3].drop (i * 1)).take 1) = some z := by
      intro i hi
      have := hf i hi
      rw [c1] at this
      exact ⟨xs[i]'(by omega), by rw [this, List.getElem?_eq_getElem (by omega)]⟩
    obtain ⟨z0, q0⟩ := f 0 (by omega)
    obtain ⟨z1, q1⟩ := f 1 (by omega)
    obtain ⟨z2, q2⟩ := f 2 (by omega)
    obtain ⟨z3, q3⟩ := f 3 (by omega)
    obtain ⟨a0, e0, w0⟩ := Rds.int Try.underlying5 ⟨m, z0, q0⟩
    obtain ⟨a1, e1, w1⟩ := Rds.int Try.underlying5 ⟨m, z1, q1⟩
    obtain ⟨a2, e2, w2⟩ := Rds.int Try.underlying5 ⟨m, z2, q2⟩
    obtain ⟨a3, e3, w3⟩ := Rds.int Try.underlying5 ⟨m, z3, q3⟩
    simp at e0 e1 e2 e3
    subst e0; subst e1; subst e2; subst e3
    refine ⟨(a0, a1, a2, a3), rfl, ?_⟩
    intro x hx
    simp at hx
    rcases hx with rfl | rfl | rfl | rfl
    · exact wf_u8 w0
    · exact wf_u8 w1
    · exact wf_u8 w2
    · exact wf_u8 w3
end Go.Proofs.Ytihfbceafehcjaa
