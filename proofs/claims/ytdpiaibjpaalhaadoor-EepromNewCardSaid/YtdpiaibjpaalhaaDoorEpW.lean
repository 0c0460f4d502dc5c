/- PROVED: the contracts of package wire. No conditions beyond those that each theorem states. -/
import Derived.Test.YtdpiaibjpaalhaaDoorEpG
namespace Go.Proofs.YtdpiaibjpaalhaaDoor
open Go.RowKit Go.Proofs.YtdpiaibjpaalhaaDoorLib
set_option linter.unusedSimpArgs false
set_option linter.unusedVariables false

def clockW (c c' : Bool) : Int := if c && c' then 3 else if c then 1 else if c' then 2 else 0
theorem clock_any (w : World) (c c' : Bool) : Calls Tryd.prog 42 #[.bool c, .bool c'] w (fun e W => e = .returned (.int .i64 (clockW c c')) ∧ w = W) := by
  cases c <;> cases c'
  all_goals (
    go_enter Tryd.func42, Tryd.ntmps42
    go_wp2
    go_ret
    exact ⟨rfl, rfl⟩)
theorem wireNew_any (w : World) : Calls Tryd.prog 28 #[] w (Post w [] fun v W => ∃ b, v = .pointer (some ⟨b, 0, none⟩) ∧ Blk W b 74 [.bool true, .bool true] ∧ w.heap.size ≤ b) := by
  go_enter Tryd.func28, Tryd.ntmps28
  go_wp2
  go_ret
  exact ⟨_, rfl, ⟨_, rfl, Blk.new _ _ _, Nat.le_refl _⟩, (Kept.refl _ _).alloc _⟩
set_option maxHeartbeats 2000000 in
theorem wireStep_any (w : World) (b : Nat) (c d c' d' : Bool) (h : Blk w b 74 [.bool c, .bool d]) :
    Calls Tryd.prog 29 #[.pointer (some ⟨b, 0, none⟩), .agg #[.bool c', .bool d']] w (Post w [b] fun v W => v = .int .i64 (tellW c d c' d') ∧ Blk W b 74 [.bool c', .bool d']) := by
  have c0 := h.cell 0 rfl
  have c1 := h.cell 1 rfl
  have f0 := h.free 0
  have f1 := h.free 1
  have lt := h.lt
  have H := Lib.hid h
  clear h
  have e1 : clockW false false = 0 := rfl
  have e2 : clockW true false = 1 := rfl
  have e3 : clockW false true = 2 := rfl
  have e4 : clockW true true = 3 := rfl
  cases c <;> cases d <;> cases c' <;> cases d'
  all_goals (
    go_enter Tryd.func29, Tryd.ntmps29
    go_wp2_with fail
    try (
      refine (clock_any _ _ _).mono ?_
      rintro _ _ ⟨rfl, rfl⟩
      go_wp2_with fail)
    go_ret
    refine ⟨_, rfl, ⟨rfl, ((((H.out.set 0 _).set 1 _).alloc _).alloc _).to rfl⟩, ?_⟩
    exact ((((Kept.refl w [b]).setCell (by simp) _).setCell (by simp) _).alloc _).alloc _)
end Go.Proofs.YtdpiaibjpaalhaaDoor
