/- PROVED: the contract of shadow.tried over whatever closure: what it gave up for is told. No conditions beyond those that each theorem states. -/
import Derived.Test.YtcikhnkehglkgaaGreatDoorShA
namespace Go.Proofs.YtcikhnkehglkgaaGreatDoor
open Go.RowKit Go.Proofs.YtcikhnkehglkgaaGreatDoorLib
set_option linter.unusedSimpArgs false
set_option linter.unusedVariables false

set_option maxRecDepth 100000 in
set_option maxHeartbeats 1000000 in
theorem tried_any (w : World) (f : Nat) (cap : Array Value) (Q : Int → World → Prop) (he : ∀ W : World, (callFunc f cap).run Tryz.prog W = .ok (.enter f cap) W)
    (hc : ∀ W1, W1 = w.alloc (.cells #[.int .i64 0] 30) → Calls Tryz.prog f cap W1 (fun e V => ∃ er, Outs er e ∧ Q er V ∧ Blk V w.heap.size 30 [.int .i64 0])) :
    Calls Tryz.prog 45 #[.func (.func f) #[] cap] w (fun e V' => ∃ er V, e = .returned (.int .i64 er) ∧ Q er V ∧ Kept V V' [w.heap.size]) := by
  have hmf : ∀ (fn : Fn) (first cap : Array Value) (w : World), (Instr.makeFunc fn first cap).run Tryz.prog w = .ok (.func fn first cap) w := fun _ _ _ _ => rfl
  have HC := Lib.hid hc
  clear hc
  go_enter_defers Tryz.func45, Tryz.ntmps45
  go_wp2_with fail
  refine (HC.out _ rfl).mono ?_
  rintro ee V ⟨er, ho, hq, hb⟩
  generalize hn : w.heap.size = n at *
  have HQ := Lib.hid (And.intro hq hb)
  have c0 := hb.cell 0 rfl
  have z0 := hb.free 0
  clear hq hb HC he
  rcases ho with ⟨rfl, rfl⟩ | ⟨hz, rfl⟩
  · go_wp2_with fail
    refine leaves_cons (f := 73) (args := #[.pointer (some ⟨n, 0, none⟩)]) (by simp) (by simp [go_sem]) ?_
    refine (catch_idle ⟨n, 0, none⟩ _).mono ?_
    rintro e u' w'' ⟨rfl, rfl, rfl⟩
    have hk : Kept V (V.setCell ⟨n, 0, none⟩ (.int .i64 0)) [n] := (Kept.refl V [n]).setCell (.inl (by simp)) _
    have c1 := (HQ.out.2.set 0 (.int .i64 0)).cell 0 rfl
    simp only [settle]
    refine ⟨_, ?_, 0, V, rfl, HQ.out.1, by rw [hn]; exact hk⟩
    simp [results, Tryz.results45, go_sem, c1]
  · refine leaves_cons (f := 73) (args := #[.pointer (some ⟨n, 0, none⟩)]) (by simp) (by simp [go_sem]) ?_
    refine (catch_pan ⟨n, 0, none⟩ 0 er _ c0 z0).mono ?_
    rintro e u' w'' ⟨rfl, rfl, rfl⟩
    have hk : Kept V (V.setCell ⟨n, 0, none⟩ (.int .i64 er)) [n] := (Kept.refl V [n]).setCell (.inl (by simp)) _
    have c1 := (HQ.out.2.set 0 (.int .i64 er)).cell 0 rfl
    simp only [settle]
    refine ⟨_, ?_, er, V, rfl, HQ.out.1, by rw [hn]; exact hk⟩
    simp [results, Tryz.results45, go_sem, c1]
end Go.Proofs.YtcikhnkehglkgaaGreatDoor
