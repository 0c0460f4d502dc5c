/- PROVED: the contract of keepsakelaw15.awake. No conditions beyond those that each theorem states. -/
import Derived.Test.YtmiihcaccejklaaEffN
namespace Go.Proofs.Ytmiihcaccejklaa
open Go.RowKit Go.Proofs.YtmiihcaccejklaaLib
set_option linter.unusedSimpArgs false
set_option linter.unusedVariables false

theorem awake_slo : modifiesM [83, 76, 79] ⟨1, 0, 0, 0, 0, 0⟩ 129 = (⟨3, 0, 0, 0, 1, 0⟩, 2) := by rfl
theorem awake_bcs : takenM [66, 67, 83] 1 = true := by rfl
theorem awake_php : pushesM [80, 72, 80] ⟨0, 0, 0, 0, 0, 0⟩ = 48 := by rfl

set_option maxHeartbeats 1000000 in
theorem awake_any (w : World) : Calls Try.prog 11 #[] w (Post w [] fun v W => v = .bool true) := by
  go_enter Try.func11, Try.ntmps11
  go_wp2_with fail
  refine (modifies_any _ ⟨#[83, 76, 79]⟩ ⟨1, 0, 0, 0, 0, 0⟩ 129 (ok_mk (by simp [Byte]) (by simp [Byte]) (by simp [Byte]) (by simp [Byte]) (by simp [Byte]) (by simp)) (by simp [Byte])).mono ?_
  rintro _ w1 ⟨_, rfl, rfl, k1⟩
  rw [ByteArray.toList_eq, awake_slo]
  unfold Regs.val
  go_wp2_with fail
  refine (taken_any _ ⟨#[66, 67, 83]⟩ 1 (by simp [Byte])).mono ?_
  rintro _ w2 ⟨_, rfl, rfl, k2⟩
  rw [ByteArray.toList_eq, awake_bcs]
  go_wp2_with fail
  refine (pushes_any _ ⟨#[80, 72, 80]⟩ ⟨0, 0, 0, 0, 0, 0⟩ (ok_mk (by simp [Byte]) (by simp [Byte]) (by simp [Byte]) (by simp [Byte]) (by simp [Byte]) (by simp))).mono ?_
  rintro _ w3 ⟨_, rfl, rfl, k3⟩
  rw [ByteArray.toList_eq, awake_php]
  go_wp2_with fail
  go_returns
  refine ⟨_, rfl, rfl, ?_⟩
  exact (Kept.alloc k1 _).trans (k2.trans k3 (by simp)) (by simp)

end Go.Proofs.Ytmiihcaccejklaa
