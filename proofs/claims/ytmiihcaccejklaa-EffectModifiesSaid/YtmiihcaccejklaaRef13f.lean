/- PROVED: the contract of keepsakeref13.Sbc. No conditions beyond those that each theorem states. -/
import Derived.Test.YtmiihcaccejklaaRef13d
namespace Go.Proofs.Ytmiihcaccejklaa
open Go.RowKit Go.Proofs.YtmiihcaccejklaaLib
set_option linter.unusedSimpArgs false
set_option linter.unusedVariables false

set_option maxHeartbeats 1000000 in
theorem rsbc_any (w : World) (a m p : Int) (ha : Byte a) (hm : Byte m) (hp : Byte p) :
    Calls Try.prog 41 #[.int .u8 a, .int .u8 m, .int .u8 p] w fun e W => e = .returned (.tuple #[.int .u8 (sbcM a m p).1, .int .u8 (sbcM a m p).2]) ∧ w = W := by
  have H0 := Lib.hid hp
  have HA := Lib.hid ha
  have HN := Lib.hid (show Byte (255 - m) by unfold Byte at *; omega)
  have H8 := Lib.hid (setF_b (p := p) (f := 8) (b := false) (by simp [IsFlag]) hp)
  have HR := Lib.hid (adcM_b (a := a) (m := 255 - m) H8.out)
  have hc : 0 ≤ p % 2 ∧ p % 2 ≤ 1 := by omega
  have hd : p / 8 % 2 = 0 ∨ p / 8 % 2 = 1 := by omega
  clear hp
  obtain ⟨a0, a1⟩ := ha
  obtain ⟨m0, m1⟩ := hm
  go_enter Try.func41, Try.ntmps41
  go_wp2_with fail
  refine (rset_any _ p 8 false H0.out (by simp [IsFlag])).mono ?_
  rintro _ _ ⟨rfl, rfl⟩
  go_wp2_with fail
  refine (radc_any _ a (255 - m) _ HA.out HN.out H8.out).mono ?_
  rintro _ _ ⟨rfl, rfl⟩
  go_wp2_with fail
  refine (rhas_any _ p 8 H0.out (by simp [IsFlag])).mono ?_
  rintro _ _ ⟨rfl, rfl⟩
  rcases hd with hd | hd
  · have e : (p / 8 % 2 == 1) = false := by rw [hd]; rfl
    rw [e]
    clear e
    replace hd := Lib.hid hd
    go_wp2_with fail
    go_ret2
    refine ⟨?_, rfl⟩
    simp [sbcM, hd.out]
  · have e : (p / 8 % 2 == 1) = true := by rw [hd]; rfl
    rw [e]
    clear e
    replace hd := Lib.hid hd
    go_wp2_with fail
    refine (rone_any _ p H0.out).mono ?_
    rintro _ _ ⟨rfl, rfl⟩
    generalize hcc : p % 2 = c at hc ⊢
    replace hcc := Lib.hid hcc
    go_wp2_with fail
    all_goals (
      refine (rset_any _ _ 8 true HR.out.2 (by simp [IsFlag])).mono ?_
      rintro _ _ ⟨rfl, rfl⟩
      go_wp2_with fail
      go_ret2
      refine ⟨?_, rfl⟩
      have hdd := hd.out
      have hcd := hcc.out
      unfold sbcM sbcMid sbcLow
      rw [hcd]
      simp [hdd]
      try (split <;> split <;> omega)
      try (split <;> omega)
      try omega)

end Go.Proofs.Ytmiihcaccejklaa
