/- PROVED: the contracts of keepsakeref13.one, Cmp, Sbx, Asl, Lsr, Rol, Ror. No conditions beyond those that each theorem states. -/
import Derived.Test.YtmiihcaccejklaaRef13
namespace Go.Proofs.Ytmiihcaccejklaa
open Go.RowKit Go.Proofs.YtmiihcaccejklaaLib
set_option linter.unusedSimpArgs false
set_option linter.unusedVariables false

theorem rone_any (w : World) (p : Int) (hp : Byte p) :
    Calls Try.prog 58 #[.int .u8 p, .int .i64 1] w fun e W => e = .returned (.int .i64 (p % 2)) ∧ w = W := by
  obtain ⟨h0, h1⟩ := hp
  go_enter Try.func58, Try.ntmps58
  go_wp2_with fail
  go_ret
  refine ⟨?_, rfl⟩
  first | rfl | (simp; done) | (simp; omega)

theorem rcmp_any (w : World) (r m p : Int) (hr : Byte r) (hm : Byte m) (hp : Byte p) :
    Calls Try.prog 40 #[.int .u8 r, .int .u8 m, .int .u8 p] w fun e W => e = .returned (.int .u8 (cmpM r m p)) ∧ w = W := by
  have H1 := Lib.hid (setF_b (p := p) (f := 1) (b := decide (m ≤ r)) (by simp [IsFlag]) hp)
  have H0 := Lib.hid hp
  have HV := Lib.hid (mod_b (r - m))
  clear hp
  obtain ⟨r0, r1⟩ := hr
  obtain ⟨m0, m1⟩ := hm
  go_enter Try.func40, Try.ntmps40
  by_cases hlt : r < m
  · have HE := Lib.hid (show r - m + 256 = (r - m) % 256 by omega)
    go_wp2_with fail
    refine (rset_any _ p 1 (decide (m ≤ r)) H0.out (by simp [IsFlag])).mono ?_
    rintro _ _ ⟨rfl, rfl⟩
    go_wp2_with fail
    rw [HE.out]
    refine (rnz_any _ _ _ H1.out HV.out).mono ?_
    rintro _ _ ⟨rfl, rfl⟩
    go_wp2_with fail
    go_ret
    exact ⟨rfl, rfl⟩
  · have HQ := Lib.hid (show cmpM r m p = nzM (setF p 1 true) (r - m) by
      have e1 : (r - m) % 256 = r - m := by omega
      have e2 : decide (m ≤ r) = true := decide_eq_true (by omega)
      unfold cmpM; rw [e1, e2])
    have HV2 := Lib.hid (show Byte (r - m) by unfold Byte; omega)
    have H3 := Lib.hid (setF_b (p := p) (f := 1) (b := true) (by simp [IsFlag]) H0.out)
    clear HV H1
    go_wp2_with fail
    refine (rset_any _ p 1 true H0.out (by simp [IsFlag])).mono ?_
    rintro _ _ ⟨rfl, rfl⟩
    go_wp2_with fail
    refine (rnz_any _ _ (r - m) H3.out HV2.out).mono ?_
    rintro _ _ ⟨rfl, rfl⟩
    rw [← HQ.out]
    go_wp2_with fail
    go_ret
    exact ⟨rfl, rfl⟩

theorem rasl_any (w : World) (m p : Int) (hm : Byte m) (hp : Byte p) :
    Calls Try.prog 30 #[.int .u8 m, .int .u8 p] w fun e W => e = .returned (.tuple #[.int .u8 (asl m p).1, .int .u8 (asl m p).2]) ∧ w = W := by
  have H1 := Lib.hid (setF_b (p := p) (f := 1) (b := decide (127 < m)) (by simp [IsFlag]) hp)
  have H0 := Lib.hid hp
  have H2 := Lib.hid (mod_b (m * 2))
  clear hp
  obtain ⟨m0, m1⟩ := hm
  go_enter Try.func30, Try.ntmps30
  go_wp2_with fail
  refine (rset_any _ p 1 (decide (127 < m)) H0.out (by simp [IsFlag])).mono ?_
  rintro _ _ ⟨rfl, rfl⟩
  go_wp2_with fail
  refine (rnz_any _ _ _ H1.out H2.out).mono ?_
  rintro _ _ ⟨rfl, rfl⟩
  go_wp2_with fail
  go_ret2
  exact ⟨rfl, rfl⟩

theorem rlsr_any (w : World) (m p : Int) (hm : Byte m) (hp : Byte p) :
    Calls Try.prog 31 #[.int .u8 m, .int .u8 p] w fun e W => e = .returned (.tuple #[.int .u8 (lsr m p).1, .int .u8 (lsr m p).2]) ∧ w = W := by
  have H1 := Lib.hid (setF_b (p := p) (f := 1) (b := (m % 2 == 1)) (by simp [IsFlag]) hp)
  have H0 := Lib.hid hp
  have H2 := Lib.hid (show Byte (m / 2) by unfold Byte at *; omega)
  clear hp
  obtain ⟨m0, m1⟩ := hm
  go_enter Try.func31, Try.ntmps31
  go_wp2_with fail
  refine (rset_any _ p 1 (m % 2 == 1) H0.out (by simp [IsFlag])).mono ?_
  rintro _ _ ⟨rfl, rfl⟩
  go_wp2_with fail
  refine (rnz_any _ _ _ H1.out H2.out).mono ?_
  rintro _ _ ⟨rfl, rfl⟩
  go_wp2_with fail
  go_ret2
  exact ⟨rfl, rfl⟩

theorem rrol_any (w : World) (m p : Int) (hm : Byte m) (hp : Byte p) :
    Calls Try.prog 32 #[.int .u8 m, .int .u8 p] w fun e W => e = .returned (.tuple #[.int .u8 (rol m p).1, .int .u8 (rol m p).2]) ∧ w = W := by
  have H1 := Lib.hid (setF_b (p := p) (f := 1) (b := decide (127 < m)) (by simp [IsFlag]) hp)
  have H0 := Lib.hid hp
  have H2 := Lib.hid (show Byte (m * 2 % 256 + p % 2) by unfold Byte at *; omega)
  have hc : 0 ≤ p % 2 ∧ p % 2 ≤ 1 := by omega
  clear hp
  obtain ⟨m0, m1⟩ := hm
  go_enter Try.func32, Try.ntmps32
  go_wp2_with fail
  refine (rone_any _ p H0.out).mono ?_
  rintro _ _ ⟨rfl, rfl⟩
  go_wp2_with fail
  refine (rset_any _ p 1 (decide (127 < m)) H0.out (by simp [IsFlag])).mono ?_
  rintro _ _ ⟨rfl, rfl⟩
  go_wp2_with fail
  refine (rnz_any _ _ _ H1.out H2.out).mono ?_
  rintro _ _ ⟨rfl, rfl⟩
  go_wp2_with fail
  go_ret2
  exact ⟨rfl, rfl⟩

theorem rror_any (w : World) (m p : Int) (hm : Byte m) (hp : Byte p) :
    Calls Try.prog 33 #[.int .u8 m, .int .u8 p] w fun e W => e = .returned (.tuple #[.int .u8 (ror m p).1, .int .u8 (ror m p).2]) ∧ w = W := by
  have H1 := Lib.hid (setF_b (p := p) (f := 1) (b := (m % 2 == 1)) (by simp [IsFlag]) hp)
  have H0 := Lib.hid hp
  have H2 := Lib.hid (show Byte (m / 2 + 128 * (p % 2)) by unfold Byte at *; omega)
  have hc : 0 ≤ p % 2 ∧ p % 2 ≤ 1 := by omega
  clear hp
  obtain ⟨m0, m1⟩ := hm
  go_enter Try.func33, Try.ntmps33
  go_wp2_with fail
  refine (rone_any _ p H0.out).mono ?_
  rintro _ _ ⟨rfl, rfl⟩
  go_wp2_with fail
  refine (rset_any _ p 1 (m % 2 == 1) H0.out (by simp [IsFlag])).mono ?_
  rintro _ _ ⟨rfl, rfl⟩
  go_wp2_with fail
  refine (rnz_any _ _ _ H1.out H2.out).mono ?_
  rintro _ _ ⟨rfl, rfl⟩
  go_wp2_with fail
  go_ret2
  exact ⟨rfl, rfl⟩

theorem rsbx_any (w : World) (x m p : Int) (hx : Byte x) (hm : Byte m) (hp : Byte p) :
    Calls Try.prog 51 #[.int .u8 x, .int .u8 m, .int .u8 p] w fun e W => e = .returned (.tuple #[.int .u8 (sbxM x m p).1, .int .u8 (sbxM x m p).2]) ∧ w = W := by
  have H0 := Lib.hid hp
  have HX := Lib.hid hx
  have HM := Lib.hid hm
  have HE := Lib.hid (show (x - m + 256) % 256 = (x - m) % 256 by omega)
  clear hp
  obtain ⟨m0, m1⟩ := hm
  obtain ⟨x0, x1⟩ := hx
  go_enter Try.func51, Try.ntmps51
  go_wp2_with fail
  refine (rcmp_any _ x m p HX.out HM.out H0.out).mono ?_
  rintro _ _ ⟨rfl, rfl⟩
  go_wp2_with fail
  go_ret2
  refine ⟨?_, rfl⟩
  simp [sbxM]
  try (have := HE.out; simp at this; omega)

end Go.Proofs.Ytmiihcaccejklaa
