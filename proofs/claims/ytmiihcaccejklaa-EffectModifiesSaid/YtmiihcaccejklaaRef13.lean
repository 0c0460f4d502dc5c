/- PROVED: the contracts of keepsakeref13.Has, one, Set and Nz. No conditions beyond those that each theorem states. -/
import Derived.Test.YtmiihcaccejklaaEffR
namespace Go.Proofs.Ytmiihcaccejklaa
open Go.RowKit Go.Proofs.YtmiihcaccejklaaLib
set_option linter.unusedSimpArgs false
set_option linter.unusedVariables false

set_option maxHeartbeats 1000000 in
theorem rhas_any (w : World) (p f : Int) (hp : Byte p) (hf : IsFlag f) :
    Calls Try.prog 43 #[.int .u8 p, .int .i64 f] w fun e W => e = .returned (.bool (p / f % 2 == 1)) ∧ w = W := by
  obtain ⟨h0, h1⟩ := hp
  rcases hf with rfl | rfl | rfl | rfl | rfl | rfl | rfl | rfl <;> (
    go_enter Try.func43, Try.ntmps43
    go_wp2_with fail
    go_ret
    refine ⟨?_, rfl⟩
    first | rfl | (simp; done) | (simp; omega))

set_option maxHeartbeats 1000000 in
theorem rset_any (w : World) (p f : Int) (b : Bool) (hp : Byte p) (hf : IsFlag f) :
    Calls Try.prog 42 #[.int .u8 p, .int .i64 f, .bool b] w fun e W => e = .returned (.int .u8 (setF p f b)) ∧ w = W := by
  have hh := hf
  have hpp := hp
  obtain ⟨h0, h1⟩ := hp
  have h2 : p / f % 2 = 0 ∨ p / f % 2 = 1 := by omega
  have hs := setF_byte f hf b p h0 h1
  have e : setF p f b = p - p / f % 2 * f + (if b then f else 0) := rfl
  have ef : 1 ≤ f ∧ f ≤ 128 := by rcases hf with h | h | h | h | h | h | h | h <;> omega
  have ep : p / f % 2 = 1 → f ≤ p := by
    intro h
    rcases hf with h' | h' | h' | h' | h' | h' | h' | h' <;> subst h' <;> omega
  replace hs := Lib.hid hs
  replace e := Lib.hid e
  replace ep := Lib.hid ep
  replace hh := Lib.hid hh
  replace hpp := Lib.hid hpp
  clear hf
  go_enter Try.func42, Try.ntmps42
  go_wp2_with fail
  refine (rhas_any _ p f hpp.out hh.out).mono ?_
  rintro _ _ ⟨rfl, rfl⟩
  rcases h2 with h2 | h2
  · have hb : (p / f % 2 == 1) = false := by rw [h2]; rfl
    rw [hb]
    replace h2 := Lib.hid h2
    clear hb
    cases b <;> (
      go_wp2_with fail
      go_ret
      refine ⟨?_, rfl⟩
      have := hs.out
      rw [e.out, h2.out] at *
      simp at *
      first | done | omega)
  · have hb : (p / f % 2 == 1) = true := by rw [h2]; rfl
    rw [hb]
    have := ep.out h2
    replace h2 := Lib.hid h2
    clear hb
    cases b <;> (
      go_wp2_with fail
      go_ret
      refine ⟨?_, rfl⟩
      have := hs.out
      rw [e.out, h2.out] at *
      simp at *
      first | done | omega)

theorem rnz_any (w : World) (p v : Int) (hp : Byte p) (hv : Byte v) :
    Calls Try.prog 34 #[.int .u8 p, .int .u8 v] w fun e W => e = .returned (.int .u8 (nzM p v)) ∧ w = W := by
  have H1 := Lib.hid (setF_b (p := p) (f := 128) (b := decide (127 < v)) (by simp [IsFlag]) hp)
  have H0 := Lib.hid hp
  clear hp
  go_enter Try.func34, Try.ntmps34
  go_wp2_with fail
  refine (rset_any _ p 128 (decide (127 < v)) H0.out (by simp [IsFlag])).mono ?_
  rintro _ _ ⟨rfl, rfl⟩
  go_wp2_with fail
  refine (rset_any _ _ 2 (v == 0) H1.out (by simp [IsFlag])).mono ?_
  rintro _ _ ⟨rfl, rfl⟩
  go_wp2_with fail
  go_ret
  exact ⟨rfl, rfl⟩

end Go.Proofs.Ytmiihcaccejklaa
