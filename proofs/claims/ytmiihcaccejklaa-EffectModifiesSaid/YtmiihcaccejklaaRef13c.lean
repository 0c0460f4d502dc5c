/- PROVED: the contract of keepsakeref13.Bit. No conditions beyond those that each theorem states. -/
import Derived.Test.YtmiihcaccejklaaRef15b
namespace Go.Proofs.Ytmiihcaccejklaa
open Go.RowKit Go.Proofs.YtmiihcaccejklaaLib
set_option linter.unusedSimpArgs false
set_option linter.unusedVariables false

set_option maxHeartbeats 2000000 in
theorem rbit_any (w : World) (a b p : Int) (ha : Byte a) (hb : Byte b) (hp : Byte p) :
    Calls Try.prog 49 #[.int .u8 a, .int .u8 b, .int .u8 p] w fun e W => e = .returned (.int .u8 (bitM a b p)) ∧ w = W := by
  have HA := Lib.hid ha
  have HB := Lib.hid hb
  have HX := Lib.hid (bits_byte .and a b)
  have H0 := Lib.hid hp
  have H1 := Lib.hid (setF_b (p := p) (f := 128) (b := decide (127 < b)) (by simp [IsFlag]) hp)
  have H2 := Lib.hid (setF_b (f := 64) (b := (b / 64 % 2 == 1)) (by simp [IsFlag]) H1.out)
  clear hp
  obtain ⟨a0, a1⟩ := ha
  obtain ⟨b0, b1⟩ := hb
  go_enter Try.func49, Try.ntmps49
  go_wp2_with fail
  refine (rset_any _ p 128 (decide (127 < b)) H0.out (by simp [IsFlag])).mono ?_
  rintro _ _ ⟨rfl, rfl⟩
  go_wp2_with fail
  refine (rset_any _ _ 64 (b / 64 % 2 == 1) H1.out (by simp [IsFlag])).mono ?_
  rintro _ _ ⟨rfl, rfl⟩
  go_wp2_with fail
  go_loopg [7, 8] 8 (fun g n f wr => ∃ k : Nat, k + g = 8 ∧ n = .bool (bits .and .u8 a b % 2 ^ k == 0) ∧ f = .int .i64 (2 ^ k) ∧ wr = w)
  case atStart => exact ⟨0, by omega, by simp <;> omega, by simp, rfl⟩
  case round =>
    obtain ⟨k, hk, rfl, rfl, rfl⟩ := hrel
    have hcases : k = 0 ∨ k = 1 ∨ k = 2 ∨ k = 3 ∨ k = 4 ∨ k = 5 ∨ k = 6 ∨ k = 7 ∨ k = 8 := by omega
    have hX := HX.out
    rcases hcases with rfl | rfl | rfl | rfl | rfl | rfl | rfl | rfl | rfl
    · have hbit := @and_bit1 a b HA.out HB.out
      simp only [Int.ediv_one] at hbit
      generalize hq : bits .and .u8 a b = q at hbit hX ⊢
      replace hq := Lib.hid hq
      replace hk := Lib.hid hk
      have ca : a % 2 = 0 ∨ a % 2 = 1 := by omega
      have cb : b % 2 = 0 ∨ b % 2 = 1 := by omega
      rcases ca with ca | ca <;> rcases cb with cb | cb
      · have ba : (a % 2 == 1) = false := by rw [ca]; rfl
        have bb : (b % 2 == 1) = false := by rw [cb]; rfl
        have hv : q % 2 = 0 := by rw [hbit, ca, cb]; rfl
        have he : (q % 2 ^ 1 == 0) = (q % 2 ^ 0 == 0) := by
          rw [Bool.eq_iff_iff]; simp; omega
        replace hv := Lib.hid hv
        replace he := Lib.hid he
        replace hX := Lib.hid hX
        clear ca cb hbit
        go_wp2_with fail
        go_roundg 7
        case measure => have := hk.out; omega
        case rel =>
          have := hk.out
          have h3 := hq.out
          exact ⟨1, by omega, by rw [h3, he.out]; (try simp), by (try simp), rfl⟩
      · have ba : (a % 2 == 1) = false := by rw [ca]; rfl
        have bb : (b % 2 == 1) = true := by rw [cb]; rfl
        have hv : q % 2 = 0 := by rw [hbit, ca, cb]; rfl
        have he : (q % 2 ^ 1 == 0) = (q % 2 ^ 0 == 0) := by
          rw [Bool.eq_iff_iff]; simp; omega
        replace hv := Lib.hid hv
        replace he := Lib.hid he
        replace hX := Lib.hid hX
        clear ca cb hbit
        go_wp2_with fail
        go_roundg 7
        case measure => have := hk.out; omega
        case rel =>
          have := hk.out
          have h3 := hq.out
          exact ⟨1, by omega, by rw [h3, he.out]; (try simp), by (try simp), rfl⟩
      · have ba : (a % 2 == 1) = true := by rw [ca]; rfl
        have bb : (b % 2 == 1) = false := by rw [cb]; rfl
        have hv : q % 2 = 0 := by rw [hbit, ca, cb]; rfl
        have he : (q % 2 ^ 1 == 0) = (q % 2 ^ 0 == 0) := by
          rw [Bool.eq_iff_iff]; simp; omega
        replace hv := Lib.hid hv
        replace he := Lib.hid he
        replace hX := Lib.hid hX
        clear ca cb hbit
        go_wp2_with fail
        go_roundg 7
        case measure => have := hk.out; omega
        case rel =>
          have := hk.out
          have h3 := hq.out
          exact ⟨1, by omega, by rw [h3, he.out]; (try simp), by (try simp), rfl⟩
      · have ba : (a % 2 == 1) = true := by rw [ca]; rfl
        have bb : (b % 2 == 1) = true := by rw [cb]; rfl
        have hv : q % 2 = 1 := by rw [hbit, ca, cb]; rfl
        have he : (q % 2 ^ 1 == 0) = false := by
          rw [Bool.eq_iff_iff]; simp; omega
        replace hv := Lib.hid hv
        replace he := Lib.hid he
        replace hX := Lib.hid hX
        clear ca cb hbit
        go_wp2_with fail
        go_roundg 7
        case measure => have := hk.out; omega
        case rel =>
          have := hk.out
          have h3 := hq.out
          exact ⟨1, by omega, by rw [h3, he.out]; (try simp), by (try simp), rfl⟩
    · have hbit := @and_bit2 a b HA.out HB.out
      generalize hq : bits .and .u8 a b = q at hbit hX ⊢
      replace hq := Lib.hid hq
      replace hk := Lib.hid hk
      have ca : a / 2 % 2 = 0 ∨ a / 2 % 2 = 1 := by omega
      have cb : b / 2 % 2 = 0 ∨ b / 2 % 2 = 1 := by omega
      rcases ca with ca | ca <;> rcases cb with cb | cb
      · have ba : (a / 2 % 2 == 1) = false := by rw [ca]; rfl
        have bb : (b / 2 % 2 == 1) = false := by rw [cb]; rfl
        have hv : q / 2 % 2 = 0 := by rw [hbit, ca, cb]; rfl
        have he : (q % 2 ^ 2 == 0) = (q % 2 ^ 1 == 0) := by
          rw [Bool.eq_iff_iff]; simp; omega
        replace hv := Lib.hid hv
        replace he := Lib.hid he
        replace hX := Lib.hid hX
        clear ca cb hbit
        go_wp2_with fail
        go_roundg 6
        case measure => have := hk.out; omega
        case rel =>
          have := hk.out
          have h3 := hq.out
          exact ⟨2, by omega, by rw [h3, he.out]; (try simp), by (try simp), rfl⟩
      · have ba : (a / 2 % 2 == 1) = false := by rw [ca]; rfl
        have bb : (b / 2 % 2 == 1) = true := by rw [cb]; rfl
        have hv : q / 2 % 2 = 0 := by rw [hbit, ca, cb]; rfl
        have he : (q % 2 ^ 2 == 0) = (q % 2 ^ 1 == 0) := by
          rw [Bool.eq_iff_iff]; simp; omega
        replace hv := Lib.hid hv
        replace he := Lib.hid he
        replace hX := Lib.hid hX
        clear ca cb hbit
        go_wp2_with fail
        go_roundg 6
        case measure => have := hk.out; omega
        case rel =>
          have := hk.out
          have h3 := hq.out
          exact ⟨2, by omega, by rw [h3, he.out]; (try simp), by (try simp), rfl⟩
      · have ba : (a / 2 % 2 == 1) = true := by rw [ca]; rfl
        have bb : (b / 2 % 2 == 1) = false := by rw [cb]; rfl
        have hv : q / 2 % 2 = 0 := by rw [hbit, ca, cb]; rfl
        have he : (q % 2 ^ 2 == 0) = (q % 2 ^ 1 == 0) := by
          rw [Bool.eq_iff_iff]; simp; omega
        replace hv := Lib.hid hv
        replace he := Lib.hid he
        replace hX := Lib.hid hX
        clear ca cb hbit
        go_wp2_with fail
        go_roundg 6
        case measure => have := hk.out; omega
        case rel =>
          have := hk.out
          have h3 := hq.out
          exact ⟨2, by omega, by rw [h3, he.out]; (try simp), by (try simp), rfl⟩
      · have ba : (a / 2 % 2 == 1) = true := by rw [ca]; rfl
        have bb : (b / 2 % 2 == 1) = true := by rw [cb]; rfl
        have hv : q / 2 % 2 = 1 := by rw [hbit, ca, cb]; rfl
        have he : (q % 2 ^ 2 == 0) = false := by
          rw [Bool.eq_iff_iff]; simp; omega
        replace hv := Lib.hid hv
        replace he := Lib.hid he
        replace hX := Lib.hid hX
        clear ca cb hbit
        go_wp2_with fail
        go_roundg 6
        case measure => have := hk.out; omega
        case rel =>
          have := hk.out
          have h3 := hq.out
          exact ⟨2, by omega, by rw [h3, he.out]; (try simp), by (try simp), rfl⟩
    · have hbit := @and_bit4 a b HA.out HB.out
      generalize hq : bits .and .u8 a b = q at hbit hX ⊢
      replace hq := Lib.hid hq
      replace hk := Lib.hid hk
      have ca : a / 4 % 2 = 0 ∨ a / 4 % 2 = 1 := by omega
      have cb : b / 4 % 2 = 0 ∨ b / 4 % 2 = 1 := by omega
      rcases ca with ca | ca <;> rcases cb with cb | cb
      · have ba : (a / 4 % 2 == 1) = false := by rw [ca]; rfl
        have bb : (b / 4 % 2 == 1) = false := by rw [cb]; rfl
        have hv : q / 4 % 2 = 0 := by rw [hbit, ca, cb]; rfl
        have he : (q % 2 ^ 3 == 0) = (q % 2 ^ 2 == 0) := by
          rw [Bool.eq_iff_iff]; simp; omega
        replace hv := Lib.hid hv
        replace he := Lib.hid he
        replace hX := Lib.hid hX
        clear ca cb hbit
        go_wp2_with fail
        go_roundg 5
        case measure => have := hk.out; omega
        case rel =>
          have := hk.out
          have h3 := hq.out
          exact ⟨3, by omega, by rw [h3, he.out]; (try simp), by (try simp), rfl⟩
      · have ba : (a / 4 % 2 == 1) = false := by rw [ca]; rfl
        have bb : (b / 4 % 2 == 1) = true := by rw [cb]; rfl
        have hv : q / 4 % 2 = 0 := by rw [hbit, ca, cb]; rfl
        have he : (q % 2 ^ 3 == 0) = (q % 2 ^ 2 == 0) := by
          rw [Bool.eq_iff_iff]; simp; omega
        replace hv := Lib.hid hv
        replace he := Lib.hid he
        replace hX := Lib.hid hX
        clear ca cb hbit
        go_wp2_with fail
        go_roundg 5
        case measure => have := hk.out; omega
        case rel =>
          have := hk.out
          have h3 := hq.out
          exact ⟨3, by omega, by rw [h3, he.out]; (try simp), by (try simp), rfl⟩
      · have ba : (a / 4 % 2 == 1) = true := by rw [ca]; rfl
        have bb : (b / 4 % 2 == 1) = false := by rw [cb]; rfl
        have hv : q / 4 % 2 = 0 := by rw [hbit, ca, cb]; rfl
        have he : (q % 2 ^ 3 == 0) = (q % 2 ^ 2 == 0) := by
          rw [Bool.eq_iff_iff]; simp; omega
        replace hv := Lib.hid hv
        replace he := Lib.hid he
        replace hX := Lib.hid hX
        clear ca cb hbit
        go_wp2_with fail
        go_roundg 5
        case measure => have := hk.out; omega
        case rel =>
          have := hk.out
          have h3 := hq.out
          exact ⟨3, by omega, by rw [h3, he.out]; (try simp), by (try simp), rfl⟩
      · have ba : (a / 4 % 2 == 1) = true := by rw [ca]; rfl
        have bb : (b / 4 % 2 == 1) = true := by rw [cb]; rfl
        have hv : q / 4 % 2 = 1 := by rw [hbit, ca, cb]; rfl
        have he : (q % 2 ^ 3 == 0) = false := by
          rw [Bool.eq_iff_iff]; simp; omega
        replace hv := Lib.hid hv
        replace he := Lib.hid he
        replace hX := Lib.hid hX
        clear ca cb hbit
        go_wp2_with fail
        go_roundg 5
        case measure => have := hk.out; omega
        case rel =>
          have := hk.out
          have h3 := hq.out
          exact ⟨3, by omega, by rw [h3, he.out]; (try simp), by (try simp), rfl⟩
    · have hbit := @and_bit8 a b HA.out HB.out
      generalize hq : bits .and .u8 a b = q at hbit hX ⊢
      replace hq := Lib.hid hq
      replace hk := Lib.hid hk
      have ca : a / 8 % 2 = 0 ∨ a / 8 % 2 = 1 := by omega
      have cb : b / 8 % 2 = 0 ∨ b / 8 % 2 = 1 := by omega
      rcases ca with ca | ca <;> rcases cb with cb | cb
      · have ba : (a / 8 % 2 == 1) = false := by rw [ca]; rfl
        have bb : (b / 8 % 2 == 1) = false := by rw [cb]; rfl
        have hv : q / 8 % 2 = 0 := by rw [hbit, ca, cb]; rfl
        have he : (q % 2 ^ 4 == 0) = (q % 2 ^ 3 == 0) := by
          rw [Bool.eq_iff_iff]; simp; omega
        replace hv := Lib.hid hv
        replace he := Lib.hid he
        replace hX := Lib.hid hX
        clear ca cb hbit
        go_wp2_with fail
        go_roundg 4
        case measure => have := hk.out; omega
        case rel =>
          have := hk.out
          have h3 := hq.out
          exact ⟨4, by omega, by rw [h3, he.out]; (try simp), by (try simp), rfl⟩
      · have ba : (a / 8 % 2 == 1) = false := by rw [ca]; rfl
        have bb : (b / 8 % 2 == 1) = true := by rw [cb]; rfl
        have hv : q / 8 % 2 = 0 := by rw [hbit, ca, cb]; rfl
        have he : (q % 2 ^ 4 == 0) = (q % 2 ^ 3 == 0) := by
          rw [Bool.eq_iff_iff]; simp; omega
        replace hv := Lib.hid hv
        replace he := Lib.hid he
        replace hX := Lib.hid hX
        clear ca cb hbit
        go_wp2_with fail
        go_roundg 4
        case measure => have := hk.out; omega
        case rel =>
          have := hk.out
          have h3 := hq.out
          exact ⟨4, by omega, by rw [h3, he.out]; (try simp), by (try simp), rfl⟩
      · have ba : (a / 8 % 2 == 1) = true := by rw [ca]; rfl
        have bb : (b / 8 % 2 == 1) = false := by rw [cb]; rfl
        have hv : q / 8 % 2 = 0 := by rw [hbit, ca, cb]; rfl
        have he : (q % 2 ^ 4 == 0) = (q % 2 ^ 3 == 0) := by
          rw [Bool.eq_iff_iff]; simp; omega
        replace hv := Lib.hid hv
        replace he := Lib.hid he
        replace hX := Lib.hid hX
        clear ca cb hbit
        go_wp2_with fail
        go_roundg 4
        case measure => have := hk.out; omega
        case rel =>
          have := hk.out
          have h3 := hq.out
          exact ⟨4, by omega, by rw [h3, he.out]; (try simp), by (try simp), rfl⟩
      · have ba : (a / 8 % 2 == 1) = true := by rw [ca]; rfl
        have bb : (b / 8 % 2 == 1) = true := by rw [cb]; rfl
        have hv : q / 8 % 2 = 1 := by rw [hbit, ca, cb]; rfl
        have he : (q % 2 ^ 4 == 0) = false := by
          rw [Bool.eq_iff_iff]; simp; omega
        replace hv := Lib.hid hv
        replace he := Lib.hid he
        replace hX := Lib.hid hX
        clear ca cb hbit
        go_wp2_with fail
        go_roundg 4
        case measure => have := hk.out; omega
        case rel =>
          have := hk.out
          have h3 := hq.out
          exact ⟨4, by omega, by rw [h3, he.out]; (try simp), by (try simp), rfl⟩
    · have hbit := @and_bit16 a b HA.out HB.out
      generalize hq : bits .and .u8 a b = q at hbit hX ⊢
      replace hq := Lib.hid hq
      replace hk := Lib.hid hk
      have ca : a / 16 % 2 = 0 ∨ a / 16 % 2 = 1 := by omega
      have cb : b / 16 % 2 = 0 ∨ b / 16 % 2 = 1 := by omega
      rcases ca with ca | ca <;> rcases cb with cb | cb
      · have ba : (a / 16 % 2 == 1) = false := by rw [ca]; rfl
        have bb : (b / 16 % 2 == 1) = false := by rw [cb]; rfl
        have hv : q / 16 % 2 = 0 := by rw [hbit, ca, cb]; rfl
        have he : (q % 2 ^ 5 == 0) = (q % 2 ^ 4 == 0) := by
          rw [Bool.eq_iff_iff]; simp; omega
        replace hv := Lib.hid hv
        replace he := Lib.hid he
        replace hX := Lib.hid hX
        clear ca cb hbit
        go_wp2_with fail
        go_roundg 3
        case measure => have := hk.out; omega
        case rel =>
          have := hk.out
          have h3 := hq.out
          exact ⟨5, by omega, by rw [h3, he.out]; (try simp), by (try simp), rfl⟩
      · have ba : (a / 16 % 2 == 1) = false := by rw [ca]; rfl
        have bb : (b / 16 % 2 == 1) = true := by rw [cb]; rfl
        have hv : q / 16 % 2 = 0 := by rw [hbit, ca, cb]; rfl
        have he : (q % 2 ^ 5 == 0) = (q % 2 ^ 4 == 0) := by
          rw [Bool.eq_iff_iff]; simp; omega
        replace hv := Lib.hid hv
        replace he := Lib.hid he
        replace hX := Lib.hid hX
        clear ca cb hbit
        go_wp2_with fail
        go_roundg 3
        case measure => have := hk.out; omega
        case rel =>
          have := hk.out
          have h3 := hq.out
          exact ⟨5, by omega, by rw [h3, he.out]; (try simp), by (try simp), rfl⟩
      · have ba : (a / 16 % 2 == 1) = true := by rw [ca]; rfl
        have bb : (b / 16 % 2 == 1) = false := by rw [cb]; rfl
        have hv : q / 16 % 2 = 0 := by rw [hbit, ca, cb]; rfl
        have he : (q % 2 ^ 5 == 0) = (q % 2 ^ 4 == 0) := by
          rw [Bool.eq_iff_iff]; simp; omega
        replace hv := Lib.hid hv
        replace he := Lib.hid he
        replace hX := Lib.hid hX
        clear ca cb hbit
        go_wp2_with fail
        go_roundg 3
        case measure => have := hk.out; omega
        case rel =>
          have := hk.out
          have h3 := hq.out
          exact ⟨5, by omega, by rw [h3, he.out]; (try simp), by (try simp), rfl⟩
      · have ba : (a / 16 % 2 == 1) = true := by rw [ca]; rfl
        have bb : (b / 16 % 2 == 1) = true := by rw [cb]; rfl
        have hv : q / 16 % 2 = 1 := by rw [hbit, ca, cb]; rfl
        have he : (q % 2 ^ 5 == 0) = false := by
          rw [Bool.eq_iff_iff]; simp; omega
        replace hv := Lib.hid hv
        replace he := Lib.hid he
        replace hX := Lib.hid hX
        clear ca cb hbit
        go_wp2_with fail
        go_roundg 3
        case measure => have := hk.out; omega
        case rel =>
          have := hk.out
          have h3 := hq.out
          exact ⟨5, by omega, by rw [h3, he.out]; (try simp), by (try simp), rfl⟩
    · have hbit := @and_bit32 a b HA.out HB.out
      generalize hq : bits .and .u8 a b = q at hbit hX ⊢
      replace hq := Lib.hid hq
      replace hk := Lib.hid hk
      have ca : a / 32 % 2 = 0 ∨ a / 32 % 2 = 1 := by omega
      have cb : b / 32 % 2 = 0 ∨ b / 32 % 2 = 1 := by omega
      rcases ca with ca | ca <;> rcases cb with cb | cb
      · have ba : (a / 32 % 2 == 1) = false := by rw [ca]; rfl
        have bb : (b / 32 % 2 == 1) = false := by rw [cb]; rfl
        have hv : q / 32 % 2 = 0 := by rw [hbit, ca, cb]; rfl
        have he : (q % 2 ^ 6 == 0) = (q % 2 ^ 5 == 0) := by
          rw [Bool.eq_iff_iff]; simp; omega
        replace hv := Lib.hid hv
        replace he := Lib.hid he
        replace hX := Lib.hid hX
        clear ca cb hbit
        go_wp2_with fail
        go_roundg 2
        case measure => have := hk.out; omega
        case rel =>
          have := hk.out
          have h3 := hq.out
          exact ⟨6, by omega, by rw [h3, he.out]; (try simp), by (try simp), rfl⟩
      · have ba : (a / 32 % 2 == 1) = false := by rw [ca]; rfl
        have bb : (b / 32 % 2 == 1) = true := by rw [cb]; rfl
        have hv : q / 32 % 2 = 0 := by rw [hbit, ca, cb]; rfl
        have he : (q % 2 ^ 6 == 0) = (q % 2 ^ 5 == 0) := by
          rw [Bool.eq_iff_iff]; simp; omega
        replace hv := Lib.hid hv
        replace he := Lib.hid he
        replace hX := Lib.hid hX
        clear ca cb hbit
        go_wp2_with fail
        go_roundg 2
        case measure => have := hk.out; omega
        case rel =>
          have := hk.out
          have h3 := hq.out
          exact ⟨6, by omega, by rw [h3, he.out]; (try simp), by (try simp), rfl⟩
      · have ba : (a / 32 % 2 == 1) = true := by rw [ca]; rfl
        have bb : (b / 32 % 2 == 1) = false := by rw [cb]; rfl
        have hv : q / 32 % 2 = 0 := by rw [hbit, ca, cb]; rfl
        have he : (q % 2 ^ 6 == 0) = (q % 2 ^ 5 == 0) := by
          rw [Bool.eq_iff_iff]; simp; omega
        replace hv := Lib.hid hv
        replace he := Lib.hid he
        replace hX := Lib.hid hX
        clear ca cb hbit
        go_wp2_with fail
        go_roundg 2
        case measure => have := hk.out; omega
        case rel =>
          have := hk.out
          have h3 := hq.out
          exact ⟨6, by omega, by rw [h3, he.out]; (try simp), by (try simp), rfl⟩
      · have ba : (a / 32 % 2 == 1) = true := by rw [ca]; rfl
        have bb : (b / 32 % 2 == 1) = true := by rw [cb]; rfl
        have hv : q / 32 % 2 = 1 := by rw [hbit, ca, cb]; rfl
        have he : (q % 2 ^ 6 == 0) = false := by
          rw [Bool.eq_iff_iff]; simp; omega
        replace hv := Lib.hid hv
        replace he := Lib.hid he
        replace hX := Lib.hid hX
        clear ca cb hbit
        go_wp2_with fail
        go_roundg 2
        case measure => have := hk.out; omega
        case rel =>
          have := hk.out
          have h3 := hq.out
          exact ⟨6, by omega, by rw [h3, he.out]; (try simp), by (try simp), rfl⟩
    · have hbit := @and_bit64 a b HA.out HB.out
      generalize hq : bits .and .u8 a b = q at hbit hX ⊢
      replace hq := Lib.hid hq
      replace hk := Lib.hid hk
      have ca : a / 64 % 2 = 0 ∨ a / 64 % 2 = 1 := by omega
      have cb : b / 64 % 2 = 0 ∨ b / 64 % 2 = 1 := by omega
      rcases ca with ca | ca <;> rcases cb with cb | cb
      · have ba : (a / 64 % 2 == 1) = false := by rw [ca]; rfl
        have bb : (b / 64 % 2 == 1) = false := by rw [cb]; rfl
        have hv : q / 64 % 2 = 0 := by rw [hbit, ca, cb]; rfl
        have he : (q % 2 ^ 7 == 0) = (q % 2 ^ 6 == 0) := by
          rw [Bool.eq_iff_iff]; simp; omega
        replace hv := Lib.hid hv
        replace he := Lib.hid he
        replace hX := Lib.hid hX
        clear ca cb hbit
        go_wp2_with fail
        go_roundg 1
        case measure => have := hk.out; omega
        case rel =>
          have := hk.out
          have h3 := hq.out
          exact ⟨7, by omega, by rw [h3, he.out]; (try simp), by (try simp), rfl⟩
      · have ba : (a / 64 % 2 == 1) = false := by rw [ca]; rfl
        have bb : (b / 64 % 2 == 1) = true := by rw [cb]; rfl
        have hv : q / 64 % 2 = 0 := by rw [hbit, ca, cb]; rfl
        have he : (q % 2 ^ 7 == 0) = (q % 2 ^ 6 == 0) := by
          rw [Bool.eq_iff_iff]; simp; omega
        replace hv := Lib.hid hv
        replace he := Lib.hid he
        replace hX := Lib.hid hX
        clear ca cb hbit
        go_wp2_with fail
        go_roundg 1
        case measure => have := hk.out; omega
        case rel =>
          have := hk.out
          have h3 := hq.out
          exact ⟨7, by omega, by rw [h3, he.out]; (try simp), by (try simp), rfl⟩
      · have ba : (a / 64 % 2 == 1) = true := by rw [ca]; rfl
        have bb : (b / 64 % 2 == 1) = false := by rw [cb]; rfl
        have hv : q / 64 % 2 = 0 := by rw [hbit, ca, cb]; rfl
        have he : (q % 2 ^ 7 == 0) = (q % 2 ^ 6 == 0) := by
          rw [Bool.eq_iff_iff]; simp; omega
        replace hv := Lib.hid hv
        replace he := Lib.hid he
        replace hX := Lib.hid hX
        clear ca cb hbit
        go_wp2_with fail
        go_roundg 1
        case measure => have := hk.out; omega
        case rel =>
          have := hk.out
          have h3 := hq.out
          exact ⟨7, by omega, by rw [h3, he.out]; (try simp), by (try simp), rfl⟩
      · have ba : (a / 64 % 2 == 1) = true := by rw [ca]; rfl
        have bb : (b / 64 % 2 == 1) = true := by rw [cb]; rfl
        have hv : q / 64 % 2 = 1 := by rw [hbit, ca, cb]; rfl
        have he : (q % 2 ^ 7 == 0) = false := by
          rw [Bool.eq_iff_iff]; simp; omega
        replace hv := Lib.hid hv
        replace he := Lib.hid he
        replace hX := Lib.hid hX
        clear ca cb hbit
        go_wp2_with fail
        go_roundg 1
        case measure => have := hk.out; omega
        case rel =>
          have := hk.out
          have h3 := hq.out
          exact ⟨7, by omega, by rw [h3, he.out]; (try simp), by (try simp), rfl⟩
    · have hbit := @and_bit128 a b HA.out HB.out
      generalize hq : bits .and .u8 a b = q at hbit hX ⊢
      replace hq := Lib.hid hq
      replace hk := Lib.hid hk
      have ca : a / 128 % 2 = 0 ∨ a / 128 % 2 = 1 := by omega
      have cb : b / 128 % 2 = 0 ∨ b / 128 % 2 = 1 := by omega
      rcases ca with ca | ca <;> rcases cb with cb | cb
      · have ba : (a / 128 % 2 == 1) = false := by rw [ca]; rfl
        have bb : (b / 128 % 2 == 1) = false := by rw [cb]; rfl
        have hv : q / 128 % 2 = 0 := by rw [hbit, ca, cb]; rfl
        have he : (q % 2 ^ 8 == 0) = (q % 2 ^ 7 == 0) := by
          rw [Bool.eq_iff_iff]; simp; omega
        replace hv := Lib.hid hv
        replace he := Lib.hid he
        replace hX := Lib.hid hX
        clear ca cb hbit
        go_wp2_with fail
        go_roundg 0
        case measure => have := hk.out; omega
        case rel =>
          have := hk.out
          have h3 := hq.out
          exact ⟨8, by omega, by rw [h3, he.out]; (try simp), by (try simp), rfl⟩
      · have ba : (a / 128 % 2 == 1) = false := by rw [ca]; rfl
        have bb : (b / 128 % 2 == 1) = true := by rw [cb]; rfl
        have hv : q / 128 % 2 = 0 := by rw [hbit, ca, cb]; rfl
        have he : (q % 2 ^ 8 == 0) = (q % 2 ^ 7 == 0) := by
          rw [Bool.eq_iff_iff]; simp; omega
        replace hv := Lib.hid hv
        replace he := Lib.hid he
        replace hX := Lib.hid hX
        clear ca cb hbit
        go_wp2_with fail
        go_roundg 0
        case measure => have := hk.out; omega
        case rel =>
          have := hk.out
          have h3 := hq.out
          exact ⟨8, by omega, by rw [h3, he.out]; (try simp), by (try simp), rfl⟩
      · have ba : (a / 128 % 2 == 1) = true := by rw [ca]; rfl
        have bb : (b / 128 % 2 == 1) = false := by rw [cb]; rfl
        have hv : q / 128 % 2 = 0 := by rw [hbit, ca, cb]; rfl
        have he : (q % 2 ^ 8 == 0) = (q % 2 ^ 7 == 0) := by
          rw [Bool.eq_iff_iff]; simp; omega
        replace hv := Lib.hid hv
        replace he := Lib.hid he
        replace hX := Lib.hid hX
        clear ca cb hbit
        go_wp2_with fail
        go_roundg 0
        case measure => have := hk.out; omega
        case rel =>
          have := hk.out
          have h3 := hq.out
          exact ⟨8, by omega, by rw [h3, he.out]; (try simp), by (try simp), rfl⟩
      · have ba : (a / 128 % 2 == 1) = true := by rw [ca]; rfl
        have bb : (b / 128 % 2 == 1) = true := by rw [cb]; rfl
        have hv : q / 128 % 2 = 1 := by rw [hbit, ca, cb]; rfl
        have he : (q % 2 ^ 8 == 0) = false := by
          rw [Bool.eq_iff_iff]; simp; omega
        replace hv := Lib.hid hv
        replace he := Lib.hid he
        replace hX := Lib.hid hX
        clear ca cb hbit
        go_wp2_with fail
        go_roundg 0
        case measure => have := hk.out; omega
        case rel =>
          have := hk.out
          have h3 := hq.out
          exact ⟨8, by omega, by rw [h3, he.out]; (try simp), by (try simp), rfl⟩
    · have he : (bits .and .u8 a b % 2 ^ 8 == 0) = (bits .and .u8 a b == 0) := by
        rw [Bool.eq_iff_iff]; simp; omega
      rw [he]
      replace he := Lib.hid he
      replace hX := Lib.hid hX
      go_wp2_with fail
      refine (rset_any _ _ 2 (bits .and .u8 a b == 0) H2.out (by simp [IsFlag])).mono ?_
      rintro _ _ ⟨rfl, rfl⟩
      go_wp2_with fail
      go_ret
      exact ⟨rfl, rfl⟩
end Go.Proofs.Ytmiihcaccejklaa
