/- PROVED: the contracts of keepsakeref15.and, or and xor. No conditions beyond those that each theorem states. -/
import Derived.Test.YtmiihcaccejklaaRef13
namespace Go.Proofs.Ytmiihcaccejklaa
open Go.RowKit Go.Proofs.YtmiihcaccejklaaLib
set_option linter.unusedSimpArgs false
set_option linter.unusedVariables false

theorem and_bit1 {a b : Int} (ha : Byte a) (hb : Byte b) : bits .and .u8 a b / 1 % 2 = if a / 1 % 2 = 1 ∧ b / 1 % 2 = 1 then 1 else 0 := by
  obtain ⟨a0, a1⟩ := ha
  obtain ⟨b0, b1⟩ := hb
  obtain ⟨x, rfl⟩ := Int.eq_ofNat_of_zero_le a0
  obtain ⟨y, rfl⟩ := Int.eq_ofNat_of_zero_le b0
  rw [Go.u8_and_nat x y (by omega) (by omega)]
  have h := Nat.testBit_and x y 0
  generalize x &&& y = q at h ⊢
  rw [Nat.testBit_eq_decide_div_mod_eq, Nat.testBit_eq_decide_div_mod_eq, Nat.testBit_eq_decide_div_mod_eq, ← Bool.decide_and, decide_eq_decide] at h
  simp at h
  split <;> omega
theorem and_bit2 {a b : Int} (ha : Byte a) (hb : Byte b) : bits .and .u8 a b / 2 % 2 = if a / 2 % 2 = 1 ∧ b / 2 % 2 = 1 then 1 else 0 := by
  obtain ⟨a0, a1⟩ := ha
  obtain ⟨b0, b1⟩ := hb
  obtain ⟨x, rfl⟩ := Int.eq_ofNat_of_zero_le a0
  obtain ⟨y, rfl⟩ := Int.eq_ofNat_of_zero_le b0
  rw [Go.u8_and_nat x y (by omega) (by omega)]
  have h := Nat.testBit_and x y 1
  generalize x &&& y = q at h ⊢
  rw [Nat.testBit_eq_decide_div_mod_eq, Nat.testBit_eq_decide_div_mod_eq, Nat.testBit_eq_decide_div_mod_eq, ← Bool.decide_and, decide_eq_decide] at h
  simp at h
  split <;> omega
theorem and_bit4 {a b : Int} (ha : Byte a) (hb : Byte b) : bits .and .u8 a b / 4 % 2 = if a / 4 % 2 = 1 ∧ b / 4 % 2 = 1 then 1 else 0 := by
  obtain ⟨a0, a1⟩ := ha
  obtain ⟨b0, b1⟩ := hb
  obtain ⟨x, rfl⟩ := Int.eq_ofNat_of_zero_le a0
  obtain ⟨y, rfl⟩ := Int.eq_ofNat_of_zero_le b0
  rw [Go.u8_and_nat x y (by omega) (by omega)]
  have h := Nat.testBit_and x y 2
  generalize x &&& y = q at h ⊢
  rw [Nat.testBit_eq_decide_div_mod_eq, Nat.testBit_eq_decide_div_mod_eq, Nat.testBit_eq_decide_div_mod_eq, ← Bool.decide_and, decide_eq_decide] at h
  simp at h
  split <;> omega
theorem and_bit8 {a b : Int} (ha : Byte a) (hb : Byte b) : bits .and .u8 a b / 8 % 2 = if a / 8 % 2 = 1 ∧ b / 8 % 2 = 1 then 1 else 0 := by
  obtain ⟨a0, a1⟩ := ha
  obtain ⟨b0, b1⟩ := hb
  obtain ⟨x, rfl⟩ := Int.eq_ofNat_of_zero_le a0
  obtain ⟨y, rfl⟩ := Int.eq_ofNat_of_zero_le b0
  rw [Go.u8_and_nat x y (by omega) (by omega)]
  have h := Nat.testBit_and x y 3
  generalize x &&& y = q at h ⊢
  rw [Nat.testBit_eq_decide_div_mod_eq, Nat.testBit_eq_decide_div_mod_eq, Nat.testBit_eq_decide_div_mod_eq, ← Bool.decide_and, decide_eq_decide] at h
  simp at h
  split <;> omega
theorem and_bit16 {a b : Int} (ha : Byte a) (hb : Byte b) : bits .and .u8 a b / 16 % 2 = if a / 16 % 2 = 1 ∧ b / 16 % 2 = 1 then 1 else 0 := by
  obtain ⟨a0, a1⟩ := ha
  obtain ⟨b0, b1⟩ := hb
  obtain ⟨x, rfl⟩ := Int.eq_ofNat_of_zero_le a0
  obtain ⟨y, rfl⟩ := Int.eq_ofNat_of_zero_le b0
  rw [Go.u8_and_nat x y (by omega) (by omega)]
  have h := Nat.testBit_and x y 4
  generalize x &&& y = q at h ⊢
  rw [Nat.testBit_eq_decide_div_mod_eq, Nat.testBit_eq_decide_div_mod_eq, Nat.testBit_eq_decide_div_mod_eq, ← Bool.decide_and, decide_eq_decide] at h
  simp at h
  split <;> omega
theorem and_bit32 {a b : Int} (ha : Byte a) (hb : Byte b) : bits .and .u8 a b / 32 % 2 = if a / 32 % 2 = 1 ∧ b / 32 % 2 = 1 then 1 else 0 := by
  obtain ⟨a0, a1⟩ := ha
  obtain ⟨b0, b1⟩ := hb
  obtain ⟨x, rfl⟩ := Int.eq_ofNat_of_zero_le a0
  obtain ⟨y, rfl⟩ := Int.eq_ofNat_of_zero_le b0
  rw [Go.u8_and_nat x y (by omega) (by omega)]
  have h := Nat.testBit_and x y 5
  generalize x &&& y = q at h ⊢
  rw [Nat.testBit_eq_decide_div_mod_eq, Nat.testBit_eq_decide_div_mod_eq, Nat.testBit_eq_decide_div_mod_eq, ← Bool.decide_and, decide_eq_decide] at h
  simp at h
  split <;> omega
theorem and_bit64 {a b : Int} (ha : Byte a) (hb : Byte b) : bits .and .u8 a b / 64 % 2 = if a / 64 % 2 = 1 ∧ b / 64 % 2 = 1 then 1 else 0 := by
  obtain ⟨a0, a1⟩ := ha
  obtain ⟨b0, b1⟩ := hb
  obtain ⟨x, rfl⟩ := Int.eq_ofNat_of_zero_le a0
  obtain ⟨y, rfl⟩ := Int.eq_ofNat_of_zero_le b0
  rw [Go.u8_and_nat x y (by omega) (by omega)]
  have h := Nat.testBit_and x y 6
  generalize x &&& y = q at h ⊢
  rw [Nat.testBit_eq_decide_div_mod_eq, Nat.testBit_eq_decide_div_mod_eq, Nat.testBit_eq_decide_div_mod_eq, ← Bool.decide_and, decide_eq_decide] at h
  simp at h
  split <;> omega
theorem and_bit128 {a b : Int} (ha : Byte a) (hb : Byte b) : bits .and .u8 a b / 128 % 2 = if a / 128 % 2 = 1 ∧ b / 128 % 2 = 1 then 1 else 0 := by
  obtain ⟨a0, a1⟩ := ha
  obtain ⟨b0, b1⟩ := hb
  obtain ⟨x, rfl⟩ := Int.eq_ofNat_of_zero_le a0
  obtain ⟨y, rfl⟩ := Int.eq_ofNat_of_zero_le b0
  rw [Go.u8_and_nat x y (by omega) (by omega)]
  have h := Nat.testBit_and x y 7
  generalize x &&& y = q at h ⊢
  rw [Nat.testBit_eq_decide_div_mod_eq, Nat.testBit_eq_decide_div_mod_eq, Nat.testBit_eq_decide_div_mod_eq, ← Bool.decide_and, decide_eq_decide] at h
  simp at h
  split <;> omega

set_option maxHeartbeats 2000000 in
theorem rand_any (w : World) (a b : Int) (ha : Byte a) (hb : Byte b) :
    Calls Try.prog 37 #[.int .u8 a, .int .u8 b] w fun e W => e = .returned (.int .u8 (bits .and .u8 a b)) ∧ w = W := by
  have HA := Lib.hid ha
  have HB := Lib.hid hb
  have HX := Lib.hid (bits_byte .and a b)
  obtain ⟨a0, a1⟩ := ha
  obtain ⟨b0, b1⟩ := hb
  go_enter Try.func37, Try.ntmps37
  go_wp2_with fail
  go_loopg [5, 6] 8 (fun g n f wr => ∃ k : Nat, k + g = 8 ∧ n = .int .i64 (bits .and .u8 a b % 2 ^ k) ∧ f = .int .i64 (2 ^ k) ∧ wr = w)
  case atStart => exact ⟨0, by omega, by simp <;> omega, by simp, rfl⟩
  case round =>
    obtain ⟨k, hk, rfl, rfl, rfl⟩ := hrel
    have hcases : k = 0 ∨ k = 1 ∨ k = 2 ∨ k = 3 ∨ k = 4 ∨ k = 5 ∨ k = 6 ∨ k = 7 ∨ k = 8 := by omega
    have hX := HX.out
    rcases hcases with rfl | rfl | rfl | rfl | rfl | rfl | rfl | rfl | rfl
    · have hbit := @and_bit1 a b HA.out HB.out
      simp only [Int.ediv_one] at hbit
      generalize hq : bits .and .u8 a b = q at hbit hX ⊢
      replace hq := Lib.hid hq
      replace hk := Lib.hid hk
      have q0 : 0 ≤ q % 2 ^ 0 := by simp <;> omega
      have q1 : q % 2 ^ 0 < 1 := by simp <;> omega
      have ca : a % 2 = 0 ∨ a % 2 = 1 := by omega
      have cb : b % 2 = 0 ∨ b % 2 = 1 := by omega
      rcases ca with ca | ca <;> rcases cb with cb | cb
      · have ba : (a % 2 == 1) = false := by rw [ca]; rfl
        have bb : (b % 2 == 1) = false := by rw [cb]; rfl
        have hv : q % 2 = 0 := by rw [hbit, ca, cb]; rfl
        replace hv := Lib.hid hv
        replace hX := Lib.hid hX
        clear ca cb hbit
        go_wp2_with fail
        go_roundg 7
        case measure => have := hk.out; omega
        case rel =>
          have := hk.out
          have := hv.out
          have := hX.out
          have h3 := hq.out
          exact ⟨1, by omega, by rw [h3]; (try simp only [Value.int.injEq, true_and]) <;> (try simp) <;> omega, by (try simp), rfl⟩
      · have ba : (a % 2 == 1) = false := by rw [ca]; rfl
        have bb : (b % 2 == 1) = true := by rw [cb]; rfl
        have hv : q % 2 = 0 := by rw [hbit, ca, cb]; rfl
        replace hv := Lib.hid hv
        replace hX := Lib.hid hX
        clear ca cb hbit
        go_wp2_with fail
        go_roundg 7
        case measure => have := hk.out; omega
        case rel =>
          have := hk.out
          have := hv.out
          have := hX.out
          have h3 := hq.out
          exact ⟨1, by omega, by rw [h3]; (try simp only [Value.int.injEq, true_and]) <;> (try simp) <;> omega, by (try simp), rfl⟩
      · have ba : (a % 2 == 1) = true := by rw [ca]; rfl
        have bb : (b % 2 == 1) = false := by rw [cb]; rfl
        have hv : q % 2 = 0 := by rw [hbit, ca, cb]; rfl
        replace hv := Lib.hid hv
        replace hX := Lib.hid hX
        clear ca cb hbit
        go_wp2_with fail
        go_roundg 7
        case measure => have := hk.out; omega
        case rel =>
          have := hk.out
          have := hv.out
          have := hX.out
          have h3 := hq.out
          exact ⟨1, by omega, by rw [h3]; (try simp only [Value.int.injEq, true_and]) <;> (try simp) <;> omega, by (try simp), rfl⟩
      · have ba : (a % 2 == 1) = true := by rw [ca]; rfl
        have bb : (b % 2 == 1) = true := by rw [cb]; rfl
        have hv : q % 2 = 1 := by rw [hbit, ca, cb]; rfl
        replace hv := Lib.hid hv
        replace hX := Lib.hid hX
        clear ca cb hbit
        go_wp2_with fail
        go_roundg 7
        case measure => have := hk.out; omega
        case rel =>
          have := hk.out
          have := hv.out
          have := hX.out
          have h3 := hq.out
          exact ⟨1, by omega, by rw [h3]; (try simp only [Value.int.injEq, true_and]) <;> (try simp) <;> omega, by (try simp), rfl⟩
    · have hbit := @and_bit2 a b HA.out HB.out
      generalize hq : bits .and .u8 a b = q at hbit hX ⊢
      replace hq := Lib.hid hq
      replace hk := Lib.hid hk
      have q0 : 0 ≤ q % 2 ^ 1 := by simp <;> omega
      have q1 : q % 2 ^ 1 < 2 := by simp <;> omega
      have ca : a / 2 % 2 = 0 ∨ a / 2 % 2 = 1 := by omega
      have cb : b / 2 % 2 = 0 ∨ b / 2 % 2 = 1 := by omega
      rcases ca with ca | ca <;> rcases cb with cb | cb
      · have ba : (a / 2 % 2 == 1) = false := by rw [ca]; rfl
        have bb : (b / 2 % 2 == 1) = false := by rw [cb]; rfl
        have hv : q / 2 % 2 = 0 := by rw [hbit, ca, cb]; rfl
        replace hv := Lib.hid hv
        replace hX := Lib.hid hX
        clear ca cb hbit
        go_wp2_with fail
        go_roundg 6
        case measure => have := hk.out; omega
        case rel =>
          have := hk.out
          have := hv.out
          have := hX.out
          have h3 := hq.out
          exact ⟨2, by omega, by rw [h3]; (try simp only [Value.int.injEq, true_and]) <;> (try simp) <;> omega, by (try simp), rfl⟩
      · have ba : (a / 2 % 2 == 1) = false := by rw [ca]; rfl
        have bb : (b / 2 % 2 == 1) = true := by rw [cb]; rfl
        have hv : q / 2 % 2 = 0 := by rw [hbit, ca, cb]; rfl
        replace hv := Lib.hid hv
        replace hX := Lib.hid hX
        clear ca cb hbit
        go_wp2_with fail
        go_roundg 6
        case measure => have := hk.out; omega
        case rel =>
          have := hk.out
          have := hv.out
          have := hX.out
          have h3 := hq.out
          exact ⟨2, by omega, by rw [h3]; (try simp only [Value.int.injEq, true_and]) <;> (try simp) <;> omega, by (try simp), rfl⟩
      · have ba : (a / 2 % 2 == 1) = true := by rw [ca]; rfl
        have bb : (b / 2 % 2 == 1) = false := by rw [cb]; rfl
        have hv : q / 2 % 2 = 0 := by rw [hbit, ca, cb]; rfl
        replace hv := Lib.hid hv
        replace hX := Lib.hid hX
        clear ca cb hbit
        go_wp2_with fail
        go_roundg 6
        case measure => have := hk.out; omega
        case rel =>
          have := hk.out
          have := hv.out
          have := hX.out
          have h3 := hq.out
          exact ⟨2, by omega, by rw [h3]; (try simp only [Value.int.injEq, true_and]) <;> (try simp) <;> omega, by (try simp), rfl⟩
      · have ba : (a / 2 % 2 == 1) = true := by rw [ca]; rfl
        have bb : (b / 2 % 2 == 1) = true := by rw [cb]; rfl
        have hv : q / 2 % 2 = 1 := by rw [hbit, ca, cb]; rfl
        replace hv := Lib.hid hv
        replace hX := Lib.hid hX
        clear ca cb hbit
        go_wp2_with fail
        go_roundg 6
        case measure => have := hk.out; omega
        case rel =>
          have := hk.out
          have := hv.out
          have := hX.out
          have h3 := hq.out
          exact ⟨2, by omega, by rw [h3]; (try simp only [Value.int.injEq, true_and]) <;> (try simp) <;> omega, by (try simp), rfl⟩
    · have hbit := @and_bit4 a b HA.out HB.out
      generalize hq : bits .and .u8 a b = q at hbit hX ⊢
      replace hq := Lib.hid hq
      replace hk := Lib.hid hk
      have q0 : 0 ≤ q % 2 ^ 2 := by simp <;> omega
      have q1 : q % 2 ^ 2 < 4 := by simp <;> omega
      have ca : a / 4 % 2 = 0 ∨ a / 4 % 2 = 1 := by omega
      have cb : b / 4 % 2 = 0 ∨ b / 4 % 2 = 1 := by omega
      rcases ca with ca | ca <;> rcases cb with cb | cb
      · have ba : (a / 4 % 2 == 1) = false := by rw [ca]; rfl
        have bb : (b / 4 % 2 == 1) = false := by rw [cb]; rfl
        have hv : q / 4 % 2 = 0 := by rw [hbit, ca, cb]; rfl
        replace hv := Lib.hid hv
        replace hX := Lib.hid hX
        clear ca cb hbit
        go_wp2_with fail
        go_roundg 5
        case measure => have := hk.out; omega
        case rel =>
          have := hk.out
          have := hv.out
          have := hX.out
          have h3 := hq.out
          exact ⟨3, by omega, by rw [h3]; (try simp only [Value.int.injEq, true_and]) <;> (try simp) <;> omega, by (try simp), rfl⟩
      · have ba : (a / 4 % 2 == 1) = false := by rw [ca]; rfl
        have bb : (b / 4 % 2 == 1) = true := by rw [cb]; rfl
        have hv : q / 4 % 2 = 0 := by rw [hbit, ca, cb]; rfl
        replace hv := Lib.hid hv
        replace hX := Lib.hid hX
        clear ca cb hbit
        go_wp2_with fail
        go_roundg 5
        case measure => have := hk.out; omega
        case rel =>
          have := hk.out
          have := hv.out
          have := hX.out
          have h3 := hq.out
          exact ⟨3, by omega, by rw [h3]; (try simp only [Value.int.injEq, true_and]) <;> (try simp) <;> omega, by (try simp), rfl⟩
      · have ba : (a / 4 % 2 == 1) = true := by rw [ca]; rfl
        have bb : (b / 4 % 2 == 1) = false := by rw [cb]; rfl
        have hv : q / 4 % 2 = 0 := by rw [hbit, ca, cb]; rfl
        replace hv := Lib.hid hv
        replace hX := Lib.hid hX
        clear ca cb hbit
        go_wp2_with fail
        go_roundg 5
        case measure => have := hk.out; omega
        case rel =>
          have := hk.out
          have := hv.out
          have := hX.out
          have h3 := hq.out
          exact ⟨3, by omega, by rw [h3]; (try simp only [Value.int.injEq, true_and]) <;> (try simp) <;> omega, by (try simp), rfl⟩
      · have ba : (a / 4 % 2 == 1) = true := by rw [ca]; rfl
        have bb : (b / 4 % 2 == 1) = true := by rw [cb]; rfl
        have hv : q / 4 % 2 = 1 := by rw [hbit, ca, cb]; rfl
        replace hv := Lib.hid hv
        replace hX := Lib.hid hX
        clear ca cb hbit
        go_wp2_with fail
        go_roundg 5
        case measure => have := hk.out; omega
        case rel =>
          have := hk.out
          have := hv.out
          have := hX.out
          have h3 := hq.out
          exact ⟨3, by omega, by rw [h3]; (try simp only [Value.int.injEq, true_and]) <;> (try simp) <;> omega, by (try simp), rfl⟩
    · have hbit := @and_bit8 a b HA.out HB.out
      generalize hq : bits .and .u8 a b = q at hbit hX ⊢
      replace hq := Lib.hid hq
      replace hk := Lib.hid hk
      have q0 : 0 ≤ q % 2 ^ 3 := by simp <;> omega
      have q1 : q % 2 ^ 3 < 8 := by simp <;> omega
      have ca : a / 8 % 2 = 0 ∨ a / 8 % 2 = 1 := by omega
      have cb : b / 8 % 2 = 0 ∨ b / 8 % 2 = 1 := by omega
      rcases ca with ca | ca <;> rcases cb with cb | cb
      · have ba : (a / 8 % 2 == 1) = false := by rw [ca]; rfl
        have bb : (b / 8 % 2 == 1) = false := by rw [cb]; rfl
        have hv : q / 8 % 2 = 0 := by rw [hbit, ca, cb]; rfl
        replace hv := Lib.hid hv
        replace hX := Lib.hid hX
        clear ca cb hbit
        go_wp2_with fail
        go_roundg 4
        case measure => have := hk.out; omega
        case rel =>
          have := hk.out
          have := hv.out
          have := hX.out
          have h3 := hq.out
          exact ⟨4, by omega, by rw [h3]; (try simp only [Value.int.injEq, true_and]) <;> (try simp) <;> omega, by (try simp), rfl⟩
      · have ba : (a / 8 % 2 == 1) = false := by rw [ca]; rfl
        have bb : (b / 8 % 2 == 1) = true := by rw [cb]; rfl
        have hv : q / 8 % 2 = 0 := by rw [hbit, ca, cb]; rfl
        replace hv := Lib.hid hv
        replace hX := Lib.hid hX
        clear ca cb hbit
        go_wp2_with fail
        go_roundg 4
        case measure => have := hk.out; omega
        case rel =>
          have := hk.out
          have := hv.out
          have := hX.out
          have h3 := hq.out
          exact ⟨4, by omega, by rw [h3]; (try simp only [Value.int.injEq, true_and]) <;> (try simp) <;> omega, by (try simp), rfl⟩
      · have ba : (a / 8 % 2 == 1) = true := by rw [ca]; rfl
        have bb : (b / 8 % 2 == 1) = false := by rw [cb]; rfl
        have hv : q / 8 % 2 = 0 := by rw [hbit, ca, cb]; rfl
        replace hv := Lib.hid hv
        replace hX := Lib.hid hX
        clear ca cb hbit
        go_wp2_with fail
        go_roundg 4
        case measure => have := hk.out; omega
        case rel =>
          have := hk.out
          have := hv.out
          have := hX.out
          have h3 := hq.out
          exact ⟨4, by omega, by rw [h3]; (try simp only [Value.int.injEq, true_and]) <;> (try simp) <;> omega, by (try simp), rfl⟩
      · have ba : (a / 8 % 2 == 1) = true := by rw [ca]; rfl
        have bb : (b / 8 % 2 == 1) = true := by rw [cb]; rfl
        have hv : q / 8 % 2 = 1 := by rw [hbit, ca, cb]; rfl
        replace hv := Lib.hid hv
        replace hX := Lib.hid hX
        clear ca cb hbit
        go_wp2_with fail
        go_roundg 4
        case measure => have := hk.out; omega
        case rel =>
          have := hk.out
          have := hv.out
          have := hX.out
          have h3 := hq.out
          exact ⟨4, by omega, by rw [h3]; (try simp only [Value.int.injEq, true_and]) <;> (try simp) <;> omega, by (try simp), rfl⟩
    · have hbit := @and_bit16 a b HA.out HB.out
      generalize hq : bits .and .u8 a b = q at hbit hX ⊢
      replace hq := Lib.hid hq
      replace hk := Lib.hid hk
      have q0 : 0 ≤ q % 2 ^ 4 := by simp <;> omega
      have q1 : q % 2 ^ 4 < 16 := by simp <;> omega
      have ca : a / 16 % 2 = 0 ∨ a / 16 % 2 = 1 := by omega
      have cb : b / 16 % 2 = 0 ∨ b / 16 % 2 = 1 := by omega
      rcases ca with ca | ca <;> rcases cb with cb | cb
      · have ba : (a / 16 % 2 == 1) = false := by rw [ca]; rfl
        have bb : (b / 16 % 2 == 1) = false := by rw [cb]; rfl
        have hv : q / 16 % 2 = 0 := by rw [hbit, ca, cb]; rfl
        replace hv := Lib.hid hv
        replace hX := Lib.hid hX
        clear ca cb hbit
        go_wp2_with fail
        go_roundg 3
        case measure => have := hk.out; omega
        case rel =>
          have := hk.out
          have := hv.out
          have := hX.out
          have h3 := hq.out
          exact ⟨5, by omega, by rw [h3]; (try simp only [Value.int.injEq, true_and]) <;> (try simp) <;> omega, by (try simp), rfl⟩
      · have ba : (a / 16 % 2 == 1) = false := by rw [ca]; rfl
        have bb : (b / 16 % 2 == 1) = true := by rw [cb]; rfl
        have hv : q / 16 % 2 = 0 := by rw [hbit, ca, cb]; rfl
        replace hv := Lib.hid hv
        replace hX := Lib.hid hX
        clear ca cb hbit
        go_wp2_with fail
        go_roundg 3
        case measure => have := hk.out; omega
        case rel =>
          have := hk.out
          have := hv.out
          have := hX.out
          have h3 := hq.out
          exact ⟨5, by omega, by rw [h3]; (try simp only [Value.int.injEq, true_and]) <;> (try simp) <;> omega, by (try simp), rfl⟩
      · have ba : (a / 16 % 2 == 1) = true := by rw [ca]; rfl
        have bb : (b / 16 % 2 == 1) = false := by rw [cb]; rfl
        have hv : q / 16 % 2 = 0 := by rw [hbit, ca, cb]; rfl
        replace hv := Lib.hid hv
        replace hX := Lib.hid hX
        clear ca cb hbit
        go_wp2_with fail
        go_roundg 3
        case measure => have := hk.out; omega
        case rel =>
          have := hk.out
          have := hv.out
          have := hX.out
          have h3 := hq.out
          exact ⟨5, by omega, by rw [h3]; (try simp only [Value.int.injEq, true_and]) <;> (try simp) <;> omega, by (try simp), rfl⟩
      · have ba : (a / 16 % 2 == 1) = true := by rw [ca]; rfl
        have bb : (b / 16 % 2 == 1) = true := by rw [cb]; rfl
        have hv : q / 16 % 2 = 1 := by rw [hbit, ca, cb]; rfl
        replace hv := Lib.hid hv
        replace hX := Lib.hid hX
        clear ca cb hbit
        go_wp2_with fail
        go_roundg 3
        case measure => have := hk.out; omega
        case rel =>
          have := hk.out
          have := hv.out
          have := hX.out
          have h3 := hq.out
          exact ⟨5, by omega, by rw [h3]; (try simp only [Value.int.injEq, true_and]) <;> (try simp) <;> omega, by (try simp), rfl⟩
    · have hbit := @and_bit32 a b HA.out HB.out
      generalize hq : bits .and .u8 a b = q at hbit hX ⊢
      replace hq := Lib.hid hq
      replace hk := Lib.hid hk
      have q0 : 0 ≤ q % 2 ^ 5 := by simp <;> omega
      have q1 : q % 2 ^ 5 < 32 := by simp <;> omega
      have ca : a / 32 % 2 = 0 ∨ a / 32 % 2 = 1 := by omega
      have cb : b / 32 % 2 = 0 ∨ b / 32 % 2 = 1 := by omega
      rcases ca with ca | ca <;> rcases cb with cb | cb
      · have ba : (a / 32 % 2 == 1) = false := by rw [ca]; rfl
        have bb : (b / 32 % 2 == 1) = false := by rw [cb]; rfl
        have hv : q / 32 % 2 = 0 := by rw [hbit, ca, cb]; rfl
        replace hv := Lib.hid hv
        replace hX := Lib.hid hX
        clear ca cb hbit
        go_wp2_with fail
        go_roundg 2
        case measure => have := hk.out; omega
        case rel =>
          have := hk.out
          have := hv.out
          have := hX.out
          have h3 := hq.out
          exact ⟨6, by omega, by rw [h3]; (try simp only [Value.int.injEq, true_and]) <;> (try simp) <;> omega, by (try simp), rfl⟩
      · have ba : (a / 32 % 2 == 1) = false := by rw [ca]; rfl
        have bb : (b / 32 % 2 == 1) = true := by rw [cb]; rfl
        have hv : q / 32 % 2 = 0 := by rw [hbit, ca, cb]; rfl
        replace hv := Lib.hid hv
        replace hX := Lib.hid hX
        clear ca cb hbit
        go_wp2_with fail
        go_roundg 2
        case measure => have := hk.out; omega
        case rel =>
          have := hk.out
          have := hv.out
          have := hX.out
          have h3 := hq.out
          exact ⟨6, by omega, by rw [h3]; (try simp only [Value.int.injEq, true_and]) <;> (try simp) <;> omega, by (try simp), rfl⟩
      · have ba : (a / 32 % 2 == 1) = true := by rw [ca]; rfl
        have bb : (b / 32 % 2 == 1) = false := by rw [cb]; rfl
        have hv : q / 32 % 2 = 0 := by rw [hbit, ca, cb]; rfl
        replace hv := Lib.hid hv
        replace hX := Lib.hid hX
        clear ca cb hbit
        go_wp2_with fail
        go_roundg 2
        case measure => have := hk.out; omega
        case rel =>
          have := hk.out
          have := hv.out
          have := hX.out
          have h3 := hq.out
          exact ⟨6, by omega, by rw [h3]; (try simp only [Value.int.injEq, true_and]) <;> (try simp) <;> omega, by (try simp), rfl⟩
      · have ba : (a / 32 % 2 == 1) = true := by rw [ca]; rfl
        have bb : (b / 32 % 2 == 1) = true := by rw [cb]; rfl
        have hv : q / 32 % 2 = 1 := by rw [hbit, ca, cb]; rfl
        replace hv := Lib.hid hv
        replace hX := Lib.hid hX
        clear ca cb hbit
        go_wp2_with fail
        go_roundg 2
        case measure => have := hk.out; omega
        case rel =>
          have := hk.out
          have := hv.out
          have := hX.out
          have h3 := hq.out
          exact ⟨6, by omega, by rw [h3]; (try simp only [Value.int.injEq, true_and]) <;> (try simp) <;> omega, by (try simp), rfl⟩
    · have hbit := @and_bit64 a b HA.out HB.out
      generalize hq : bits .and .u8 a b = q at hbit hX ⊢
      replace hq := Lib.hid hq
      replace hk := Lib.hid hk
      have q0 : 0 ≤ q % 2 ^ 6 := by simp <;> omega
      have q1 : q % 2 ^ 6 < 64 := by simp <;> omega
      have ca : a / 64 % 2 = 0 ∨ a / 64 % 2 = 1 := by omega
      have cb : b / 64 % 2 = 0 ∨ b / 64 % 2 = 1 := by omega
      rcases ca with ca | ca <;> rcases cb with cb | cb
      · have ba : (a / 64 % 2 == 1) = false := by rw [ca]; rfl
        have bb : (b / 64 % 2 == 1) = false := by rw [cb]; rfl
        have hv : q / 64 % 2 = 0 := by rw [hbit, ca, cb]; rfl
        replace hv := Lib.hid hv
        replace hX := Lib.hid hX
        clear ca cb hbit
        go_wp2_with fail
        go_roundg 1
        case measure => have := hk.out; omega
        case rel =>
          have := hk.out
          have := hv.out
          have := hX.out
          have h3 := hq.out
          exact ⟨7, by omega, by rw [h3]; (try simp only [Value.int.injEq, true_and]) <;> (try simp) <;> omega, by (try simp), rfl⟩
      · have ba : (a / 64 % 2 == 1) = false := by rw [ca]; rfl
        have bb : (b / 64 % 2 == 1) = true := by rw [cb]; rfl
        have hv : q / 64 % 2 = 0 := by rw [hbit, ca, cb]; rfl
        replace hv := Lib.hid hv
        replace hX := Lib.hid hX
        clear ca cb hbit
        go_wp2_with fail
        go_roundg 1
        case measure => have := hk.out; omega
        case rel =>
          have := hk.out
          have := hv.out
          have := hX.out
          have h3 := hq.out
          exact ⟨7, by omega, by rw [h3]; (try simp only [Value.int.injEq, true_and]) <;> (try simp) <;> omega, by (try simp), rfl⟩
      · have ba : (a / 64 % 2 == 1) = true := by rw [ca]; rfl
        have bb : (b / 64 % 2 == 1) = false := by rw [cb]; rfl
        have hv : q / 64 % 2 = 0 := by rw [hbit, ca, cb]; rfl
        replace hv := Lib.hid hv
        replace hX := Lib.hid hX
        clear ca cb hbit
        go_wp2_with fail
        go_roundg 1
        case measure => have := hk.out; omega
        case rel =>
          have := hk.out
          have := hv.out
          have := hX.out
          have h3 := hq.out
          exact ⟨7, by omega, by rw [h3]; (try simp only [Value.int.injEq, true_and]) <;> (try simp) <;> omega, by (try simp), rfl⟩
      · have ba : (a / 64 % 2 == 1) = true := by rw [ca]; rfl
        have bb : (b / 64 % 2 == 1) = true := by rw [cb]; rfl
        have hv : q / 64 % 2 = 1 := by rw [hbit, ca, cb]; rfl
        replace hv := Lib.hid hv
        replace hX := Lib.hid hX
        clear ca cb hbit
        go_wp2_with fail
        go_roundg 1
        case measure => have := hk.out; omega
        case rel =>
          have := hk.out
          have := hv.out
          have := hX.out
          have h3 := hq.out
          exact ⟨7, by omega, by rw [h3]; (try simp only [Value.int.injEq, true_and]) <;> (try simp) <;> omega, by (try simp), rfl⟩
    · have hbit := @and_bit128 a b HA.out HB.out
      generalize hq : bits .and .u8 a b = q at hbit hX ⊢
      replace hq := Lib.hid hq
      replace hk := Lib.hid hk
      have q0 : 0 ≤ q % 2 ^ 7 := by simp <;> omega
      have q1 : q % 2 ^ 7 < 128 := by simp <;> omega
      have ca : a / 128 % 2 = 0 ∨ a / 128 % 2 = 1 := by omega
      have cb : b / 128 % 2 = 0 ∨ b / 128 % 2 = 1 := by omega
      rcases ca with ca | ca <;> rcases cb with cb | cb
      · have ba : (a / 128 % 2 == 1) = false := by rw [ca]; rfl
        have bb : (b / 128 % 2 == 1) = false := by rw [cb]; rfl
        have hv : q / 128 % 2 = 0 := by rw [hbit, ca, cb]; rfl
        replace hv := Lib.hid hv
        replace hX := Lib.hid hX
        clear ca cb hbit
        go_wp2_with fail
        go_roundg 0
        case measure => have := hk.out; omega
        case rel =>
          have := hk.out
          have := hv.out
          have := hX.out
          have h3 := hq.out
          exact ⟨8, by omega, by rw [h3]; (try simp only [Value.int.injEq, true_and]) <;> (try simp) <;> omega, by (try simp), rfl⟩
      · have ba : (a / 128 % 2 == 1) = false := by rw [ca]; rfl
        have bb : (b / 128 % 2 == 1) = true := by rw [cb]; rfl
        have hv : q / 128 % 2 = 0 := by rw [hbit, ca, cb]; rfl
        replace hv := Lib.hid hv
        replace hX := Lib.hid hX
        clear ca cb hbit
        go_wp2_with fail
        go_roundg 0
        case measure => have := hk.out; omega
        case rel =>
          have := hk.out
          have := hv.out
          have := hX.out
          have h3 := hq.out
          exact ⟨8, by omega, by rw [h3]; (try simp only [Value.int.injEq, true_and]) <;> (try simp) <;> omega, by (try simp), rfl⟩
      · have ba : (a / 128 % 2 == 1) = true := by rw [ca]; rfl
        have bb : (b / 128 % 2 == 1) = false := by rw [cb]; rfl
        have hv : q / 128 % 2 = 0 := by rw [hbit, ca, cb]; rfl
        replace hv := Lib.hid hv
        replace hX := Lib.hid hX
        clear ca cb hbit
        go_wp2_with fail
        go_roundg 0
        case measure => have := hk.out; omega
        case rel =>
          have := hk.out
          have := hv.out
          have := hX.out
          have h3 := hq.out
          exact ⟨8, by omega, by rw [h3]; (try simp only [Value.int.injEq, true_and]) <;> (try simp) <;> omega, by (try simp), rfl⟩
      · have ba : (a / 128 % 2 == 1) = true := by rw [ca]; rfl
        have bb : (b / 128 % 2 == 1) = true := by rw [cb]; rfl
        have hv : q / 128 % 2 = 1 := by rw [hbit, ca, cb]; rfl
        replace hv := Lib.hid hv
        replace hX := Lib.hid hX
        clear ca cb hbit
        go_wp2_with fail
        go_roundg 0
        case measure => have := hk.out; omega
        case rel =>
          have := hk.out
          have := hv.out
          have := hX.out
          have h3 := hq.out
          exact ⟨8, by omega, by rw [h3]; (try simp only [Value.int.injEq, true_and]) <;> (try simp) <;> omega, by (try simp), rfl⟩
    · go_wp2_with fail
      go_ret
      refine ⟨?_, rfl⟩
      congr 2
      simp
      omega
theorem or_and_sum : ∀ (n x y : Nat), x ≤ n → (x ||| y) + (x &&& y) = x + y := by
  intro n
  induction n with
  | zero =>
    intro x y h
    have hx : x = 0 := by omega
    subst hx
    simp
  | succ n ih =>
    intro x y h
    by_cases hx : x = 0
    · subst hx; simp
    have := ih (x / 2) (y / 2) (by omega)
    rw [← Nat.or_div_two, ← Nat.and_div_two] at this
    have e1 := Nat.testBit_or x y 0
    have e2 := Nat.testBit_and x y 0
    simp only [Nat.testBit_zero] at e1 e2
    generalize x ||| y = r at *
    generalize x &&& y = q at *
    rcases (by omega : x % 2 = 0 ∨ x % 2 = 1) with e | e <;> rcases (by omega : y % 2 = 0 ∨ y % 2 = 1) with g | g <;> simp [e, g] at e1 e2 <;> omega
theorem xor_and_sum : ∀ (n x y : Nat), x ≤ n → (x ^^^ y) + 2 * (x &&& y) = x + y := by
  intro n
  induction n with
  | zero =>
    intro x y h
    have hx : x = 0 := by omega
    subst hx
    simp
  | succ n ih =>
    intro x y h
    by_cases hx : x = 0
    · subst hx; simp
    have := ih (x / 2) (y / 2) (by omega)
    rw [← Nat.xor_div_two, ← Nat.and_div_two] at this
    have e1 := Nat.testBit_xor x y 0
    have e2 := Nat.testBit_and x y 0
    simp only [Nat.testBit_zero] at e1 e2
    generalize x ^^^ y = r at *
    generalize x &&& y = q at *
    rcases (by omega : x % 2 = 0 ∨ x % 2 = 1) with e | e <;> rcases (by omega : y % 2 = 0 ∨ y % 2 = 1) with g | g <;> simp [e, g] at e1 e2 <;> omega
theorem or_sum {a b : Int} (ha : Byte a) (hb : Byte b) : bits .or .u8 a b = a + b - bits .and .u8 a b := by
  obtain ⟨a0, a1⟩ := ha
  obtain ⟨b0, b1⟩ := hb
  obtain ⟨x, rfl⟩ := Int.eq_ofNat_of_zero_le a0
  obtain ⟨y, rfl⟩ := Int.eq_ofNat_of_zero_le b0
  rw [Go.u8_and_nat x y (by omega) (by omega), Go.u8_or_nat x y (by omega) (by omega)]
  have := or_and_sum x x y (Nat.le_refl _)
  omega
theorem refor_any (w : World) (a b : Int) (ha : Byte a) (hb : Byte b) :
    Calls Try.prog 36 #[.int .u8 a, .int .u8 b] w fun e W => e = .returned (.int .u8 (bits .or .u8 a b)) ∧ w = W := by
  have HS := Lib.hid (or_sum ha hb)
  have HC := Lib.hid (rand_any w a b ha hb)
  have HO := Lib.hid (bits_byte .or a b)
  obtain ⟨x0, x1⟩ := bits_byte .and a b
  obtain ⟨a0, a1⟩ := ha
  obtain ⟨b0, b1⟩ := hb
  go_enter Try.func36, Try.ntmps36
  go_wp2_with fail
  refine HC.out.mono ?_
  rintro _ _ ⟨rfl, rfl⟩
  go_wp2_with fail
  go_ret
  refine ⟨?_, rfl⟩
  have h1 := HS.out
  have h2 := HO.out
  rw [h1] at h2 ⊢
  congr 2
  first | rfl | (simp; done) | (simp; omega) | omega
theorem xor_sum {a b : Int} (ha : Byte a) (hb : Byte b) : bits .xor .u8 a b = a + b - 2 * bits .and .u8 a b := by
  obtain ⟨a0, a1⟩ := ha
  obtain ⟨b0, b1⟩ := hb
  obtain ⟨x, rfl⟩ := Int.eq_ofNat_of_zero_le a0
  obtain ⟨y, rfl⟩ := Int.eq_ofNat_of_zero_le b0
  rw [Go.u8_and_nat x y (by omega) (by omega), Go.u8_xor_nat x y (by omega) (by omega)]
  have := xor_and_sum x x y (Nat.le_refl _)
  omega
theorem refxor_any (w : World) (a b : Int) (ha : Byte a) (hb : Byte b) :
    Calls Try.prog 38 #[.int .u8 a, .int .u8 b] w fun e W => e = .returned (.int .u8 (bits .xor .u8 a b)) ∧ w = W := by
  have HS := Lib.hid (xor_sum ha hb)
  have HC := Lib.hid (rand_any w a b ha hb)
  have HO := Lib.hid (bits_byte .xor a b)
  obtain ⟨x0, x1⟩ := bits_byte .and a b
  obtain ⟨a0, a1⟩ := ha
  obtain ⟨b0, b1⟩ := hb
  go_enter Try.func38, Try.ntmps38
  go_wp2_with fail
  refine HC.out.mono ?_
  rintro _ _ ⟨rfl, rfl⟩
  go_wp2_with fail
  go_ret
  refine ⟨?_, rfl⟩
  have h1 := HS.out
  have h2 := HO.out
  rw [h1] at h2 ⊢
  congr 2
  first | rfl | (simp; done) | (simp; omega) | omega
end Go.Proofs.Ytmiihcaccejklaa
