/- PROVED: the contract of keepsakeref13.Arr. No conditions beyond those that each theorem states. -/
import Derived.Test.YtmiihcaccejklaaRef15b
import Derived.Test.YtmiihcaccejklaaRef13b
namespace Go.Proofs.Ytmiihcaccejklaa
open Go.RowKit Go.Proofs.YtmiihcaccejklaaLib
set_option linter.unusedSimpArgs false
set_option linter.unusedVariables false

set_option maxHeartbeats 4000000 in
theorem rarr_any (w : World) (a b p : Int) (ha : Byte a) (hb : Byte b) (hp : Byte p) :
    Calls Try.prog 50 #[.int .u8 a, .int .u8 b, .int .u8 p] w fun e W => e = .returned (.tuple #[.int .u8 (arrM a b p).1, .int .u8 (arrM a b p).2]) ∧ w = W := by
  have HA := Lib.hid ha
  have HB := Lib.hid hb
  have HX := Lib.hid (bits_byte .and a b)
  have H0 := Lib.hid hp
  have hd : p / 8 % 2 = 0 ∨ p / 8 % 2 = 1 := by omega
  have HD := Lib.hid hd
  clear hp hd
  obtain ⟨a0, a1⟩ := ha
  obtain ⟨b0, b1⟩ := hb
  go_enter Try.func50, Try.ntmps50
  go_wp2_with fail
  go_loopg [8, 9] 8 (fun g n f wr => ∃ k : Nat, k + g = 8 ∧ n = .int .i64 (bits .and .u8 a b % 2 ^ k) ∧ f = .int .i64 (2 ^ k) ∧ wr = w)
  case atStart => exact ⟨0, by omega, by simp <;> omega, by simp, rfl⟩
  case round =>
    obtain ⟨k, hk, rfl, rfl, rfl⟩ := hrel
    have hcases : k = 0 ∨ k = 1 ∨ k = 2 ∨ k = 3 ∨ k = 4 ∨ k = 5 ∨ k = 6 ∨ k = 7 ∨ k = 8 := by omega
    have hX := HX.out
    rcases hcases with rfl | rfl | rfl | rfl | rfl | rfl | rfl | rfl | rfl
    · have hbit := @and_bit1 a b HA.out HB.out
      simp only [Int.ediv_one] at hbit
      generalize hq : bits .and .u8 a b = q at hbit hX ⊢
      replace hq := Lib.hid hq
      replace hk := Lib.hid hk
      have q0 : 0 ≤ q % 2 ^ 0 := by simp <;> omega
      have q1 : q % 2 ^ 0 < 1 := by simp <;> omega
      have ca : a % 2 = 0 ∨ a % 2 = 1 := by omega
      have cb : b % 2 = 0 ∨ b % 2 = 1 := by omega
      rcases ca with ca | ca <;> rcases cb with cb | cb
      · have ba : (a % 2 == 1) = false := by rw [ca]; rfl
        have bb : (b % 2 == 1) = false := by rw [cb]; rfl
        have hv : q % 2 = 0 := by rw [hbit, ca, cb]; rfl
        replace hv := Lib.hid hv
        replace hX := Lib.hid hX
        clear ca cb hbit
        go_wp2_with fail
        go_roundg 7
        case measure => have := hk.out; omega
        case rel =>
          have := hk.out
          have := hv.out
          have := hX.out
          have h3 := hq.out
          exact ⟨1, by omega, by rw [h3]; (try simp only [Value.int.injEq, true_and]) <;> (try simp) <;> omega, by (try simp), rfl⟩
      · have ba : (a % 2 == 1) = false := by rw [ca]; rfl
        have bb : (b % 2 == 1) = true := by rw [cb]; rfl
        have hv : q % 2 = 0 := by rw [hbit, ca, cb]; rfl
        replace hv := Lib.hid hv
        replace hX := Lib.hid hX
        clear ca cb hbit
        go_wp2_with fail
        go_roundg 7
        case measure => have := hk.out; omega
        case rel =>
          have := hk.out
          have := hv.out
          have := hX.out
          have h3 := hq.out
          exact ⟨1, by omega, by rw [h3]; (try simp only [Value.int.injEq, true_and]) <;> (try simp) <;> omega, by (try simp), rfl⟩
      · have ba : (a % 2 == 1) = true := by rw [ca]; rfl
        have bb : (b % 2 == 1) = false := by rw [cb]; rfl
        have hv : q % 2 = 0 := by rw [hbit, ca, cb]; rfl
        replace hv := Lib.hid hv
        replace hX := Lib.hid hX
        clear ca cb hbit
        go_wp2_with fail
        go_roundg 7
        case measure => have := hk.out; omega
        case rel =>
          have := hk.out
          have := hv.out
          have := hX.out
          have h3 := hq.out
          exact ⟨1, by omega, by rw [h3]; (try simp only [Value.int.injEq, true_and]) <;> (try simp) <;> omega, by (try simp), rfl⟩
      · have ba : (a % 2 == 1) = true := by rw [ca]; rfl
        have bb : (b % 2 == 1) = true := by rw [cb]; rfl
        have hv : q % 2 = 1 := by rw [hbit, ca, cb]; rfl
        replace hv := Lib.hid hv
        replace hX := Lib.hid hX
        clear ca cb hbit
        go_wp2_with fail
        go_roundg 7
        case measure => have := hk.out; omega
        case rel =>
          have := hk.out
          have := hv.out
          have := hX.out
          have h3 := hq.out
          exact ⟨1, by omega, by rw [h3]; (try simp only [Value.int.injEq, true_and]) <;> (try simp) <;> omega, by (try simp), rfl⟩
    · have hbit := @and_bit2 a b HA.out HB.out
      generalize hq : bits .and .u8 a b = q at hbit hX ⊢
      replace hq := Lib.hid hq
      replace hk := Lib.hid hk
      have q0 : 0 ≤ q % 2 ^ 1 := by simp <;> omega
      have q1 : q % 2 ^ 1 < 2 := by simp <;> omega
      have ca : a / 2 % 2 = 0 ∨ a / 2 % 2 = 1 := by omega
      have cb : b / 2 % 2 = 0 ∨ b / 2 % 2 = 1 := by omega
      rcases ca with ca | ca <;> rcases cb with cb | cb
      · have ba : (a / 2 % 2 == 1) = false := by rw [ca]; rfl
        have bb : (b / 2 % 2 == 1) = false := by rw [cb]; rfl
        have hv : q / 2 % 2 = 0 := by rw [hbit, ca, cb]; rfl
        replace hv := Lib.hid hv
        replace hX := Lib.hid hX
        clear ca cb hbit
        go_wp2_with fail
        go_roundg 6
        case measure => have := hk.out; omega
        case rel =>
          have := hk.out
          have := hv.out
          have := hX.out
          have h3 := hq.out
          exact ⟨2, by omega, by rw [h3]; (try simp only [Value.int.injEq, true_and]) <;> (try simp) <;> omega, by (try simp), rfl⟩
      · have ba : (a / 2 % 2 == 1) = false := by rw [ca]; rfl
        have bb : (b / 2 % 2 == 1) = true := by rw [cb]; rfl
        have hv : q / 2 % 2 = 0 := by rw [hbit, ca, cb]; rfl
        replace hv := Lib.hid hv
        replace hX := Lib.hid hX
        clear ca cb hbit
        go_wp2_with fail
        go_roundg 6
        case measure => have := hk.out; omega
        case rel =>
          have := hk.out
          have := hv.out
          have := hX.out
          have h3 := hq.out
          exact ⟨2, by omega, by rw [h3]; (try simp only [Value.int.injEq, true_and]) <;> (try simp) <;> omega, by (try simp), rfl⟩
      · have ba : (a / 2 % 2 == 1) = true := by rw [ca]; rfl
        have bb : (b / 2 % 2 == 1) = false := by rw [cb]; rfl
        have hv : q / 2 % 2 = 0 := by rw [hbit, ca, cb]; rfl
        replace hv := Lib.hid hv
        replace hX := Lib.hid hX
        clear ca cb hbit
        go_wp2_with fail
        go_roundg 6
        case measure => have := hk.out; omega
        case rel =>
          have := hk.out
          have := hv.out
          have := hX.out
          have h3 := hq.out
          exact ⟨2, by omega, by rw [h3]; (try simp only [Value.int.injEq, true_and]) <;> (try simp) <;> omega, by (try simp), rfl⟩
      · have ba : (a / 2 % 2 == 1) = true := by rw [ca]; rfl
        have bb : (b / 2 % 2 == 1) = true := by rw [cb]; rfl
        have hv : q / 2 % 2 = 1 := by rw [hbit, ca, cb]; rfl
        replace hv := Lib.hid hv
        replace hX := Lib.hid hX
        clear ca cb hbit
        go_wp2_with fail
        go_roundg 6
        case measure => have := hk.out; omega
        case rel =>
          have := hk.out
          have := hv.out
          have := hX.out
          have h3 := hq.out
          exact ⟨2, by omega, by rw [h3]; (try simp only [Value.int.injEq, true_and]) <;> (try simp) <;> omega, by (try simp), rfl⟩
    · have hbit := @and_bit4 a b HA.out HB.out
      generalize hq : bits .and .u8 a b = q at hbit hX ⊢
      replace hq := Lib.hid hq
      replace hk := Lib.hid hk
      have q0 : 0 ≤ q % 2 ^ 2 := by simp <;> omega
      have q1 : q % 2 ^ 2 < 4 := by simp <;> omega
      have ca : a / 4 % 2 = 0 ∨ a / 4 % 2 = 1 := by omega
      have cb : b / 4 % 2 = 0 ∨ b / 4 % 2 = 1 := by omega
      rcases ca with ca | ca <;> rcases cb with cb | cb
      · have ba : (a / 4 % 2 == 1) = false := by rw [ca]; rfl
        have bb : (b / 4 % 2 == 1) = false := by rw [cb]; rfl
        have hv : q / 4 % 2 = 0 := by rw [hbit, ca, cb]; rfl
        replace hv := Lib.hid hv
        replace hX := Lib.hid hX
        clear ca cb hbit
        go_wp2_with fail
        go_roundg 5
        case measure => have := hk.out; omega
        case rel =>
          have := hk.out
          have := hv.out
          have := hX.out
          have h3 := hq.out
          exact ⟨3, by omega, by rw [h3]; (try simp only [Value.int.injEq, true_and]) <;> (try simp) <;> omega, by (try simp), rfl⟩
      · have ba : (a / 4 % 2 == 1) = false := by rw [ca]; rfl
        have bb : (b / 4 % 2 == 1) = true := by rw [cb]; rfl
        have hv : q / 4 % 2 = 0 := by rw [hbit, ca, cb]; rfl
        replace hv := Lib.hid hv
        replace hX := Lib.hid hX
        clear ca cb hbit
        go_wp2_with fail
        go_roundg 5
        case measure => have := hk.out; omega
        case rel =>
          have := hk.out
          have := hv.out
          have := hX.out
          have h3 := hq.out
          exact ⟨3, by omega, by rw [h3]; (try simp only [Value.int.injEq, true_and]) <;> (try simp) <;> omega, by (try simp), rfl⟩
      · have ba : (a / 4 % 2 == 1) = true := by rw [ca]; rfl
        have bb : (b / 4 % 2 == 1) = false := by rw [cb]; rfl
        have hv : q / 4 % 2 = 0 := by rw [hbit, ca, cb]; rfl
        replace hv := Lib.hid hv
        replace hX := Lib.hid hX
        clear ca cb hbit
        go_wp2_with fail
        go_roundg 5
        case measure => have := hk.out; omega
        case rel =>
          have := hk.out
          have := hv.out
          have := hX.out
          have h3 := hq.out
          exact ⟨3, by omega, by rw [h3]; (try simp only [Value.int.injEq, true_and]) <;> (try simp) <;> omega, by (try simp), rfl⟩
      · have ba : (a / 4 % 2 == 1) = true := by rw [ca]; rfl
        have bb : (b / 4 % 2 == 1) = true := by rw [cb]; rfl
        have hv : q / 4 % 2 = 1 := by rw [hbit, ca, cb]; rfl
        replace hv := Lib.hid hv
        replace hX := Lib.hid hX
        clear ca cb hbit
        go_wp2_with fail
        go_roundg 5
        case measure => have := hk.out; omega
        case rel =>
          have := hk.out
          have := hv.out
          have := hX.out
          have h3 := hq.out
          exact ⟨3, by omega, by rw [h3]; (try simp only [Value.int.injEq, true_and]) <;> (try simp) <;> omega, by (try simp), rfl⟩
    · have hbit := @and_bit8 a b HA.out HB.out
      generalize hq : bits .and .u8 a b = q at hbit hX ⊢
      replace hq := Lib.hid hq
      replace hk := Lib.hid hk
      have q0 : 0 ≤ q % 2 ^ 3 := by simp <;> omega
      have q1 : q % 2 ^ 3 < 8 := by simp <;> omega
      have ca : a / 8 % 2 = 0 ∨ a / 8 % 2 = 1 := by omega
      have cb : b / 8 % 2 = 0 ∨ b / 8 % 2 = 1 := by omega
      rcases ca with ca | ca <;> rcases cb with cb | cb
      · have ba : (a / 8 % 2 == 1) = false := by rw [ca]; rfl
        have bb : (b / 8 % 2 == 1) = false := by rw [cb]; rfl
        have hv : q / 8 % 2 = 0 := by rw [hbit, ca, cb]; rfl
        replace hv := Lib.hid hv
        replace hX := Lib.hid hX
        clear ca cb hbit
        go_wp2_with fail
        go_roundg 4
        case measure => have := hk.out; omega
        case rel =>
          have := hk.out
          have := hv.out
          have := hX.out
          have h3 := hq.out
          exact ⟨4, by omega, by rw [h3]; (try simp only [Value.int.injEq, true_and]) <;> (try simp) <;> omega, by (try simp), rfl⟩
      · have ba : (a / 8 % 2 == 1) = false := by rw [ca]; rfl
        have bb : (b / 8 % 2 == 1) = true := by rw [cb]; rfl
        have hv : q / 8 % 2 = 0 := by rw [hbit, ca, cb]; rfl
        replace hv := Lib.hid hv
        replace hX := Lib.hid hX
        clear ca cb hbit
        go_wp2_with fail
        go_roundg 4
        case measure => have := hk.out; omega
        case rel =>
          have := hk.out
          have := hv.out
          have := hX.out
          have h3 := hq.out
          exact ⟨4, by omega, by rw [h3]; (try simp only [Value.int.injEq, true_and]) <;> (try simp) <;> omega, by (try simp), rfl⟩
      · have ba : (a / 8 % 2 == 1) = true := by rw [ca]; rfl
        have bb : (b / 8 % 2 == 1) = false := by rw [cb]; rfl
        have hv : q / 8 % 2 = 0 := by rw [hbit, ca, cb]; rfl
        replace hv := Lib.hid hv
        replace hX := Lib.hid hX
        clear ca cb hbit
        go_wp2_with fail
        go_roundg 4
        case measure => have := hk.out; omega
        case rel =>
          have := hk.out
          have := hv.out
          have := hX.out
          have h3 := hq.out
          exact ⟨4, by omega, by rw [h3]; (try simp only [Value.int.injEq, true_and]) <;> (try simp) <;> omega, by (try simp), rfl⟩
      · have ba : (a / 8 % 2 == 1) = true := by rw [ca]; rfl
        have bb : (b / 8 % 2 == 1) = true := by rw [cb]; rfl
        have hv : q / 8 % 2 = 1 := by rw [hbit, ca, cb]; rfl
        replace hv := Lib.hid hv
        replace hX := Lib.hid hX
        clear ca cb hbit
        go_wp2_with fail
        go_roundg 4
        case measure => have := hk.out; omega
        case rel =>
          have := hk.out
          have := hv.out
          have := hX.out
          have h3 := hq.out
          exact ⟨4, by omega, by rw [h3]; (try simp only [Value.int.injEq, true_and]) <;> (try simp) <;> omega, by (try simp), rfl⟩
    · have hbit := @and_bit16 a b HA.out HB.out
      generalize hq : bits .and .u8 a b = q at hbit hX ⊢
      replace hq := Lib.hid hq
      replace hk := Lib.hid hk
      have q0 : 0 ≤ q % 2 ^ 4 := by simp <;> omega
      have q1 : q % 2 ^ 4 < 16 := by simp <;> omega
      have ca : a / 16 % 2 = 0 ∨ a / 16 % 2 = 1 := by omega
      have cb : b / 16 % 2 = 0 ∨ b / 16 % 2 = 1 := by omega
      rcases ca with ca | ca <;> rcases cb with cb | cb
      · have ba : (a / 16 % 2 == 1) = false := by rw [ca]; rfl
        have bb : (b / 16 % 2 == 1) = false := by rw [cb]; rfl
        have hv : q / 16 % 2 = 0 := by rw [hbit, ca, cb]; rfl
        replace hv := Lib.hid hv
        replace hX := Lib.hid hX
        clear ca cb hbit
        go_wp2_with fail
        go_roundg 3
        case measure => have := hk.out; omega
        case rel =>
          have := hk.out
          have := hv.out
          have := hX.out
          have h3 := hq.out
          exact ⟨5, by omega, by rw [h3]; (try simp only [Value.int.injEq, true_and]) <;> (try simp) <;> omega, by (try simp), rfl⟩
      · have ba : (a / 16 % 2 == 1) = false := by rw [ca]; rfl
        have bb : (b / 16 % 2 == 1) = true := by rw [cb]; rfl
        have hv : q / 16 % 2 = 0 := by rw [hbit, ca, cb]; rfl
        replace hv := Lib.hid hv
        replace hX := Lib.hid hX
        clear ca cb hbit
        go_wp2_with fail
        go_roundg 3
        case measure => have := hk.out; omega
        case rel =>
          have := hk.out
          have := hv.out
          have := hX.out
          have h3 := hq.out
          exact ⟨5, by omega, by rw [h3]; (try simp only [Value.int.injEq, true_and]) <;> (try simp) <;> omega, by (try simp), rfl⟩
      · have ba : (a / 16 % 2 == 1) = true := by rw [ca]; rfl
        have bb : (b / 16 % 2 == 1) = false := by rw [cb]; rfl
        have hv : q / 16 % 2 = 0 := by rw [hbit, ca, cb]; rfl
        replace hv := Lib.hid hv
        replace hX := Lib.hid hX
        clear ca cb hbit
        go_wp2_with fail
        go_roundg 3
        case measure => have := hk.out; omega
        case rel =>
          have := hk.out
          have := hv.out
          have := hX.out
          have h3 := hq.out
          exact ⟨5, by omega, by rw [h3]; (try simp only [Value.int.injEq, true_and]) <;> (try simp) <;> omega, by (try simp), rfl⟩
      · have ba : (a / 16 % 2 == 1) = true := by rw [ca]; rfl
        have bb : (b / 16 % 2 == 1) = true := by rw [cb]; rfl
        have hv : q / 16 % 2 = 1 := by rw [hbit, ca, cb]; rfl
        replace hv := Lib.hid hv
        replace hX := Lib.hid hX
        clear ca cb hbit
        go_wp2_with fail
        go_roundg 3
        case measure => have := hk.out; omega
        case rel =>
          have := hk.out
          have := hv.out
          have := hX.out
          have h3 := hq.out
          exact ⟨5, by omega, by rw [h3]; (try simp only [Value.int.injEq, true_and]) <;> (try simp) <;> omega, by (try simp), rfl⟩
    · have hbit := @and_bit32 a b HA.out HB.out
      generalize hq : bits .and .u8 a b = q at hbit hX ⊢
      replace hq := Lib.hid hq
      replace hk := Lib.hid hk
      have q0 : 0 ≤ q % 2 ^ 5 := by simp <;> omega
      have q1 : q % 2 ^ 5 < 32 := by simp <;> omega
      have ca : a / 32 % 2 = 0 ∨ a / 32 % 2 = 1 := by omega
      have cb : b / 32 % 2 = 0 ∨ b / 32 % 2 = 1 := by omega
      rcases ca with ca | ca <;> rcases cb with cb | cb
      · have ba : (a / 32 % 2 == 1) = false := by rw [ca]; rfl
        have bb : (b / 32 % 2 == 1) = false := by rw [cb]; rfl
        have hv : q / 32 % 2 = 0 := by rw [hbit, ca, cb]; rfl
        replace hv := Lib.hid hv
        replace hX := Lib.hid hX
        clear ca cb hbit
        go_wp2_with fail
        go_roundg 2
        case measure => have := hk.out; omega
        case rel =>
          have := hk.out
          have := hv.out
          have := hX.out
          have h3 := hq.out
          exact ⟨6, by omega, by rw [h3]; (try simp only [Value.int.injEq, true_and]) <;> (try simp) <;> omega, by (try simp), rfl⟩
      · have ba : (a / 32 % 2 == 1) = false := by rw [ca]; rfl
        have bb : (b / 32 % 2 == 1) = true := by rw [cb]; rfl
        have hv : q / 32 % 2 = 0 := by rw [hbit, ca, cb]; rfl
        replace hv := Lib.hid hv
        replace hX := Lib.hid hX
        clear ca cb hbit
        go_wp2_with fail
        go_roundg 2
        case measure => have := hk.out; omega
        case rel =>
          have := hk.out
          have := hv.out
          have := hX.out
          have h3 := hq.out
          exact ⟨6, by omega, by rw [h3]; (try simp only [Value.int.injEq, true_and]) <;> (try simp) <;> omega, by (try simp), rfl⟩
      · have ba : (a / 32 % 2 == 1) = true := by rw [ca]; rfl
        have bb : (b / 32 % 2 == 1) = false := by rw [cb]; rfl
        have hv : q / 32 % 2 = 0 := by rw [hbit, ca, cb]; rfl
        replace hv := Lib.hid hv
        replace hX := Lib.hid hX
        clear ca cb hbit
        go_wp2_with fail
        go_roundg 2
        case measure => have := hk.out; omega
        case rel =>
          have := hk.out
          have := hv.out
          have := hX.out
          have h3 := hq.out
          exact ⟨6, by omega, by rw [h3]; (try simp only [Value.int.injEq, true_and]) <;> (try simp) <;> omega, by (try simp), rfl⟩
      · have ba : (a / 32 % 2 == 1) = true := by rw [ca]; rfl
        have bb : (b / 32 % 2 == 1) = true := by rw [cb]; rfl
        have hv : q / 32 % 2 = 1 := by rw [hbit, ca, cb]; rfl
        replace hv := Lib.hid hv
        replace hX := Lib.hid hX
        clear ca cb hbit
        go_wp2_with fail
        go_roundg 2
        case measure => have := hk.out; omega
        case rel =>
          have := hk.out
          have := hv.out
          have := hX.out
          have h3 := hq.out
          exact ⟨6, by omega, by rw [h3]; (try simp only [Value.int.injEq, true_and]) <;> (try simp) <;> omega, by (try simp), rfl⟩
    · have hbit := @and_bit64 a b HA.out HB.out
      generalize hq : bits .and .u8 a b = q at hbit hX ⊢
      replace hq := Lib.hid hq
      replace hk := Lib.hid hk
      have q0 : 0 ≤ q % 2 ^ 6 := by simp <;> omega
      have q1 : q % 2 ^ 6 < 64 := by simp <;> omega
      have ca : a / 64 % 2 = 0 ∨ a / 64 % 2 = 1 := by omega
      have cb : b / 64 % 2 = 0 ∨ b / 64 % 2 = 1 := by omega
      rcases ca with ca | ca <;> rcases cb with cb | cb
      · have ba : (a / 64 % 2 == 1) = false := by rw [ca]; rfl
        have bb : (b / 64 % 2 == 1) = false := by rw [cb]; rfl
        have hv : q / 64 % 2 = 0 := by rw [hbit, ca, cb]; rfl
        replace hv := Lib.hid hv
        replace hX := Lib.hid hX
        clear ca cb hbit
        go_wp2_with fail
        go_roundg 1
        case measure => have := hk.out; omega
        case rel =>
          have := hk.out
          have := hv.out
          have := hX.out
          have h3 := hq.out
          exact ⟨7, by omega, by rw [h3]; (try simp only [Value.int.injEq, true_and]) <;> (try simp) <;> omega, by (try simp), rfl⟩
      · have ba : (a / 64 % 2 == 1) = false := by rw [ca]; rfl
        have bb : (b / 64 % 2 == 1) = true := by rw [cb]; rfl
        have hv : q / 64 % 2 = 0 := by rw [hbit, ca, cb]; rfl
        replace hv := Lib.hid hv
        replace hX := Lib.hid hX
        clear ca cb hbit
        go_wp2_with fail
        go_roundg 1
        case measure => have := hk.out; omega
        case rel =>
          have := hk.out
          have := hv.out
          have := hX.out
          have h3 := hq.out
          exact ⟨7, by omega, by rw [h3]; (try simp only [Value.int.injEq, true_and]) <;> (try simp) <;> omega, by (try simp), rfl⟩
      · have ba : (a / 64 % 2 == 1) = true := by rw [ca]; rfl
        have bb : (b / 64 % 2 == 1) = false := by rw [cb]; rfl
        have hv : q / 64 % 2 = 0 := by rw [hbit, ca, cb]; rfl
        replace hv := Lib.hid hv
        replace hX := Lib.hid hX
        clear ca cb hbit
        go_wp2_with fail
        go_roundg 1
        case measure => have := hk.out; omega
        case rel =>
          have := hk.out
          have := hv.out
          have := hX.out
          have h3 := hq.out
          exact ⟨7, by omega, by rw [h3]; (try simp only [Value.int.injEq, true_and]) <;> (try simp) <;> omega, by (try simp), rfl⟩
      · have ba : (a / 64 % 2 == 1) = true := by rw [ca]; rfl
        have bb : (b / 64 % 2 == 1) = true := by rw [cb]; rfl
        have hv : q / 64 % 2 = 1 := by rw [hbit, ca, cb]; rfl
        replace hv := Lib.hid hv
        replace hX := Lib.hid hX
        clear ca cb hbit
        go_wp2_with fail
        go_roundg 1
        case measure => have := hk.out; omega
        case rel =>
          have := hk.out
          have := hv.out
          have := hX.out
          have h3 := hq.out
          exact ⟨7, by omega, by rw [h3]; (try simp only [Value.int.injEq, true_and]) <;> (try simp) <;> omega, by (try simp), rfl⟩
    · have hbit := @and_bit128 a b HA.out HB.out
      generalize hq : bits .and .u8 a b = q at hbit hX ⊢
      replace hq := Lib.hid hq
      replace hk := Lib.hid hk
      have q0 : 0 ≤ q % 2 ^ 7 := by simp <;> omega
      have q1 : q % 2 ^ 7 < 128 := by simp <;> omega
      have ca : a / 128 % 2 = 0 ∨ a / 128 % 2 = 1 := by omega
      have cb : b / 128 % 2 = 0 ∨ b / 128 % 2 = 1 := by omega
      rcases ca with ca | ca <;> rcases cb with cb | cb
      · have ba : (a / 128 % 2 == 1) = false := by rw [ca]; rfl
        have bb : (b / 128 % 2 == 1) = false := by rw [cb]; rfl
        have hv : q / 128 % 2 = 0 := by rw [hbit, ca, cb]; rfl
        replace hv := Lib.hid hv
        replace hX := Lib.hid hX
        clear ca cb hbit
        go_wp2_with fail
        go_roundg 0
        case measure => have := hk.out; omega
        case rel =>
          have := hk.out
          have := hv.out
          have := hX.out
          have h3 := hq.out
          exact ⟨8, by omega, by rw [h3]; (try simp only [Value.int.injEq, true_and]) <;> (try simp) <;> omega, by (try simp), rfl⟩
      · have ba : (a / 128 % 2 == 1) = false := by rw [ca]; rfl
        have bb : (b / 128 % 2 == 1) = true := by rw [cb]; rfl
        have hv : q / 128 % 2 = 0 := by rw [hbit, ca, cb]; rfl
        replace hv := Lib.hid hv
        replace hX := Lib.hid hX
        clear ca cb hbit
        go_wp2_with fail
        go_roundg 0
        case measure => have := hk.out; omega
        case rel =>
          have := hk.out
          have := hv.out
          have := hX.out
          have h3 := hq.out
          exact ⟨8, by omega, by rw [h3]; (try simp only [Value.int.injEq, true_and]) <;> (try simp) <;> omega, by (try simp), rfl⟩
      · have ba : (a / 128 % 2 == 1) = true := by rw [ca]; rfl
        have bb : (b / 128 % 2 == 1) = false := by rw [cb]; rfl
        have hv : q / 128 % 2 = 0 := by rw [hbit, ca, cb]; rfl
        replace hv := Lib.hid hv
        replace hX := Lib.hid hX
        clear ca cb hbit
        go_wp2_with fail
        go_roundg 0
        case measure => have := hk.out; omega
        case rel =>
          have := hk.out
          have := hv.out
          have := hX.out
          have h3 := hq.out
          exact ⟨8, by omega, by rw [h3]; (try simp only [Value.int.injEq, true_and]) <;> (try simp) <;> omega, by (try simp), rfl⟩
      · have ba : (a / 128 % 2 == 1) = true := by rw [ca]; rfl
        have bb : (b / 128 % 2 == 1) = true := by rw [cb]; rfl
        have hv : q / 128 % 2 = 1 := by rw [hbit, ca, cb]; rfl
        replace hv := Lib.hid hv
        replace hX := Lib.hid hX
        clear ca cb hbit
        go_wp2_with fail
        go_roundg 0
        case measure => have := hk.out; omega
        case rel =>
          have := hk.out
          have := hv.out
          have := hX.out
          have h3 := hq.out
          exact ⟨8, by omega, by rw [h3]; (try simp only [Value.int.injEq, true_and]) <;> (try simp) <;> omega, by (try simp), rfl⟩
    · have he : bits .and .u8 a b % 2 ^ 8 = bits .and .u8 a b := by simp; omega
      rw [he]
      clear he
      clear hk
      have HQ := Lib.hid (show arrM a b p = arrV (bits .and .u8 a b) (ror (bits .and .u8 a b) p).1 p from rfl)
      generalize bits .and .u8 a b = t at hX HQ ⊢
      clear HX
      have HT := Lib.hid (show Byte t from hX)
      obtain ⟨t0, t1⟩ := hX
      go_wp2_with fail
      refine (rror_any _ t p HT.out H0.out).mono ?_
      rintro _ _ ⟨rfl, rfl⟩
      have HV := Lib.hid (show Byte (ror t p).1 from ror_byte t p t0 t1)
      obtain ⟨v0, v1⟩ := HV.out
      generalize (ror t p).1 = v at HV v0 v1 HQ ⊢
      go_wp2_with fail
      refine (rhas_any _ p 8 H0.out (by simp [IsFlag])).mono ?_
      rintro _ _ ⟨rfl, rfl⟩
      have hd := HD.out
      rcases hd with hd | hd
      · have e : (p / 8 % 2 == 1) = false := by rw [hd]; rfl
        rw [e]
        clear e
        replace hd := Lib.hid hd
        go_wp2_with fail
        refine (rnz_any _ p v H0.out HV.out).mono ?_
        rintro _ _ ⟨rfl, rfl⟩
        go_wp2_with fail
        refine (rset_any _ _ 1 _ (nzM_b H0.out) (by simp [IsFlag])).mono ?_
        rintro _ _ ⟨rfl, rfl⟩
        go_wp2_with fail
        refine (rset_any _ _ 64 _ (setF_b (by simp [IsFlag]) (nzM_b H0.out)) (by simp [IsFlag])).mono ?_
        rintro _ _ ⟨rfl, rfl⟩
        go_wp2_with fail
        go_ret2
        refine ⟨?_, rfl⟩
        rw [HQ.out]
        simp [arrV, hd.out]
      · have e : (p / 8 % 2 == 1) = true := by rw [hd]; rfl
        rw [e]
        clear e
        replace hd := Lib.hid hd
        go_wp2_with fail
        refine (rnz_any _ p v H0.out HV.out).mono ?_
        rintro _ _ ⟨rfl, rfl⟩
        go_wp2_with fail
        refine (rset_any _ _ 64 _ (nzM_b H0.out) (by simp [IsFlag])).mono ?_
        rintro _ _ ⟨rfl, rfl⟩
        have H6 := Lib.hid (setF_b (f := 64) (b := (t / 64 % 2 != v / 64 % 2)) (by simp [IsFlag]) (nzM_b (v := v) H0.out))
        generalize hs6 : setF (nzM p v) 64 (t / 64 % 2 != v / 64 % 2) = s6 at H6 ⊢
        replace hs6 := Lib.hid hs6
        go_wp2_with fail
        all_goals (
          refine (rset_any _ s6 1 _ H6.out (by simp [IsFlag])).mono ?_
          rintro _ _ ⟨rfl, rfl⟩
          go_wp2_with fail
          go_ret2
          refine ⟨?_, rfl⟩
          rw [HQ.out]
          simp only [arrV, hd.out, hs6.out]
          rw [if_neg (by decide)]
          first
          | (rw [if_pos (by omega), if_pos (by omega)])
          | (rw [if_pos (by omega), if_neg (by omega)])
          | (rw [if_neg (by omega), if_pos (by omega)])
          | (rw [if_neg (by omega), if_neg (by omega)])
          all_goals (try rfl))
end Go.Proofs.Ytmiihcaccejklaa
