/- PROVED: the contracts of package alu: what each of its functions returns, said by whole numbers. No conditions beyond those that each theorem states. -/
import Derived.Test.YtmiihcaccejklaaProg
import Derived.Test.YtmiihcaccejklaaLib
import Derived.Test.YtmiihcaccejklaaAluPlain
import Derived.Handy
namespace Go.Proofs.Ytmiihcaccejklaa
open Go.RowKit Go.Proofs.YtmiihcaccejklaaLib
set_option linter.unusedSimpArgs false
set_option linter.unusedVariables false

theorem flag_any (w : World) (p f : Int) (b : Bool) (h0 : 0 ≤ p) (h1 : p ≤ 255) (hf : IsFlag f) :
    Calls Try.prog 62 #[.int .u8 p, .int .u8 f, .bool b] w fun e W => e = .returned (.int .u8 (setF p f b)) ∧ w = W := by
  have e1 := or_flag f hf p h0 h1
  have e2 := andNot_flag f hf p h0 h1
  have H1 := Lib.hid e1
  have H2 := Lib.hid e2
  clear e1 e2
  cases b
  · go_enter Try.func62, Try.ntmps62
    go_wp2
    go_ret
    exact ⟨by rw [← H2.out]; rfl, rfl⟩
  · go_enter Try.func62, Try.ntmps62
    go_wp2
    go_ret
    exact ⟨by rw [← H1.out]; rfl, rfl⟩

theorem nz_any (w : World) (p v : Int) (h0 : 0 ≤ p) (h1 : p ≤ 255) :
    Calls Try.prog 57 #[.int .u8 p, .int .u8 v] w fun e W => e = .returned (.int .u8 (nzM p v)) ∧ w = W := by
  have b1 := setF_byte 2 (by simp [IsFlag]) (v == 0) p h0 h1
  go_enter Try.func57, Try.ntmps57
  go_wp2_with fail
  refine (flag_any _ _ _ _ h0 h1 (by simp [IsFlag])).mono ?_
  rintro _ _ ⟨rfl, rfl⟩
  go_wp2_with fail
  refine (flag_any _ _ _ _ b1.1 b1.2 (by simp [IsFlag])).mono ?_
  rintro _ _ ⟨rfl, rfl⟩
  go_wp2_with fail
  go_ret
  exact ⟨by rw [← nz_swap p v h0 h1]; rfl, rfl⟩

theorem shifted_any (w : World) (v p : Int) (b : Bool) (h0 : 0 ≤ p) (h1 : p ≤ 255) :
    Calls Try.prog 68 #[.int .u8 v, .int .u8 p, .bool b] w fun e W => e = .returned (.tuple #[.int .u8 v, .int .u8 (nzM (setF p 1 b) v)]) ∧ w = W := by
  have b1 := setF_byte 1 (by simp [IsFlag]) b p h0 h1
  go_enter Try.func68, Try.ntmps68
  go_wp2_with fail
  refine (flag_any _ _ _ _ h0 h1 (by simp [IsFlag])).mono ?_
  rintro _ _ ⟨rfl, rfl⟩
  go_wp2_with fail
  refine (nz_any _ _ _ b1.1 b1.2).mono ?_
  rintro _ _ ⟨rfl, rfl⟩
  go_wp2_with fail
  go_ret2
  exact ⟨rfl, rfl⟩

theorem asl_any (w : World) (m p : Int) (m0 : 0 ≤ m) (m1 : m ≤ 255) (h0 : 0 ≤ p) (h1 : p ≤ 255) :
    Calls Try.prog 53 #[.int .u8 m, .int .u8 p] w fun e W => e = .returned (.tuple #[.int .u8 (asl m p).1, .int .u8 (asl m p).2]) ∧ w = W := by
  have fin := Lib.hid (ge128 m)
  go_enter Try.func53, Try.ntmps53
  go_wp2_with fail
  refine (shifted_any _ _ _ _ h0 h1).mono ?_
  rintro _ _ ⟨rfl, rfl⟩
  go_wp2_with fail
  go_ret2
  have h := fin.out
  exact ⟨by simp only [asl]; rw [← h]; rfl, rfl⟩

theorem lsr_any (w : World) (m p : Int) (m0 : 0 ≤ m) (m1 : m ≤ 255) (h0 : 0 ≤ p) (h1 : p ≤ 255) :
    Calls Try.prog 54 #[.int .u8 m, .int .u8 p] w fun e W => e = .returned (.tuple #[.int .u8 (lsr m p).1, .int .u8 (lsr m p).2]) ∧ w = W := by
  have fin := Lib.hid (odd8 m m0 m1)
  go_enter Try.func54, Try.ntmps54
  go_wp2_with fail
  refine (shifted_any _ _ _ _ h0 h1).mono ?_
  rintro _ _ ⟨rfl, rfl⟩
  go_wp2_with fail
  go_ret2
  have h := fin.out
  exact ⟨by simp only [lsr]; rw [← h]; rfl, rfl⟩

theorem rol_any (w : World) (m p : Int) (m0 : 0 ≤ m) (m1 : m ≤ 255) (h0 : 0 ≤ p) (h1 : p ≤ 255) :
    Calls Try.prog 55 #[.int .u8 m, .int .u8 p] w fun e W => e = .returned (.tuple #[.int .u8 (rol m p).1, .int .u8 (rol m p).2]) ∧ w = W := by
  have fin := Lib.hid (And.intro (rol8 m p m0 m1 h0 h1) (ge128 m))
  go_enter Try.func55, Try.ntmps55
  go_wp2_with fail
  refine (shifted_any _ _ _ _ h0 h1).mono ?_
  rintro _ _ ⟨rfl, rfl⟩
  go_wp2_with fail
  go_ret2
  have h := fin.out
  exact ⟨by simp only [rol]; rw [← h.1, ← h.2]; rfl, rfl⟩

theorem ror_any (w : World) (m p : Int) (m0 : 0 ≤ m) (m1 : m ≤ 255) (h0 : 0 ≤ p) (h1 : p ≤ 255) :
    Calls Try.prog 56 #[.int .u8 m, .int .u8 p] w fun e W => e = .returned (.tuple #[.int .u8 (ror m p).1, .int .u8 (ror m p).2]) ∧ w = W := by
  have fin := Lib.hid (And.intro (ror8 m p m0 m1 h0 h1) (odd8 m m0 m1))
  go_enter Try.func56, Try.ntmps56
  go_wp2_with fail
  refine (shifted_any _ _ _ _ h0 h1).mono ?_
  rintro _ _ ⟨rfl, rfl⟩
  go_wp2_with fail
  go_ret2
  have h := fin.out
  exact ⟨by simp only [ror]; rw [← h.1, ← h.2]; rfl, rfl⟩

theorem cmp_any (w : World) (r m p : Int) (h0 : 0 ≤ p) (h1 : p ≤ 255) :
    Calls Try.prog 64 #[.int .u8 r, .int .u8 m, .int .u8 p] w fun e W => e = .returned (.int .u8 (cmpM r m p)) ∧ w = W := by
  have b1 := setF_byte 1 (by simp [IsFlag]) (decide (m ≤ r)) p h0 h1
  go_enter Try.func64, Try.ntmps64
  go_wp2_with fail
  refine (flag_any _ _ _ _ h0 h1 (by simp [IsFlag])).mono ?_
  rintro _ _ ⟨rfl, rfl⟩
  go_wp2_with fail
  refine (nz_any _ _ _ b1.1 b1.2).mono ?_
  rintro _ _ ⟨rfl, rfl⟩
  go_wp2_with fail
  go_ret
  exact ⟨rfl, rfl⟩

theorem sbx_any (w : World) (r m p : Int) (h0 : 0 ≤ p) (h1 : p ≤ 255) :
    Calls Try.prog 66 #[.int .u8 r, .int .u8 m, .int .u8 p] w fun e W => e = .returned (.tuple #[.int .u8 (sbxM r m p).1, .int .u8 (sbxM r m p).2]) ∧ w = W := by
  go_enter Try.func66, Try.ntmps66
  go_wp2_with fail
  refine (cmp_any _ _ _ _ h0 h1).mono ?_
  rintro _ _ ⟨rfl, rfl⟩
  go_wp2_with fail
  go_ret2
  exact ⟨rfl, rfl⟩

theorem bit_any (w : World) (a m p : Int) (m0 : 0 ≤ m) (m1 : m ≤ 255) (h0 : 0 ≤ p) (h1 : p ≤ 255) :
    Calls Try.prog 65 #[.int .u8 a, .int .u8 m, .int .u8 p] w fun e W => e = .returned (.int .u8 (bitM a m p)) ∧ w = W := by
  have b1 := setF_byte 2 (by simp [IsFlag]) (bits .and .u8 a m == 0) p h0 h1
  have b2 := setF_byte 64 (by simp [IsFlag]) (bits .and .u8 m 64 != 0) _ b1.1 b1.2
  have f1 := Lib.hid (bit6 m m0 m1)
  have f2 := Lib.hid (bit7 m m0 m1)
  have f3 := Lib.hid (flags3 p (decide (127 < m)) (m / 64 % 2 == 1) (bits .and .u8 a m == 0) h0 h1)
  go_enter Try.func65, Try.ntmps65
  go_wp2_with fail
  refine (flag_any _ _ _ _ h0 h1 (by simp [IsFlag])).mono ?_
  rintro _ _ ⟨rfl, rfl⟩
  go_wp2_with fail
  refine (flag_any _ _ _ _ b1.1 b1.2 (by simp [IsFlag])).mono ?_
  rintro _ _ ⟨rfl, rfl⟩
  go_wp2_with fail
  refine (flag_any _ _ _ _ b2.1 b2.2 (by simp [IsFlag])).mono ?_
  rintro _ _ ⟨rfl, rfl⟩
  go_wp2_with fail
  go_ret
  exact ⟨by rw [bitM, ← f3.out, ← f1.out, ← f2.out]; rfl, rfl⟩

theorem operand_any (w : World) (a m p : Int) (a0 : 0 ≤ a) (a1 : a ≤ 255) (m0 : 0 ≤ m) (m1 : m ≤ 255) (h0 : 0 ≤ p) (h1 : p ≤ 255) :
    Calls Try.prog 59 #[.int .u8 a, .int .u8 m, .int .u8 p] w (Post w [] fun r W => r = .agg #[.int .i64 a, .int .i64 m, .int .i64 (p % 2)]) := by
  have f := and_flag 1 (by simp [IsFlag]) p h0 h1
  have f' : bits BinOp.and IntKind.u8 p 1 = p % 2 := by rw [f]; simp
  have H := Lib.hid f'
  clear f f'
  have bb := bits_byte .and p 1
  go_enter Try.func59, Try.ntmps59
  go_wp2_with fail
  go_returns
  exact ⟨_, rfl, by rw [← H.out], by repeat (first | exact Kept.refl _ _ | apply Kept.alloc)⟩

theorem binary_any (w : World) (a m c : Int) (a0 : 0 ≤ a) (a1 : a ≤ 255) (m0 : 0 ≤ m) (m1 : m ≤ 255) (h0 : 0 ≤ c) (h1 : c ≤ 1) :
    Calls Try.prog 61 #[.agg #[.int .i64 a, .int .i64 m, .int .i64 c]] w (Post w [] fun r W => r = .int .i64 (a + m + c)) := by
  go_enter Try.func61, Try.ntmps61
  go_wp2_with fail
  go_returns
  exact ⟨_, rfl, rfl, by repeat (first | exact Kept.refl _ _ | apply Kept.alloc)⟩

theorem decimal_any (w : World) (a m c : Int) (a0 : 0 ≤ a) (a1 : a ≤ 255) (m0 : 0 ≤ m) (m1 : m ≤ 255) (h0 : 0 ≤ c) (h1 : c ≤ 1) :
    Calls Try.prog 63 #[.agg #[.int .i64 a, .int .i64 m, .int .i64 c]] w (Post w [] fun r W => r = .int .i64 (a - a % 16 + m - m % 16 + decLow a m c)) := by
  have e1 := i64_and15 a a0 (by omega)
  have e2 := i64_and15 m m0 (by omega)
  have e3 := i64_and240 a a0 a1
  have e4 := i64_and240 m m0 m1
  by_cases h : 10 ≤ a % 16 + m % 16 + c
  · have e5 := i64_and15 (a % 16 + m % 16 + c + 6) (by omega) (by omega)
    have H := Lib.hid h
    go_enter Try.func63, Try.ntmps63
    go_wp2_with fail
    go_returns
    exact ⟨_, rfl, by rw [decLow, if_pos H.out]; simp; omega, by repeat (first | exact Kept.refl _ _ | apply Kept.alloc)⟩
  · have H := Lib.hid h
    go_enter Try.func63, Try.ntmps63
    go_wp2_with fail
    go_returns
    exact ⟨_, rfl, by rw [decLow, if_neg (by have := H.out; omega)]; simp; omega, by repeat (first | exact Kept.refl _ _ | apply Kept.alloc)⟩

theorem over_any (w : World) (a m c s : Int) (a0 : 0 ≤ a) (a1 : a ≤ 255) (m0 : 0 ≤ m) (m1 : m ≤ 255) (s0 : 0 ≤ s) (s1 : s ≤ 1023) :
    Calls Try.prog 69 #[.agg #[.int .i64 a, .int .i64 m, .int .i64 c], .int .i64 s] w (Post w [] fun r W => r = .bool (overM a m s)) := by
  have H := Lib.hid (over_eq a m s a0 a1 m0 m1 s0 s1)
  go_enter Try.func69, Try.ntmps69
  go_wp2_with fail
  go_returns
  exact ⟨_, rfl, by rw [← H.out]; rfl, by repeat (first | exact Kept.refl _ _ | apply Kept.alloc)⟩


theorem sums_binary_any (w : World) (a m c p : Int) (a0 : 0 ≤ a) (a1 : a ≤ 255) (m0 : 0 ≤ m) (m1 : m ≤ 255) (c0 : 0 ≤ c) (c1 : c ≤ 1) (h0 : 0 ≤ p) (h1 : p ≤ 255) :
    Calls Try.prog 60 #[.agg #[.int .i64 a, .int .i64 m, .int .i64 c], .int .u8 p, .func (.func 61) #[] #[]] w
      (Post w [] fun r W => r = .tuple #[.int .i64 (a + m + c), .int .u8 (setF (setF (setF p 128 ((a + m + c) / 128 % 2 == 1)) 64 (overM a m (a + m + c))) 2 ((a + m + c) % 256 == 0))]) := by
  have s0 : 0 ≤ (a + m + c) := by omega
  have s1 : (a + m + c) ≤ 1023 := by omega
  have b1 := setF_byte 128 (by simp [IsFlag]) ((a + m + c) / 128 % 2 == 1) p h0 h1
  have b2 := setF_byte 64 (by simp [IsFlag]) (overM a m (a + m + c)) _ b1.1 b1.2
  have e1 := i64_and128 (a + m + c) s0 s1
  have e2 := sum255 (a + m + c) (by omega) (by omega)
  have HC := binary_any (a := a) (m := m) (c := c) (a0 := a0) (a1 := a1) (m0 := m0) (m1 := m1) (h0 := c0) (h1 := c1)
  have HCC := Lib.hid HC
  clear HC
  go_enter Try.func60, Try.ntmps60
  go_wp2_with fail
  refine (HCC.out _).mono ?_
  rintro _ w1 ⟨_, rfl, rfl, k1⟩
  have q1 := k1.size
  have d0 := k1.cell ((Blk.new w 63 [.int .i64 a, .int .i64 m, .int .i64 c]).cell 0 rfl) (by simp)
  have d1 := k1.cell ((Blk.new w 63 [.int .i64 a, .int .i64 m, .int .i64 c]).cell 1 rfl) (by simp)
  have d2 := k1.cell ((Blk.new w 63 [.int .i64 a, .int .i64 m, .int .i64 c]).cell 2 rfl) (by simp)
  go_wp2_with fail
  refine (flag_any _ _ _ _ h0 h1 (by simp [IsFlag])).mono ?_
  rintro _ _ ⟨rfl, rfl⟩
  go_wp2_with fail
  refine (over_any _ _ _ _ _ a0 a1 m0 m1 s0 s1).mono ?_
  rintro _ w2 ⟨_, rfl, rfl, k2⟩
  have d0 := k2.cell d0 (by simp)
  have d1 := k2.cell d1 (by simp)
  have d2 := k2.cell d2 (by simp)
  go_wp2_with fail
  refine (flag_any _ _ _ _ b1.1 b1.2 (by simp [IsFlag])).mono ?_
  rintro _ _ ⟨rfl, rfl⟩
  go_wp2_with fail
  refine (binary_any _ _ _ _ a0 a1 m0 m1 c0 c1).mono ?_
  rintro _ w3 ⟨_, rfl, rfl, k3⟩
  go_wp2_with fail
  refine (flag_any _ _ _ _ b2.1 b2.2 (by simp [IsFlag])).mono ?_
  rintro _ _ ⟨rfl, rfl⟩
  go_wp2_with fail
  go_returns
  exact ⟨_, rfl, rfl, (((Kept.refl _ _).alloc _).trans k1 (by simp)).trans (k2.trans k3 (by simp)) (by simp)⟩

theorem sums_decimal_any (w : World) (a m c p : Int) (a0 : 0 ≤ a) (a1 : a ≤ 255) (m0 : 0 ≤ m) (m1 : m ≤ 255) (c0 : 0 ≤ c) (c1 : c ≤ 1) (h0 : 0 ≤ p) (h1 : p ≤ 255) :
    Calls Try.prog 60 #[.agg #[.int .i64 a, .int .i64 m, .int .i64 c], .int .u8 p, .func (.func 63) #[] #[]] w
      (Post w [] fun r W => r = .tuple #[.int .i64 (a - a % 16 + m - m % 16 + decLow a m c), .int .u8 (setF (setF (setF p 128 ((a - a % 16 + m - m % 16 + decLow a m c) / 128 % 2 == 1)) 64 (overM a m (a - a % 16 + m - m % 16 + decLow a m c))) 2 ((a + m + c) % 256 == 0))]) := by
  have dl := decLow_bd a m c c0 c1
  have s0 : 0 ≤ (a - a % 16 + m - m % 16 + decLow a m c) := by omega
  have s1 : (a - a % 16 + m - m % 16 + decLow a m c) ≤ 1023 := by omega
  have b1 := setF_byte 128 (by simp [IsFlag]) ((a - a % 16 + m - m % 16 + decLow a m c) / 128 % 2 == 1) p h0 h1
  have b2 := setF_byte 64 (by simp [IsFlag]) (overM a m (a - a % 16 + m - m % 16 + decLow a m c)) _ b1.1 b1.2
  have e1 := i64_and128 (a - a % 16 + m - m % 16 + decLow a m c) s0 s1
  have e2 := sum255 (a + m + c) (by omega) (by omega)
  have HC := decimal_any (a := a) (m := m) (c := c) (a0 := a0) (a1 := a1) (m0 := m0) (m1 := m1) (h0 := c0) (h1 := c1)
  have HCC := Lib.hid HC
  clear HC
  go_enter Try.func60, Try.ntmps60
  go_wp2_with fail
  refine (HCC.out _).mono ?_
  rintro _ w1 ⟨_, rfl, rfl, k1⟩
  have q1 := k1.size
  have d0 := k1.cell ((Blk.new w 63 [.int .i64 a, .int .i64 m, .int .i64 c]).cell 0 rfl) (by simp)
  have d1 := k1.cell ((Blk.new w 63 [.int .i64 a, .int .i64 m, .int .i64 c]).cell 1 rfl) (by simp)
  have d2 := k1.cell ((Blk.new w 63 [.int .i64 a, .int .i64 m, .int .i64 c]).cell 2 rfl) (by simp)
  go_wp2_with fail
  refine (flag_any _ _ _ _ h0 h1 (by simp [IsFlag])).mono ?_
  rintro _ _ ⟨rfl, rfl⟩
  go_wp2_with fail
  refine (over_any _ _ _ _ _ a0 a1 m0 m1 s0 s1).mono ?_
  rintro _ w2 ⟨_, rfl, rfl, k2⟩
  have d0 := k2.cell d0 (by simp)
  have d1 := k2.cell d1 (by simp)
  have d2 := k2.cell d2 (by simp)
  go_wp2_with fail
  refine (flag_any _ _ _ _ b1.1 b1.2 (by simp [IsFlag])).mono ?_
  rintro _ _ ⟨rfl, rfl⟩
  go_wp2_with fail
  refine (binary_any _ _ _ _ a0 a1 m0 m1 c0 c1).mono ?_
  rintro _ w3 ⟨_, rfl, rfl, k3⟩
  go_wp2_with fail
  refine (flag_any _ _ _ _ b2.1 b2.2 (by simp [IsFlag])).mono ?_
  rintro _ _ ⟨rfl, rfl⟩
  go_wp2_with fail
  go_returns
  exact ⟨_, rfl, rfl, (((Kept.refl _ _).alloc _).trans k1 (by simp)).trans (k2.trans k3 (by simp)) (by simp)⟩

end Go.Proofs.Ytmiihcaccejklaa
