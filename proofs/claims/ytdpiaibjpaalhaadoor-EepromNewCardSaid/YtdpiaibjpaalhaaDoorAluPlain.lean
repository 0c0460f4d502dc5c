/- PROVED: plain lemmas on bytes and flags: what is said bit by bit is what is said by whole numbers. No conditions beyond those that each theorem states. -/
import Derived.WalkKit
import Derived.Laws.BitsLemmas
import Derived.Laws.BitsAllLaws
namespace Go.Proofs.YtdpiaibjpaalhaaDoorLib
open Go.RowKit
set_option linter.unusedSimpArgs false
set_option linter.unusedVariables false

/-- a flag of a byte, set or cleared -/
def setF (p f : Int) (b : Bool) : Int := p - p / f % 2 * f + (if b then f else 0)
def IsFlag (f : Int) : Prop := f = 1 ∨ f = 2 ∨ f = 4 ∨ f = 8 ∨ f = 16 ∨ f = 32 ∨ f = 64 ∨ f = 128
theorem byte_cases {P : Int → Prop} (h : ∀ n : Fin 256, P ((n.val : Nat) : Int)) (x : Int) (h0 : 0 ≤ x) (h1 : x ≤ 255) : P x := by
  obtain ⟨n, rfl⟩ := Int.eq_ofNat_of_zero_le h0
  exact h ⟨n, by omega⟩
theorem or_flag (f : Int) (hf : IsFlag f) (p : Int) (h0 : 0 ≤ p) (h1 : p ≤ 255) : bits BinOp.or IntKind.u8 p f = setF p f true := by
  rcases hf with rfl | rfl | rfl | rfl | rfl | rfl | rfl | rfl
  all_goals exact byte_cases (P := fun p => bits BinOp.or IntKind.u8 p _ = setF p _ true) (by decide +kernel) p h0 h1
theorem andNot_flag (f : Int) (hf : IsFlag f) (p : Int) (h0 : 0 ≤ p) (h1 : p ≤ 255) : bits BinOp.andNot IntKind.u8 p f = setF p f false := by
  rcases hf with rfl | rfl | rfl | rfl | rfl | rfl | rfl | rfl
  all_goals exact byte_cases (P := fun p => bits BinOp.andNot IntKind.u8 p _ = setF p _ false) (by decide +kernel) p h0 h1
theorem and_flag (f : Int) (hf : IsFlag f) (p : Int) (h0 : 0 ≤ p) (h1 : p ≤ 255) : bits BinOp.and IntKind.u8 p f = p / f % 2 * f := by
  rcases hf with rfl | rfl | rfl | rfl | rfl | rfl | rfl | rfl
  all_goals exact byte_cases (P := fun p => bits BinOp.and IntKind.u8 p _ = p / _ % 2 * _) (by decide +kernel) p h0 h1
theorem setF_byte (f : Int) (hf : IsFlag f) (b : Bool) (p : Int) (h0 : 0 ≤ p) (h1 : p ≤ 255) : 0 ≤ setF p f b ∧ setF p f b ≤ 255 := by
  unfold setF
  rcases hf with rfl | rfl | rfl | rfl | rfl | rfl | rfl | rfl <;> split <;> omega
/-- N and Z by a byte -/
def nzM (p v : Int) : Int := setF (setF p 128 (decide (127 < v))) 2 (v == 0)
theorem nz_swap (p v : Int) (h0 : 0 ≤ p) (h1 : p ≤ 255) : setF (setF p 2 (v == 0)) 128 (decide (128 ≤ v)) = nzM p v := by
  have e : decide (128 ≤ v) = decide (127 < v) := by rw [decide_eq_decide]; omega
  rw [e, nzM]
  generalize (v == 0) = a
  generalize decide (127 < v) = b
  exact byte_cases (P := fun p => setF (setF p 2 a) 128 b = setF (setF p 128 b) 2 a) (by cases a <;> cases b <;> decide +kernel) p h0 h1
theorem nzM_byte (p v : Int) (h0 : 0 ≤ p) (h1 : p ≤ 255) : 0 ≤ nzM p v ∧ nzM p v ≤ 255 :=
  have h := setF_byte 128 (by simp [IsFlag]) (decide (127 < v)) p h0 h1
  setF_byte 2 (by simp [IsFlag]) _ _ h.1 h.2

theorem bits_byte (op : BinOp) (x y : Int) : 0 ≤ bits op .u8 x y ∧ bits op .u8 x y ≤ 255 := by
  unfold bits; rw [IntKind.wrap_u8]; omega
theorem wraps16_i64 (n : Int) (h0 : 0 ≤ n) (h1 : n < 2 ^ 16) : IntKind.i64.wrap n = n := by rw [IntKind.wrap_i64]; omega
theorem i64_and15 (x : Int) (h0 : 0 ≤ x) (h1 : x < 65536) : bits .and .i64 x 15 = x % 16 := bits_mask .i64 16 (by decide) wraps16_i64 4 (by decide) x h0 (by omega)
theorem i64_and255 (x : Int) (h0 : 0 ≤ x) (h1 : x < 65536) : bits .and .i64 x 255 = x % 256 := bits_mask .i64 16 (by decide) wraps16_i64 8 (by decide) x h0 (by omega)
theorem i64_and240 (x : Int) (h0 : 0 ≤ x) (h1 : x ≤ 255) : bits .and .i64 x 240 = x - x % 16 :=
  byte_cases (P := fun x => bits .and .i64 x 240 = x - x % 16) (by decide +kernel) x h0 h1
theorem i64_and128 (x : Int) (h0 : 0 ≤ x) (h1 : x ≤ 1023) : (bits .and .i64 x 128 != 0) = (x / 128 % 2 == 1) := by
  obtain ⟨n, rfl⟩ := Int.eq_ofNat_of_zero_le h0
  exact (by decide +kernel : ∀ n : Fin 1024, (bits .and .i64 ((n.val : Nat) : Int) 128 != 0) = (((n.val : Nat) : Int) / 128 % 2 == 1)) ⟨n, by omega⟩
theorem i64_neg15 (x : Int) (h0 : x < 0) (h1 : -64 ≤ x) : bits .and .i64 x 15 = x % 16 := by
  obtain ⟨n, hn⟩ := Int.eq_ofNat_of_zero_le (a := -x) (by omega)
  obtain rfl : x = -(n : Int) := by omega
  exact (by decide +kernel : ∀ n : Fin 65, bits .and .i64 (-((n.val : Nat) : Int)) 15 = (-((n.val : Nat) : Int)) % 16) ⟨n, by omega⟩
theorem i64_xor_nat (a b : Nat) (ha : a < 2 ^ 16) (hb : b < 2 ^ 16) : bits .xor .i64 a b = ((a ^^^ b : Nat) : Int) := by
  have ha' : a % 2 ^ IntKind.i64.bits = a := Nat.mod_eq_of_lt (show a < 2 ^ 64 by omega)
  have hb' : b % 2 ^ IntKind.i64.bits = b := Nat.mod_eq_of_lt (show b < 2 ^ 64 by omega)
  simp only [bits, BitVec.ofInt_natCast, BitVec.toNat_xor, BitVec.toNat_ofNat, ha', hb']
  have := Nat.xor_lt_two_pow ha hb
  exact wraps16_i64 _ (Int.natCast_nonneg _) (by exact_mod_cast this)
/-- has a sum another sign than both? -/
def overM (a m s : Int) : Bool := a / 128 == m / 128 && !(a / 128 == s / 128 % 2)
theorem over_eq (a m s : Int) (a0 : 0 ≤ a) (a1 : a ≤ 255) (m0 : 0 ≤ m) (m1 : m ≤ 255) (s0 : 0 ≤ s) (s1 : s ≤ 1023) :
    (bits .and .i64 (bits .and .i64 (bits .xor .i64 a s) (bits .xor .i64 m s)) 128 != 0) = overM a m s := by
  obtain ⟨x, rfl⟩ := Int.eq_ofNat_of_zero_le a0
  obtain ⟨y, rfl⟩ := Int.eq_ofNat_of_zero_le m0
  obtain ⟨z, rfl⟩ := Int.eq_ofNat_of_zero_le s0
  rw [i64_xor_nat x z (by omega) (by omega), i64_xor_nat y z (by omega) (by omega)]
  have h1 : x ^^^ z < 2 ^ 10 := Nat.xor_lt_two_pow (by omega) (by omega)
  have h2 : y ^^^ z < 2 ^ 10 := Nat.xor_lt_two_pow (by omega) (by omega)
  rw [(bits_nat .i64 16 (by decide) wraps16_i64 _ _ (by omega) (by omega)).1]
  have h3 : (x ^^^ z) &&& (y ^^^ z) < 2 ^ 10 := Nat.and_lt_two_pow _ h2
  rw [i64_and128 _ (Int.natCast_nonneg _) (by omega)]
  have e : ((((x ^^^ z) &&& (y ^^^ z) : Nat) : Int) / 128 % 2 == 1) = ((x ^^^ z) &&& (y ^^^ z)).testBit 7 := by
    rw [Nat.testBit_eq_decide_div_mod_eq]
    generalize (x ^^^ z) &&& (y ^^^ z) = q
    rw [Bool.eq_iff_iff]; simp; omega
  rw [e, Nat.testBit_and, Nat.testBit_xor, Nat.testBit_xor, Nat.testBit_eq_decide_div_mod_eq, Nat.testBit_eq_decide_div_mod_eq, Nat.testBit_eq_decide_div_mod_eq, overM]
  rw [Bool.eq_iff_iff]
  simp
  omega

theorem ge128 (m : Int) : decide (128 ≤ m) = decide (127 < m) := by rw [decide_eq_decide]; omega
theorem odd8 (m : Int) (h0 : 0 ≤ m) (h1 : m ≤ 255) : (bits .and .u8 m 1 == 1) = (m % 2 == 1) := by rw [and_flag 1 (by simp [IsFlag]) m h0 h1]; simp
theorem rol8 (m p : Int) (m0 : 0 ≤ m) (m1 : m ≤ 255) (h0 : 0 ≤ p) (h1 : p ≤ 255) : bits .or .u8 (m * 2 % 256) (bits .and .u8 p 1) = m * 2 % 256 + p % 2 := by
  rw [and_flag 1 (by simp [IsFlag]) p h0 h1]
  have e : p / 1 % 2 * 1 = p % 2 := by omega
  rw [e]
  have h2 : p % 2 = 0 ∨ p % 2 = 1 := by omega
  rcases h2 with h2 | h2 <;> rw [h2]
  · exact byte_cases (P := fun m => bits .or .u8 (m * 2 % 256) 0 = m * 2 % 256 + 0) (by decide +kernel) m m0 m1
  · exact byte_cases (P := fun m => bits .or .u8 (m * 2 % 256) 1 = m * 2 % 256 + 1) (by decide +kernel) m m0 m1
theorem ror8 (m p : Int) (m0 : 0 ≤ m) (m1 : m ≤ 255) (h0 : 0 ≤ p) (h1 : p ≤ 255) : bits .or .u8 (m / 2) (bits .and .u8 p 1 * 128 % 256) = m / 2 + 128 * (p % 2) := by
  rw [and_flag 1 (by simp [IsFlag]) p h0 h1]
  have e : p / 1 % 2 * 1 * 128 % 256 = 128 * (p % 2) := by omega
  rw [e]
  have h2 : p % 2 = 0 ∨ p % 2 = 1 := by omega
  rcases h2 with h2 | h2 <;> rw [h2]
  · exact byte_cases (P := fun m => bits .or .u8 (m / 2) (128 * 0) = m / 2 + 128 * 0) (by decide +kernel) m m0 m1
  · exact byte_cases (P := fun m => bits .or .u8 (m / 2) (128 * 1) = m / 2 + 128 * 1) (by decide +kernel) m m0 m1
theorem bit6 (m : Int) (h0 : 0 ≤ m) (h1 : m ≤ 255) : (bits .and .u8 m 64 != 0) = (m / 64 % 2 == 1) := 
  byte_cases (P := fun m => (bits .and .u8 m 64 != 0) = (m / 64 % 2 == 1)) (by decide +kernel) m h0 h1
theorem bit7 (m : Int) (h0 : 0 ≤ m) (h1 : m ≤ 255) : (bits .and .u8 m 128 != 0) = decide (127 < m) := 
  byte_cases (P := fun m => (bits .and .u8 m 128 != 0) = decide (127 < m)) (by decide +kernel) m h0 h1
theorem flags3 (p : Int) (a b c : Bool) (h0 : 0 ≤ p) (h1 : p ≤ 255) : setF (setF (setF p 2 c) 64 b) 128 a = setF (setF (setF p 128 a) 64 b) 2 c :=
  byte_cases (P := fun p => setF (setF (setF p 2 c) 64 b) 128 a = setF (setF (setF p 128 a) 64 b) 2 c) (by cases a <;> cases b <;> cases c <;> decide +kernel) p h0 h1
def asl (m p : Int) : Int × Int := (m * 2 % 256, nzM (setF p 1 (decide (127 < m))) (m * 2 % 256))
def lsr (m p : Int) : Int × Int := (m / 2, nzM (setF p 1 (m % 2 == 1)) (m / 2))
def rol (m p : Int) : Int × Int := (m * 2 % 256 + p % 2, nzM (setF p 1 (decide (127 < m))) (m * 2 % 256 + p % 2))
def ror (m p : Int) : Int × Int := (m / 2 + 128 * (p % 2), nzM (setF p 1 (m % 2 == 1)) (m / 2 + 128 * (p % 2)))
def cmpM (r m p : Int) : Int := nzM (setF p 1 (decide (m ≤ r))) ((r - m) % 256)
def sbxM (x m p : Int) : Int × Int := ((x - m) % 256, cmpM x m p)
def bitM (a m p : Int) : Int := setF (setF (setF p 128 (decide (127 < m))) 64 (m / 64 % 2 == 1)) 2 (bits .and .u8 a m == 0)
def decLow (x y c : Int) : Int := if 10 ≤ x % 16 + y % 16 + c then (x % 16 + y % 16 + c + 6) % 16 + 16 else x % 16 + y % 16 + c
def midM (x y p : Int) : Int := if p / 8 % 2 = 1 then x - x % 16 + y - y % 16 + decLow x y (p % 2) else x + y + p % 2
def adcFlags (x y p s : Int) : Int := setF (setF (setF p 128 (s / 128 % 2 == 1)) 64 (overM x y s)) 2 ((x + y + p % 2) % 256 == 0)
def adcTop (x y p : Int) : Int := if p / 8 % 2 = 1 ∧ 160 ≤ midM x y p then midM x y p + 96 else midM x y p
def adcM (x y p : Int) : Int × Int := (adcTop x y p % 256, setF (adcFlags x y p (midM x y p)) 1 (decide (256 ≤ adcTop x y p)))
def sbcLow (x y c : Int) : Int := if x % 16 - y % 16 + c - 1 < 0 then (x % 16 - y % 16 + c - 1 - 6) % 16 - 15 - 1 else x % 16 - y % 16 + c - 1
def sbcMid (x y c : Int) : Int := x - x % 16 - (y - y % 16) + sbcLow x y c
def sbcM (x y p : Int) : Int × Int :=
  let r := adcM x (255 - y) (setF p 8 false)
  if p / 8 % 2 = 0 then r else ((if sbcMid x y (p % 2) < 0 then sbcMid x y (p % 2) - 96 else sbcMid x y (p % 2)) % 256, setF r.2 8 true)

def arrV (t v p : Int) : Int × Int :=
  if p / 8 % 2 = 0 then (v, setF (setF (nzM p v) 1 (v / 64 % 2 == 1)) 64 (v / 64 % 2 != v / 32 % 2))
  else if 80 < t - t % 16 + 16 * (t / 16 % 2) then (((if 5 < t % 16 + t % 2 then v - v % 16 + (v + 6) % 16 else v) + 96) % 256, setF (setF (nzM p v) 64 (t / 64 % 2 != v / 64 % 2)) 1 true)
  else (if 5 < t % 16 + t % 2 then v - v % 16 + (v + 6) % 16 else v, setF (setF (nzM p v) 64 (t / 64 % 2 != v / 64 % 2)) 1 false)
def arrM (a m p : Int) : Int × Int := arrV (bits .and .u8 a m) (ror (bits .and .u8 a m) p).1 p
theorem dec8 (p : Int) (h0 : 0 ≤ p) (h1 : p ≤ 255) : (bits .and .u8 p 8 == 0) = (p / 8 % 2 == 0) :=
  byte_cases (P := fun p => (bits .and .u8 p 8 == 0) = (p / 8 % 2 == 0)) (by decide +kernel) p h0 h1
theorem ror_byte (m p : Int) (m0 : 0 ≤ m) (m1 : m ≤ 255) : 0 ≤ (ror m p).1 ∧ (ror m p).1 ≤ 255 := by simp only [ror]; omega
theorem arr_v (v : Int) (h0 : 0 ≤ v) (h1 : v ≤ 255) : (bits .and .u8 (bits .xor .u8 v (v * 2 % 256)) 64 != 0) = (v / 64 % 2 != v / 32 % 2) :=
  byte_cases (P := fun v => (bits .and .u8 (bits .xor .u8 v (v * 2 % 256)) 64 != 0) = (v / 64 % 2 != v / 32 % 2)) (by decide +kernel) v h0 h1
theorem arr_n (v : Int) (h0 : 0 ≤ v) (h1 : v ≤ 255) : bits .or .u8 (v - v % 16) ((v + 6) % 16) = v - v % 16 + (v + 6) % 16 :=
  byte_cases (P := fun v => bits .or .u8 (v - v % 16) ((v + 6) % 16) = v - v % 16 + (v + 6) % 16) (by decide +kernel) v h0 h1
theorem u8_240 (t : Int) (h0 : 0 ≤ t) (h1 : t ≤ 255) : bits .and .u8 t 240 = t - t % 16 :=
  byte_cases (P := fun t => bits .and .u8 t 240 = t - t % 16) (by decide +kernel) t h0 h1
theorem u8_16 (t : Int) (h0 : 0 ≤ t) (h1 : t ≤ 255) : bits .and .u8 t 16 = 16 * (t / 16 % 2) :=
  byte_cases (P := fun t => bits .and .u8 t 16 = 16 * (t / 16 % 2)) (by decide +kernel) t h0 h1
theorem u8_1 (t : Int) (h0 : 0 ≤ t) (h1 : t ≤ 255) : bits .and .u8 t 1 = t % 2 :=
  byte_cases (P := fun t => bits .and .u8 t 1 = t % 2) (by decide +kernel) t h0 h1
theorem arr_x (t v : Int) (h0 : 0 ≤ t) (h1 : t ≤ 255) (v0 : 0 ≤ v) (v1 : v ≤ 255) : (bits .and .u8 (bits .xor .u8 t v) 64 != 0) = (t / 64 % 2 != v / 64 % 2) := by
  obtain ⟨x, rfl⟩ := Int.eq_ofNat_of_zero_le h0
  obtain ⟨y, rfl⟩ := Int.eq_ofNat_of_zero_le v0
  rw [Go.u8_xor_nat x y (by omega) (by omega)]
  have hx : x ^^^ y < 2 ^ 8 := Nat.xor_lt_two_pow (by omega) (by omega)
  rw [bit6 _ (Int.natCast_nonneg _) (by omega)]
  have e : (((x ^^^ y : Nat) : Int) / 64 % 2 == 1) = (x ^^^ y).testBit 6 := by
    rw [Nat.testBit_eq_decide_div_mod_eq]
    generalize x ^^^ y = q
    rw [Bool.eq_iff_iff]; simp; omega
  rw [e, Nat.testBit_xor, Nat.testBit_eq_decide_div_mod_eq, Nat.testBit_eq_decide_div_mod_eq]
  rw [Bool.eq_iff_iff]; simp; omega
theorem decLow_bd (a m c : Int) (h0 : 0 ≤ c) (h1 : c ≤ 1) : 0 ≤ decLow a m c ∧ decLow a m c ≤ 31 := by unfold decLow; split <;> omega
theorem sum255 (x : Int) (h0 : 0 ≤ x) (h1 : x ≤ 1023) : (bits .and .i64 x 255 == 0) = (x % 256 == 0) := by rw [i64_and255 x h0 (by omega)]
end Go.Proofs.YtdpiaibjpaalhaaDoorLib
