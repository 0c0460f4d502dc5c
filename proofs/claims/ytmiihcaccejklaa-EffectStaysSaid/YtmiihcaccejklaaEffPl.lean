/- PROVED: plain lemmas on what opcodes leave as it is. No conditions beyond those that each theorem states. -/
import Derived.Test.YtmiihcaccejklaaEffI
import Derived.Test.YtmiihcaccejklaaEffN
import Derived.Test.YtmiihcaccejklaaCellP
namespace Go.Proofs.Ytmiihcaccejklaa
open Go.RowKit Go.Proofs.YtmiihcaccejklaaLib
set_option linter.unusedSimpArgs false
set_option linter.unusedVariables false

theorem ands_pc (n : List UInt8) (r : Regs) (m : Int) : (andsM n r m).pc = r.pc ∧ (andsM n r m).y = r.y := by
  unfold andsM
  repeat' split
  all_goals exact ⟨rfl, rfl⟩
theorem loads_pc (n : List UInt8) (r : Regs) (m : Int) : (loadsM n r m).pc = r.pc ∧ ((loadsM n r m).y = r.y ∨ (n == [76, 68, 89]) = true) := by
  unfold loadsM
  split
  · exact ⟨rfl, .inl rfl⟩
  split
  · rename_i h; exact ⟨rfl, .inr h⟩
  repeat' split
  all_goals exact ⟨rfl, .inl rfl⟩
theorem compares_pc (n : List UInt8) (r : Regs) (m : Int) : (comparesM n r m).pc = r.pc ∧ (comparesM n r m).y = r.y := by
  unfold comparesM
  repeat' split
  all_goals exact ⟨rfl, rfl⟩
theorem reads_stays (n : List UInt8) (a x y s p pc m : Int) : ∃ qa qx qy qs qp, readsM n ⟨a, x, y, s, p, pc⟩ m = ⟨qa, qx, qy, qs, qp, pc⟩ ∧ (y = qy ∨ (n == [76, 68, 89]) = true) := by
  obtain ⟨h1, h2⟩ := ands_pc n ⟨a, x, y, s, p, pc⟩ m
  obtain ⟨h3, h4⟩ := loads_pc n (andsM n ⟨a, x, y, s, p, pc⟩ m) m
  obtain ⟨h5, h6⟩ := compares_pc n (loadsM n (andsM n ⟨a, x, y, s, p, pc⟩ m) m) m
  unfold readsM
  iterate 6
    split
    · exact ⟨_, _, _, _, _, rfl, .inl rfl⟩
  rw [h3, h1] at h5
  rw [h2] at h4
  rw [← h6] at h4
  generalize comparesM n (loadsM n (andsM n ⟨a, x, y, s, p, pc⟩ m) m) m = q at *
  obtain ⟨qa, qx, qy, qs, qp, qc⟩ := q
  dsimp only at h4 h5
  subst h5
  exact ⟨_, _, _, _, _, rfl, h4.imp Eq.symm id⟩
theorem modifies_stays (n : List UInt8) (a x y s p pc m : Int) : ∃ qa qp qm, modifiesM n ⟨a, x, y, s, p, pc⟩ m = (⟨qa, x, y, s, qp, pc⟩, qm) := by
  unfold modifiesM
  by_cases h0 : (n == [83, 76, 79]) = true
  · rw [if_pos h0]; exact ⟨_, _, _, rfl⟩
  rw [if_neg h0]
  by_cases h1 : (n == [82, 76, 65]) = true
  · rw [if_pos h1]; exact ⟨_, _, _, rfl⟩
  rw [if_neg h1]
  by_cases h2 : (n == [83, 82, 69]) = true
  · rw [if_pos h2]; exact ⟨_, _, _, rfl⟩
  rw [if_neg h2]
  by_cases h3 : (n == [82, 82, 65]) = true
  · rw [if_pos h3]; exact ⟨_, _, _, rfl⟩
  rw [if_neg h3]
  by_cases h4 : (n == [65, 83, 76]) = true
  · rw [if_pos h4]; exact ⟨_, _, _, rfl⟩
  rw [if_neg h4]
  by_cases h5 : (n == [76, 83, 82]) = true
  · rw [if_pos h5]; exact ⟨_, _, _, rfl⟩
  rw [if_neg h5]
  by_cases h6 : (n == [82, 79, 76]) = true
  · rw [if_pos h6]; exact ⟨_, _, _, rfl⟩
  rw [if_neg h6]
  by_cases h7 : (n == [82, 79, 82]) = true
  · rw [if_pos h7]; exact ⟨_, _, _, rfl⟩
  rw [if_neg h7]
  by_cases h8 : (n == [73, 78, 67]) = true
  · rw [if_pos h8]; exact ⟨_, _, _, rfl⟩
  rw [if_neg h8]
  by_cases h9 : (n == [68, 69, 67]) = true
  · rw [if_pos h9]; exact ⟨_, _, _, rfl⟩
  rw [if_neg h9]
  by_cases h10 : (n == [68, 67, 80]) = true
  · rw [if_pos h10]; exact ⟨_, _, _, rfl⟩
  rw [if_neg h10]
  by_cases h11 : (n == [73, 83, 67]) = true
  · rw [if_pos h11]; exact ⟨_, _, _, rfl⟩
  rw [if_neg h11]
  exact ⟨_, _, _, rfl⟩
theorem writes_stays (n : List UInt8) (a x y s p pc m : Int) : ∃ qs qm, writesM n ⟨a, x, y, s, p, pc⟩ m = (⟨a, x, y, qs, p, pc⟩, qm) := by
  generalize hM : writesM n ⟨a, x, y, s, p, pc⟩ m = M
  unfold writesM at hM
  repeat' split at hM
  all_goals (subst hM; exact ⟨_, _, rfl⟩)
theorem inner_stays (n : List UInt8) (a x y s p pc : Int) : ∃ qa qx qy qs qp, innerM n ⟨a, x, y, s, p, pc⟩ = ⟨qa, qx, qy, qs, qp, pc⟩ ∧ (y = qy ∨ (n == [84, 65, 89]) = true ∨ (n == [73, 78, 89]) = true ∨ (n == [68, 69, 89]) = true) := by
  unfold innerM
  by_cases h0 : (n == [65, 83, 76]) = true
  · rw [if_pos h0]; exact ⟨_, _, _, _, _, rfl, .inl rfl⟩
  rw [if_neg h0]
  by_cases h1 : (n == [76, 83, 82]) = true
  · rw [if_pos h1]; exact ⟨_, _, _, _, _, rfl, .inl rfl⟩
  rw [if_neg h1]
  by_cases h2 : (n == [82, 79, 76]) = true
  · rw [if_pos h2]; exact ⟨_, _, _, _, _, rfl, .inl rfl⟩
  rw [if_neg h2]
  by_cases h3 : (n == [82, 79, 82]) = true
  · rw [if_pos h3]; exact ⟨_, _, _, _, _, rfl, .inl rfl⟩
  rw [if_neg h3]
  by_cases h4 : (n == [67, 76, 67]) = true
  · rw [if_pos h4]; exact ⟨_, _, _, _, _, rfl, .inl rfl⟩
  rw [if_neg h4]
  by_cases h5 : (n == [67, 76, 68]) = true
  · rw [if_pos h5]; exact ⟨_, _, _, _, _, rfl, .inl rfl⟩
  rw [if_neg h5]
  by_cases h6 : (n == [67, 76, 73]) = true
  · rw [if_pos h6]; exact ⟨_, _, _, _, _, rfl, .inl rfl⟩
  rw [if_neg h6]
  by_cases h7 : (n == [67, 76, 86]) = true
  · rw [if_pos h7]; exact ⟨_, _, _, _, _, rfl, .inl rfl⟩
  rw [if_neg h7]
  by_cases h8 : (n == [83, 69, 67]) = true
  · rw [if_pos h8]; exact ⟨_, _, _, _, _, rfl, .inl rfl⟩
  rw [if_neg h8]
  by_cases h9 : (n == [83, 69, 68]) = true
  · rw [if_pos h9]; exact ⟨_, _, _, _, _, rfl, .inl rfl⟩
  rw [if_neg h9]
  by_cases h10 : (n == [83, 69, 73]) = true
  · rw [if_pos h10]; exact ⟨_, _, _, _, _, rfl, .inl rfl⟩
  rw [if_neg h10]
  by_cases h11 : (n == [84, 65, 88]) = true
  · rw [if_pos h11]; exact ⟨_, _, _, _, _, rfl, .inl rfl⟩
  rw [if_neg h11]
  by_cases h12 : (n == [84, 65, 89]) = true
  · rw [if_pos h12]; exact ⟨_, _, _, _, _, rfl, .inr (.inl h12)⟩
  rw [if_neg h12]
  by_cases h13 : (n == [84, 88, 65]) = true
  · rw [if_pos h13]; exact ⟨_, _, _, _, _, rfl, .inl rfl⟩
  rw [if_neg h13]
  by_cases h14 : (n == [84, 89, 65]) = true
  · rw [if_pos h14]; exact ⟨_, _, _, _, _, rfl, .inl rfl⟩
  rw [if_neg h14]
  by_cases h15 : (n == [84, 83, 88]) = true
  · rw [if_pos h15]; exact ⟨_, _, _, _, _, rfl, .inl rfl⟩
  rw [if_neg h15]
  by_cases h16 : (n == [84, 88, 83]) = true
  · rw [if_pos h16]; exact ⟨_, _, _, _, _, rfl, .inl rfl⟩
  rw [if_neg h16]
  by_cases h17 : (n == [73, 78, 88]) = true
  · rw [if_pos h17]; exact ⟨_, _, _, _, _, rfl, .inl rfl⟩
  rw [if_neg h17]
  by_cases h18 : (n == [73, 78, 89]) = true
  · rw [if_pos h18]; exact ⟨_, _, _, _, _, rfl, .inr (.inr (.inl h18))⟩
  rw [if_neg h18]
  by_cases h19 : (n == [68, 69, 88]) = true
  · rw [if_pos h19]; exact ⟨_, _, _, _, _, rfl, .inl rfl⟩
  rw [if_neg h19]
  by_cases h20 : (n == [68, 69, 89]) = true
  · rw [if_pos h20]; exact ⟨_, _, _, _, _, rfl, .inr (.inr (.inr h20))⟩
  rw [if_neg h20]
  exact ⟨_, _, _, _, _, rfl, .inl rfl⟩
theorem reads_CMP (n : List UInt8) (h : (n == [67, 77, 80]) = true) (a x y s p pc m : Int) : ∃ qp, readsM n ⟨a, x, y, s, p, pc⟩ m = ⟨a, x, y, s, qp, pc⟩ := by
  obtain rfl : n = [67, 77, 80] := by simpa using h
  exact ⟨_, rfl⟩
theorem inner_CMP (n : List UInt8) (h : (n == [67, 77, 80]) = true) (a x y s p pc : Int) : innerM n ⟨a, x, y, s, p, pc⟩ = ⟨a, x, y, s, p, pc⟩ := by
  obtain rfl : n = [67, 77, 80] := by simpa using h
  rfl
theorem reads_CPX (n : List UInt8) (h : (n == [67, 80, 88]) = true) (a x y s p pc m : Int) : ∃ qp, readsM n ⟨a, x, y, s, p, pc⟩ m = ⟨a, x, y, s, qp, pc⟩ := by
  obtain rfl : n = [67, 80, 88] := by simpa using h
  exact ⟨_, rfl⟩
theorem inner_CPX (n : List UInt8) (h : (n == [67, 80, 88]) = true) (a x y s p pc : Int) : innerM n ⟨a, x, y, s, p, pc⟩ = ⟨a, x, y, s, p, pc⟩ := by
  obtain rfl : n = [67, 80, 88] := by simpa using h
  rfl
theorem reads_CPY (n : List UInt8) (h : (n == [67, 80, 89]) = true) (a x y s p pc m : Int) : ∃ qp, readsM n ⟨a, x, y, s, p, pc⟩ m = ⟨a, x, y, s, qp, pc⟩ := by
  obtain rfl : n = [67, 80, 89] := by simpa using h
  exact ⟨_, rfl⟩
theorem inner_CPY (n : List UInt8) (h : (n == [67, 80, 89]) = true) (a x y s p pc : Int) : innerM n ⟨a, x, y, s, p, pc⟩ = ⟨a, x, y, s, p, pc⟩ := by
  obtain rfl : n = [67, 80, 89] := by simpa using h
  rfl
theorem reads_BIT (n : List UInt8) (h : (n == [66, 73, 84]) = true) (a x y s p pc m : Int) : ∃ qp, readsM n ⟨a, x, y, s, p, pc⟩ m = ⟨a, x, y, s, qp, pc⟩ := by
  obtain rfl : n = [66, 73, 84] := by simpa using h
  exact ⟨_, rfl⟩
theorem inner_BIT (n : List UInt8) (h : (n == [66, 73, 84]) = true) (a x y s p pc : Int) : innerM n ⟨a, x, y, s, p, pc⟩ = ⟨a, x, y, s, p, pc⟩ := by
  obtain rfl : n = [66, 73, 84] := by simpa using h
  rfl
/-- a name that no opcode has -/
def NoName (n : List UInt8) : Prop := ∀ k, k < 256 → nameOf k ≠ n
theorem no_LDA {n : List UInt8} (h : NoName n) : (n == [76, 68, 65]) = false := by
  rw [beq_eq_false_iff_ne]
  intro e
  exact h 161 (by decide) (by rw [e]; decide +kernel)
theorem no_ORA {n : List UInt8} (h : NoName n) : (n == [79, 82, 65]) = false := by
  rw [beq_eq_false_iff_ne]
  intro e
  exact h 1 (by decide) (by rw [e]; decide +kernel)
theorem no_AND {n : List UInt8} (h : NoName n) : (n == [65, 78, 68]) = false := by
  rw [beq_eq_false_iff_ne]
  intro e
  exact h 33 (by decide) (by rw [e]; decide +kernel)
theorem no_EOR {n : List UInt8} (h : NoName n) : (n == [69, 79, 82]) = false := by
  rw [beq_eq_false_iff_ne]
  intro e
  exact h 65 (by decide) (by rw [e]; decide +kernel)
theorem no_ADC {n : List UInt8} (h : NoName n) : (n == [65, 68, 67]) = false := by
  rw [beq_eq_false_iff_ne]
  intro e
  exact h 97 (by decide) (by rw [e]; decide +kernel)
theorem no_SBC {n : List UInt8} (h : NoName n) : (n == [83, 66, 67]) = false := by
  rw [beq_eq_false_iff_ne]
  intro e
  exact h 225 (by decide) (by rw [e]; decide +kernel)
theorem no_ANC {n : List UInt8} (h : NoName n) : (n == [65, 78, 67]) = false := by
  rw [beq_eq_false_iff_ne]
  intro e
  exact h 11 (by decide) (by rw [e]; decide +kernel)
theorem no_ALR {n : List UInt8} (h : NoName n) : (n == [65, 76, 82]) = false := by
  rw [beq_eq_false_iff_ne]
  intro e
  exact h 75 (by decide) (by rw [e]; decide +kernel)
theorem no_ARR {n : List UInt8} (h : NoName n) : (n == [65, 82, 82]) = false := by
  rw [beq_eq_false_iff_ne]
  intro e
  exact h 107 (by decide) (by rw [e]; decide +kernel)
theorem no_ANE {n : List UInt8} (h : NoName n) : (n == [65, 78, 69]) = false := by
  rw [beq_eq_false_iff_ne]
  intro e
  exact h 139 (by decide) (by rw [e]; decide +kernel)
theorem no_LDX {n : List UInt8} (h : NoName n) : (n == [76, 68, 88]) = false := by
  rw [beq_eq_false_iff_ne]
  intro e
  exact h 162 (by decide) (by rw [e]; decide +kernel)
theorem no_LDY {n : List UInt8} (h : NoName n) : (n == [76, 68, 89]) = false := by
  rw [beq_eq_false_iff_ne]
  intro e
  exact h 160 (by decide) (by rw [e]; decide +kernel)
theorem no_LAX {n : List UInt8} (h : NoName n) : (n == [76, 65, 88]) = false := by
  rw [beq_eq_false_iff_ne]
  intro e
  exact h 163 (by decide) (by rw [e]; decide +kernel)
theorem no_LXA {n : List UInt8} (h : NoName n) : (n == [76, 88, 65]) = false := by
  rw [beq_eq_false_iff_ne]
  intro e
  exact h 171 (by decide) (by rw [e]; decide +kernel)
theorem no_LAS {n : List UInt8} (h : NoName n) : (n == [76, 65, 83]) = false := by
  rw [beq_eq_false_iff_ne]
  intro e
  exact h 187 (by decide) (by rw [e]; decide +kernel)
theorem no_SBX {n : List UInt8} (h : NoName n) : (n == [83, 66, 88]) = false := by
  rw [beq_eq_false_iff_ne]
  intro e
  exact h 203 (by decide) (by rw [e]; decide +kernel)
theorem no_CMP {n : List UInt8} (h : NoName n) : (n == [67, 77, 80]) = false := by
  rw [beq_eq_false_iff_ne]
  intro e
  exact h 193 (by decide) (by rw [e]; decide +kernel)
theorem no_CPX {n : List UInt8} (h : NoName n) : (n == [67, 80, 88]) = false := by
  rw [beq_eq_false_iff_ne]
  intro e
  exact h 224 (by decide) (by rw [e]; decide +kernel)
theorem no_CPY {n : List UInt8} (h : NoName n) : (n == [67, 80, 89]) = false := by
  rw [beq_eq_false_iff_ne]
  intro e
  exact h 192 (by decide) (by rw [e]; decide +kernel)
theorem no_BIT {n : List UInt8} (h : NoName n) : (n == [66, 73, 84]) = false := by
  rw [beq_eq_false_iff_ne]
  intro e
  exact h 36 (by decide) (by rw [e]; decide +kernel)
theorem no_SLO {n : List UInt8} (h : NoName n) : (n == [83, 76, 79]) = false := by
  rw [beq_eq_false_iff_ne]
  intro e
  exact h 3 (by decide) (by rw [e]; decide +kernel)
theorem no_RLA {n : List UInt8} (h : NoName n) : (n == [82, 76, 65]) = false := by
  rw [beq_eq_false_iff_ne]
  intro e
  exact h 35 (by decide) (by rw [e]; decide +kernel)
theorem no_SRE {n : List UInt8} (h : NoName n) : (n == [83, 82, 69]) = false := by
  rw [beq_eq_false_iff_ne]
  intro e
  exact h 67 (by decide) (by rw [e]; decide +kernel)
theorem no_RRA {n : List UInt8} (h : NoName n) : (n == [82, 82, 65]) = false := by
  rw [beq_eq_false_iff_ne]
  intro e
  exact h 99 (by decide) (by rw [e]; decide +kernel)
theorem no_ASL {n : List UInt8} (h : NoName n) : (n == [65, 83, 76]) = false := by
  rw [beq_eq_false_iff_ne]
  intro e
  exact h 6 (by decide) (by rw [e]; decide +kernel)
theorem no_LSR {n : List UInt8} (h : NoName n) : (n == [76, 83, 82]) = false := by
  rw [beq_eq_false_iff_ne]
  intro e
  exact h 70 (by decide) (by rw [e]; decide +kernel)
theorem no_ROL {n : List UInt8} (h : NoName n) : (n == [82, 79, 76]) = false := by
  rw [beq_eq_false_iff_ne]
  intro e
  exact h 38 (by decide) (by rw [e]; decide +kernel)
theorem no_ROR {n : List UInt8} (h : NoName n) : (n == [82, 79, 82]) = false := by
  rw [beq_eq_false_iff_ne]
  intro e
  exact h 102 (by decide) (by rw [e]; decide +kernel)
theorem no_INC {n : List UInt8} (h : NoName n) : (n == [73, 78, 67]) = false := by
  rw [beq_eq_false_iff_ne]
  intro e
  exact h 230 (by decide) (by rw [e]; decide +kernel)
theorem no_DEC {n : List UInt8} (h : NoName n) : (n == [68, 69, 67]) = false := by
  rw [beq_eq_false_iff_ne]
  intro e
  exact h 198 (by decide) (by rw [e]; decide +kernel)
theorem no_DCP {n : List UInt8} (h : NoName n) : (n == [68, 67, 80]) = false := by
  rw [beq_eq_false_iff_ne]
  intro e
  exact h 195 (by decide) (by rw [e]; decide +kernel)
theorem no_ISC {n : List UInt8} (h : NoName n) : (n == [73, 83, 67]) = false := by
  rw [beq_eq_false_iff_ne]
  intro e
  exact h 227 (by decide) (by rw [e]; decide +kernel)
theorem no_TAS {n : List UInt8} (h : NoName n) : (n == [84, 65, 83]) = false := by
  rw [beq_eq_false_iff_ne]
  intro e
  exact h 155 (by decide) (by rw [e]; decide +kernel)
theorem no_STA {n : List UInt8} (h : NoName n) : (n == [83, 84, 65]) = false := by
  rw [beq_eq_false_iff_ne]
  intro e
  exact h 129 (by decide) (by rw [e]; decide +kernel)
theorem no_STX {n : List UInt8} (h : NoName n) : (n == [83, 84, 88]) = false := by
  rw [beq_eq_false_iff_ne]
  intro e
  exact h 134 (by decide) (by rw [e]; decide +kernel)
theorem no_STY {n : List UInt8} (h : NoName n) : (n == [83, 84, 89]) = false := by
  rw [beq_eq_false_iff_ne]
  intro e
  exact h 132 (by decide) (by rw [e]; decide +kernel)
theorem no_SAX {n : List UInt8} (h : NoName n) : (n == [83, 65, 88]) = false := by
  rw [beq_eq_false_iff_ne]
  intro e
  exact h 131 (by decide) (by rw [e]; decide +kernel)
theorem no_SHA {n : List UInt8} (h : NoName n) : (n == [83, 72, 65]) = false := by
  rw [beq_eq_false_iff_ne]
  intro e
  exact h 147 (by decide) (by rw [e]; decide +kernel)
theorem no_SHX {n : List UInt8} (h : NoName n) : (n == [83, 72, 88]) = false := by
  rw [beq_eq_false_iff_ne]
  intro e
  exact h 158 (by decide) (by rw [e]; decide +kernel)
theorem no_SHY {n : List UInt8} (h : NoName n) : (n == [83, 72, 89]) = false := by
  rw [beq_eq_false_iff_ne]
  intro e
  exact h 156 (by decide) (by rw [e]; decide +kernel)
theorem no_CLC {n : List UInt8} (h : NoName n) : (n == [67, 76, 67]) = false := by
  rw [beq_eq_false_iff_ne]
  intro e
  exact h 24 (by decide) (by rw [e]; decide +kernel)
theorem no_CLD {n : List UInt8} (h : NoName n) : (n == [67, 76, 68]) = false := by
  rw [beq_eq_false_iff_ne]
  intro e
  exact h 216 (by decide) (by rw [e]; decide +kernel)
theorem no_CLI {n : List UInt8} (h : NoName n) : (n == [67, 76, 73]) = false := by
  rw [beq_eq_false_iff_ne]
  intro e
  exact h 88 (by decide) (by rw [e]; decide +kernel)
theorem no_CLV {n : List UInt8} (h : NoName n) : (n == [67, 76, 86]) = false := by
  rw [beq_eq_false_iff_ne]
  intro e
  exact h 184 (by decide) (by rw [e]; decide +kernel)
theorem no_SEC {n : List UInt8} (h : NoName n) : (n == [83, 69, 67]) = false := by
  rw [beq_eq_false_iff_ne]
  intro e
  exact h 56 (by decide) (by rw [e]; decide +kernel)
theorem no_SED {n : List UInt8} (h : NoName n) : (n == [83, 69, 68]) = false := by
  rw [beq_eq_false_iff_ne]
  intro e
  exact h 248 (by decide) (by rw [e]; decide +kernel)
theorem no_SEI {n : List UInt8} (h : NoName n) : (n == [83, 69, 73]) = false := by
  rw [beq_eq_false_iff_ne]
  intro e
  exact h 120 (by decide) (by rw [e]; decide +kernel)
theorem no_TAX {n : List UInt8} (h : NoName n) : (n == [84, 65, 88]) = false := by
  rw [beq_eq_false_iff_ne]
  intro e
  exact h 170 (by decide) (by rw [e]; decide +kernel)
theorem no_TAY {n : List UInt8} (h : NoName n) : (n == [84, 65, 89]) = false := by
  rw [beq_eq_false_iff_ne]
  intro e
  exact h 168 (by decide) (by rw [e]; decide +kernel)
theorem no_TXA {n : List UInt8} (h : NoName n) : (n == [84, 88, 65]) = false := by
  rw [beq_eq_false_iff_ne]
  intro e
  exact h 138 (by decide) (by rw [e]; decide +kernel)
theorem no_TYA {n : List UInt8} (h : NoName n) : (n == [84, 89, 65]) = false := by
  rw [beq_eq_false_iff_ne]
  intro e
  exact h 152 (by decide) (by rw [e]; decide +kernel)
theorem no_TSX {n : List UInt8} (h : NoName n) : (n == [84, 83, 88]) = false := by
  rw [beq_eq_false_iff_ne]
  intro e
  exact h 186 (by decide) (by rw [e]; decide +kernel)
theorem no_TXS {n : List UInt8} (h : NoName n) : (n == [84, 88, 83]) = false := by
  rw [beq_eq_false_iff_ne]
  intro e
  exact h 154 (by decide) (by rw [e]; decide +kernel)
theorem no_INX {n : List UInt8} (h : NoName n) : (n == [73, 78, 88]) = false := by
  rw [beq_eq_false_iff_ne]
  intro e
  exact h 232 (by decide) (by rw [e]; decide +kernel)
theorem no_INY {n : List UInt8} (h : NoName n) : (n == [73, 78, 89]) = false := by
  rw [beq_eq_false_iff_ne]
  intro e
  exact h 200 (by decide) (by rw [e]; decide +kernel)
theorem no_DEX {n : List UInt8} (h : NoName n) : (n == [68, 69, 88]) = false := by
  rw [beq_eq_false_iff_ne]
  intro e
  exact h 202 (by decide) (by rw [e]; decide +kernel)
theorem no_DEY {n : List UInt8} (h : NoName n) : (n == [68, 69, 89]) = false := by
  rw [beq_eq_false_iff_ne]
  intro e
  exact h 136 (by decide) (by rw [e]; decide +kernel)
theorem no_PHA {n : List UInt8} (h : NoName n) : (n == [80, 72, 65]) = false := by
  rw [beq_eq_false_iff_ne]
  intro e
  exact h 72 (by decide) (by rw [e]; decide +kernel)
theorem no_PHP {n : List UInt8} (h : NoName n) : (n == [80, 72, 80]) = false := by
  rw [beq_eq_false_iff_ne]
  intro e
  exact h 8 (by decide) (by rw [e]; decide +kernel)
theorem no_PLA {n : List UInt8} (h : NoName n) : (n == [80, 76, 65]) = false := by
  rw [beq_eq_false_iff_ne]
  intro e
  exact h 104 (by decide) (by rw [e]; decide +kernel)
theorem no_PLP {n : List UInt8} (h : NoName n) : (n == [80, 76, 80]) = false := by
  rw [beq_eq_false_iff_ne]
  intro e
  exact h 40 (by decide) (by rw [e]; decide +kernel)
theorem no_BPL {n : List UInt8} (h : NoName n) : (n == [66, 80, 76]) = false := by
  rw [beq_eq_false_iff_ne]
  intro e
  exact h 16 (by decide) (by rw [e]; decide +kernel)
theorem no_BVC {n : List UInt8} (h : NoName n) : (n == [66, 86, 67]) = false := by
  rw [beq_eq_false_iff_ne]
  intro e
  exact h 80 (by decide) (by rw [e]; decide +kernel)
theorem no_BCC {n : List UInt8} (h : NoName n) : (n == [66, 67, 67]) = false := by
  rw [beq_eq_false_iff_ne]
  intro e
  exact h 144 (by decide) (by rw [e]; decide +kernel)
theorem no_BNE {n : List UInt8} (h : NoName n) : (n == [66, 78, 69]) = false := by
  rw [beq_eq_false_iff_ne]
  intro e
  exact h 208 (by decide) (by rw [e]; decide +kernel)
theorem no_BMI {n : List UInt8} (h : NoName n) : (n == [66, 77, 73]) = false := by
  rw [beq_eq_false_iff_ne]
  intro e
  exact h 48 (by decide) (by rw [e]; decide +kernel)
theorem no_BVS {n : List UInt8} (h : NoName n) : (n == [66, 86, 83]) = false := by
  rw [beq_eq_false_iff_ne]
  intro e
  exact h 112 (by decide) (by rw [e]; decide +kernel)
theorem no_BCS {n : List UInt8} (h : NoName n) : (n == [66, 67, 83]) = false := by
  rw [beq_eq_false_iff_ne]
  intro e
  exact h 176 (by decide) (by rw [e]; decide +kernel)
theorem no_BEQ {n : List UInt8} (h : NoName n) : (n == [66, 69, 81]) = false := by
  rw [beq_eq_false_iff_ne]
  intro e
  exact h 240 (by decide) (by rw [e]; decide +kernel)
theorem other_reads {n : List UInt8} (h : NoName n) (r : Regs) (m : Int) : readsM n r m = r := by
  unfold readsM comparesM loadsM andsM
  simp only [no_LDA h, no_ORA h, no_AND h, no_EOR h, no_ADC h, no_SBC h, no_ANC h, no_ALR h, no_ARR h, no_ANE h, no_LDX h, no_LDY h, no_LAX h, no_LXA h, no_LAS h, no_SBX h, no_CMP h, no_CPX h, no_CPY h, no_BIT h, Bool.false_eq_true, if_false]
theorem other_modifies {n : List UInt8} (h : NoName n) (r : Regs) (m : Int) : modifiesM n r m = (r, m) := by
  unfold modifiesM
  simp only [no_SLO h, no_RLA h, no_SRE h, no_RRA h, no_ASL h, no_LSR h, no_ROL h, no_ROR h, no_INC h, no_DEC h, no_DCP h, no_ISC h, Bool.false_eq_true, if_false]
theorem other_writes {n : List UInt8} (h : NoName n) (r : Regs) (m : Int) : writesM n r m = (r, 0) := by
  unfold writesM
  simp only [no_TAS h, no_STA h, no_STX h, no_STY h, no_SAX h, no_SHA h, no_SHX h, no_SHY h, Bool.false_eq_true, if_false]
theorem other_inner {n : List UInt8} (h : NoName n) (r : Regs) (m : Int) : innerM n r = r := by
  unfold innerM
  simp only [no_ASL h, no_LSR h, no_ROL h, no_ROR h, no_CLC h, no_CLD h, no_CLI h, no_CLV h, no_SEC h, no_SED h, no_SEI h, no_TAX h, no_TAY h, no_TXA h, no_TYA h, no_TSX h, no_TXS h, no_INX h, no_INY h, no_DEX h, no_DEY h, Bool.false_eq_true, if_false]
theorem other_pushes {n : List UInt8} (h : NoName n) (r : Regs) (m : Int) : pushesM n r = 0 := by
  unfold pushesM
  simp only [no_PHA h, no_PHP h, Bool.false_eq_true, if_false]
theorem other_pulls {n : List UInt8} (h : NoName n) (r : Regs) (m : Int) : pullsM n r m = r := by
  unfold pullsM
  simp only [no_PLA h, no_PLP h, Bool.false_eq_true, if_false]
theorem other_taken {n : List UInt8} (h : NoName n) (r : Regs) (m : Int) : takenM n r.p = false := by
  unfold takenM
  simp only [no_BPL h, no_BVC h, no_BCC h, no_BNE h, no_BMI h, no_BVS h, no_BCS h, no_BEQ h, Bool.false_eq_true, if_false]

end Go.Proofs.Ytmiihcaccejklaa
