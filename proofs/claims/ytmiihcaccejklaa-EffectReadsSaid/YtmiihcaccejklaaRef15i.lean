/- PROVED: the contract of keepsakeref15.Reads. No conditions beyond those that each theorem states. -/
import Derived.Test.YtmiihcaccejklaaRef15g
import Derived.Test.YtmiihcaccejklaaRef15h
namespace Go.Proofs.Ytmiihcaccejklaa
open Go.RowKit Go.Proofs.YtmiihcaccejklaaLib
set_option linter.unusedSimpArgs false
set_option linter.unusedVariables false

def rreadsM (n : List UInt8) (r : Regs) (m : Int) : Regs :=
  if (n == [76, 68, 65]) = true then { r with a := m, p := nzM r.p m } else
  if (n == [76, 68, 88]) = true then { r with x := m, p := nzM r.p m } else
  if (n == [76, 68, 89]) = true then { r with y := m, p := nzM r.p m } else
  if (n == [76, 65, 88]) = true then { r with a := m, x := m, p := nzM r.p m } else
  if (n == [79, 82, 65]) = true then { r with a := bits .or .u8 r.a m, p := nzM r.p (bits .or .u8 r.a m) } else
  if (n == [65, 78, 68]) = true then { r with a := bits .and .u8 r.a m, p := nzM r.p (bits .and .u8 r.a m) } else
  if (n == [69, 79, 82]) = true then { r with a := bits .xor .u8 r.a m, p := nzM r.p (bits .xor .u8 r.a m) } else
  if (n == [65, 68, 67]) = true then { r with a := (adcM r.a m r.p).1, p := (adcM r.a m r.p).2 } else
  if (n == [83, 66, 67]) = true then { r with a := (sbcM r.a m r.p).1, p := (sbcM r.a m r.p).2 } else
  if (n == [67, 77, 80]) = true then { r with p := cmpM r.a m r.p } else
  if (n == [67, 80, 88]) = true then { r with p := cmpM r.x m r.p } else
  if (n == [67, 80, 89]) = true then { r with p := cmpM r.y m r.p } else
  if (n == [66, 73, 84]) = true then { r with p := bitM r.a m r.p } else
  if (n == [65, 78, 67]) = true then { r with a := bits .and .u8 r.a m, p := setF (nzM r.p (bits .and .u8 r.a m)) 1 (decide (127 < bits .and .u8 r.a m)) } else
  if (n == [65, 76, 82]) = true then { r with a := (lsr (bits .and .u8 r.a m) r.p).1, p := (lsr (bits .and .u8 r.a m) r.p).2 } else
  if (n == [65, 82, 82]) = true then { r with a := (arrM r.a m r.p).1, p := (arrM r.a m r.p).2 } else
  if (n == [65, 78, 69]) = true then { r with a := bits .and .u8 (bits .and .u8 (bits .or .u8 r.a 238) r.x) m, p := nzM r.p (bits .and .u8 (bits .and .u8 (bits .or .u8 r.a 238) r.x) m) } else
  if (n == [76, 88, 65]) = true then { r with a := bits .and .u8 (bits .or .u8 r.a 238) m, x := bits .and .u8 (bits .or .u8 r.a 238) m, p := nzM r.p (bits .and .u8 (bits .or .u8 r.a 238) m) } else
  if (n == [83, 66, 88]) = true then { r with x := (sbxM (bits .and .u8 r.a r.x) m r.p).1, p := (sbxM (bits .and .u8 r.a r.x) m r.p).2 } else
  if (n == [76, 65, 83]) = true then { r with a := bits .and .u8 m r.s, x := bits .and .u8 m r.s, s := bits .and .u8 m r.s, p := nzM r.p (bits .and .u8 m r.s) } else
  r
theorem rreads_any (w : World) (n : ByteArray) (r : Regs) (m : Int) (hr : r.Ok) (hm : Byte m) :
    Calls Try.prog 24 #[.string n, r.val, .int .u8 m] w (Post w [] fun v W => v = (rreadsM n.toList r m).val) := by
  unfold rreadsM
  by_cases q0 : (n.toList == [76, 68, 65]) = true
  · rw [if_pos q0]
    exact rreads_LDA w n r m hr hm  q0
  rw [if_neg q0]
  have q0 : (n.toList == [76, 68, 65]) = false := by simpa using q0
  by_cases q1 : (n.toList == [76, 68, 88]) = true
  · rw [if_pos q1]
    exact rreads_LDX w n r m hr hm q0 q1
  rw [if_neg q1]
  have q1 : (n.toList == [76, 68, 88]) = false := by simpa using q1
  by_cases q2 : (n.toList == [76, 68, 89]) = true
  · rw [if_pos q2]
    exact rreads_LDY w n r m hr hm q0 q1 q2
  rw [if_neg q2]
  have q2 : (n.toList == [76, 68, 89]) = false := by simpa using q2
  by_cases q3 : (n.toList == [76, 65, 88]) = true
  · rw [if_pos q3]
    exact rreads_LAX w n r m hr hm q0 q1 q2 q3
  rw [if_neg q3]
  have q3 : (n.toList == [76, 65, 88]) = false := by simpa using q3
  by_cases q4 : (n.toList == [79, 82, 65]) = true
  · rw [if_pos q4]
    exact rreads_ORA w n r m hr hm q0 q1 q2 q3 q4
  rw [if_neg q4]
  have q4 : (n.toList == [79, 82, 65]) = false := by simpa using q4
  by_cases q5 : (n.toList == [65, 78, 68]) = true
  · rw [if_pos q5]
    exact rreads_AND w n r m hr hm q0 q1 q2 q3 q4 q5
  rw [if_neg q5]
  have q5 : (n.toList == [65, 78, 68]) = false := by simpa using q5
  by_cases q6 : (n.toList == [69, 79, 82]) = true
  · rw [if_pos q6]
    exact rreads_EOR w n r m hr hm q0 q1 q2 q3 q4 q5 q6
  rw [if_neg q6]
  have q6 : (n.toList == [69, 79, 82]) = false := by simpa using q6
  by_cases q7 : (n.toList == [65, 68, 67]) = true
  · rw [if_pos q7]
    exact rreads_ADC w n r m hr hm q0 q1 q2 q3 q4 q5 q6 q7
  rw [if_neg q7]
  have q7 : (n.toList == [65, 68, 67]) = false := by simpa using q7
  by_cases q8 : (n.toList == [83, 66, 67]) = true
  · rw [if_pos q8]
    exact rreads_SBC w n r m hr hm q0 q1 q2 q3 q4 q5 q6 q7 q8
  rw [if_neg q8]
  have q8 : (n.toList == [83, 66, 67]) = false := by simpa using q8
  by_cases q9 : (n.toList == [67, 77, 80]) = true
  · rw [if_pos q9]
    exact rreads_CMP w n r m hr hm q0 q1 q2 q3 q4 q5 q6 q7 q8 q9
  rw [if_neg q9]
  have q9 : (n.toList == [67, 77, 80]) = false := by simpa using q9
  by_cases q10 : (n.toList == [67, 80, 88]) = true
  · rw [if_pos q10]
    exact rreads_CPX w n r m hr hm q0 q1 q2 q3 q4 q5 q6 q7 q8 q9 q10
  rw [if_neg q10]
  have q10 : (n.toList == [67, 80, 88]) = false := by simpa using q10
  by_cases q11 : (n.toList == [67, 80, 89]) = true
  · rw [if_pos q11]
    exact rreads_CPY w n r m hr hm q0 q1 q2 q3 q4 q5 q6 q7 q8 q9 q10 q11
  rw [if_neg q11]
  have q11 : (n.toList == [67, 80, 89]) = false := by simpa using q11
  by_cases q12 : (n.toList == [66, 73, 84]) = true
  · rw [if_pos q12]
    exact rreads_BIT w n r m hr hm q0 q1 q2 q3 q4 q5 q6 q7 q8 q9 q10 q11 q12
  rw [if_neg q12]
  have q12 : (n.toList == [66, 73, 84]) = false := by simpa using q12
  by_cases q13 : (n.toList == [65, 78, 67]) = true
  · rw [if_pos q13]
    exact rreads_ANC w n r m hr hm q0 q1 q2 q3 q4 q5 q6 q7 q8 q9 q10 q11 q12 q13
  rw [if_neg q13]
  have q13 : (n.toList == [65, 78, 67]) = false := by simpa using q13
  by_cases q14 : (n.toList == [65, 76, 82]) = true
  · rw [if_pos q14]
    exact rreads_ALR w n r m hr hm q0 q1 q2 q3 q4 q5 q6 q7 q8 q9 q10 q11 q12 q13 q14
  rw [if_neg q14]
  have q14 : (n.toList == [65, 76, 82]) = false := by simpa using q14
  by_cases q15 : (n.toList == [65, 82, 82]) = true
  · rw [if_pos q15]
    exact rreads_ARR w n r m hr hm q0 q1 q2 q3 q4 q5 q6 q7 q8 q9 q10 q11 q12 q13 q14 q15
  rw [if_neg q15]
  have q15 : (n.toList == [65, 82, 82]) = false := by simpa using q15
  by_cases q16 : (n.toList == [65, 78, 69]) = true
  · rw [if_pos q16]
    exact rreads_ANE w n r m hr hm q0 q1 q2 q3 q4 q5 q6 q7 q8 q9 q10 q11 q12 q13 q14 q15 q16
  rw [if_neg q16]
  have q16 : (n.toList == [65, 78, 69]) = false := by simpa using q16
  by_cases q17 : (n.toList == [76, 88, 65]) = true
  · rw [if_pos q17]
    exact rreads_LXA w n r m hr hm q0 q1 q2 q3 q4 q5 q6 q7 q8 q9 q10 q11 q12 q13 q14 q15 q16 q17
  rw [if_neg q17]
  have q17 : (n.toList == [76, 88, 65]) = false := by simpa using q17
  by_cases q18 : (n.toList == [83, 66, 88]) = true
  · rw [if_pos q18]
    exact rreads_SBX w n r m hr hm q0 q1 q2 q3 q4 q5 q6 q7 q8 q9 q10 q11 q12 q13 q14 q15 q16 q17 q18
  rw [if_neg q18]
  have q18 : (n.toList == [83, 66, 88]) = false := by simpa using q18
  by_cases q19 : (n.toList == [76, 65, 83]) = true
  · rw [if_pos q19]
    exact rreads_LAS w n r m hr hm q0 q1 q2 q3 q4 q5 q6 q7 q8 q9 q10 q11 q12 q13 q14 q15 q16 q17 q18 q19
  rw [if_neg q19]
  have q19 : (n.toList == [76, 65, 83]) = false := by simpa using q19
  exact rreads_other w n r m hr hm q0 q1 q2 q3 q4 q5 q6 q7 q8 q9 q10 q11 q12 q13 q14 q15 q16 q17 q18 q19

theorem rreadsM_eq (n : List UInt8) (r : Regs) (m : Int) : rreadsM n r m = readsM n r m := by
  by_cases h0 : n = [76, 68, 65]
  · subst h0; rfl
  by_cases h1 : n = [76, 68, 88]
  · subst h1; rfl
  by_cases h2 : n = [76, 68, 89]
  · subst h2; rfl
  by_cases h3 : n = [76, 65, 88]
  · subst h3; rfl
  by_cases h4 : n = [79, 82, 65]
  · subst h4; rfl
  by_cases h5 : n = [65, 78, 68]
  · subst h5; rfl
  by_cases h6 : n = [69, 79, 82]
  · subst h6; rfl
  by_cases h7 : n = [65, 68, 67]
  · subst h7; rfl
  by_cases h8 : n = [83, 66, 67]
  · subst h8; rfl
  by_cases h9 : n = [67, 77, 80]
  · subst h9; rfl
  by_cases h10 : n = [67, 80, 88]
  · subst h10; rfl
  by_cases h11 : n = [67, 80, 89]
  · subst h11; rfl
  by_cases h12 : n = [66, 73, 84]
  · subst h12; rfl
  by_cases h13 : n = [65, 78, 67]
  · subst h13; rfl
  by_cases h14 : n = [65, 76, 82]
  · subst h14; rfl
  by_cases h15 : n = [65, 82, 82]
  · subst h15; rfl
  by_cases h16 : n = [65, 78, 69]
  · subst h16; rfl
  by_cases h17 : n = [76, 88, 65]
  · subst h17; rfl
  by_cases h18 : n = [83, 66, 88]
  · subst h18; rfl
  by_cases h19 : n = [76, 65, 83]
  · subst h19; rfl
  have g0 : (n == [76, 68, 65]) = false := by rw [beq_eq_false_iff_ne]; exact h0
  have g1 : (n == [76, 68, 88]) = false := by rw [beq_eq_false_iff_ne]; exact h1
  have g2 : (n == [76, 68, 89]) = false := by rw [beq_eq_false_iff_ne]; exact h2
  have g3 : (n == [76, 65, 88]) = false := by rw [beq_eq_false_iff_ne]; exact h3
  have g4 : (n == [79, 82, 65]) = false := by rw [beq_eq_false_iff_ne]; exact h4
  have g5 : (n == [65, 78, 68]) = false := by rw [beq_eq_false_iff_ne]; exact h5
  have g6 : (n == [69, 79, 82]) = false := by rw [beq_eq_false_iff_ne]; exact h6
  have g7 : (n == [65, 68, 67]) = false := by rw [beq_eq_false_iff_ne]; exact h7
  have g8 : (n == [83, 66, 67]) = false := by rw [beq_eq_false_iff_ne]; exact h8
  have g9 : (n == [67, 77, 80]) = false := by rw [beq_eq_false_iff_ne]; exact h9
  have g10 : (n == [67, 80, 88]) = false := by rw [beq_eq_false_iff_ne]; exact h10
  have g11 : (n == [67, 80, 89]) = false := by rw [beq_eq_false_iff_ne]; exact h11
  have g12 : (n == [66, 73, 84]) = false := by rw [beq_eq_false_iff_ne]; exact h12
  have g13 : (n == [65, 78, 67]) = false := by rw [beq_eq_false_iff_ne]; exact h13
  have g14 : (n == [65, 76, 82]) = false := by rw [beq_eq_false_iff_ne]; exact h14
  have g15 : (n == [65, 82, 82]) = false := by rw [beq_eq_false_iff_ne]; exact h15
  have g16 : (n == [65, 78, 69]) = false := by rw [beq_eq_false_iff_ne]; exact h16
  have g17 : (n == [76, 88, 65]) = false := by rw [beq_eq_false_iff_ne]; exact h17
  have g18 : (n == [83, 66, 88]) = false := by rw [beq_eq_false_iff_ne]; exact h18
  have g19 : (n == [76, 65, 83]) = false := by rw [beq_eq_false_iff_ne]; exact h19
  unfold rreadsM readsM comparesM loadsM andsM
  simp only [g0, g1, g2, g3, g4, g5, g6, g7, g8, g9, g10, g11, g12, g13, g14, g15, g16, g17, g18, g19, Bool.false_eq_true, if_false]

end Go.Proofs.Ytmiihcaccejklaa
