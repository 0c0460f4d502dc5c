/- PROVED: the contract of keepsakeref15.Modifies. No conditions beyond those that each theorem states. -/
import Derived.Test.YtmiihcaccejklaaRef15d
import Derived.Test.YtmiihcaccejklaaRef15j
import Derived.Test.YtmiihcaccejklaaEffN
namespace Go.Proofs.Ytmiihcaccejklaa
open Go.RowKit Go.Proofs.YtmiihcaccejklaaLib
set_option linter.unusedSimpArgs false
set_option linter.unusedVariables false

def rmodifiesM (n : List UInt8) (r : Regs) (m : Int) : Regs × Int :=
  if (n == [65, 83, 76]) = true then ({ r with p := (asl m r.p).2 }, (asl m r.p).1) else
  if (n == [76, 83, 82]) = true then ({ r with p := (lsr m r.p).2 }, (lsr m r.p).1) else
  if (n == [82, 79, 76]) = true then ({ r with p := (rol m r.p).2 }, (rol m r.p).1) else
  if (n == [82, 79, 82]) = true then ({ r with p := (ror m r.p).2 }, (ror m r.p).1) else
  if (n == [73, 78, 67]) = true then ({ r with p := nzM r.p ((m + 1) % 256) }, (m + 1) % 256) else
  if (n == [68, 69, 67]) = true then ({ r with p := nzM r.p ((m + 255) % 256) }, (m + 255) % 256) else
  if (n == [83, 76, 79]) = true then ({ r with a := bits .or .u8 r.a (asl m r.p).1, p := nzM (asl m r.p).2 (bits .or .u8 r.a (asl m r.p).1) }, (asl m r.p).1) else
  if (n == [82, 76, 65]) = true then ({ r with a := bits .and .u8 r.a (rol m r.p).1, p := nzM (rol m r.p).2 (bits .and .u8 r.a (rol m r.p).1) }, (rol m r.p).1) else
  if (n == [83, 82, 69]) = true then ({ r with a := bits .xor .u8 r.a (lsr m r.p).1, p := nzM (lsr m r.p).2 (bits .xor .u8 r.a (lsr m r.p).1) }, (lsr m r.p).1) else
  if (n == [82, 82, 65]) = true then ({ r with a := (adcM r.a (ror m r.p).1 (ror m r.p).2).1, p := (adcM r.a (ror m r.p).1 (ror m r.p).2).2 }, (ror m r.p).1) else
  if (n == [68, 67, 80]) = true then ({ r with p := cmpM r.a ((m + 255) % 256) r.p }, (m + 255) % 256) else
  if (n == [73, 83, 67]) = true then ({ r with a := (sbcM r.a ((m + 1) % 256) r.p).1, p := (sbcM r.a ((m + 1) % 256) r.p).2 }, (m + 1) % 256) else
  (r, m)
theorem rmodifies_any (w : World) (n : ByteArray) (r : Regs) (m : Int) (hr : r.Ok) (hm : Byte m) :
    Calls Try.prog 15 #[.string n, r.val, .int .u8 m] w (Post w [] fun v W => v = .tuple #[(rmodifiesM n.toList r m).1.val, .int .u8 (rmodifiesM n.toList r m).2]) := by
  unfold rmodifiesM
  by_cases q0 : (n.toList == [65, 83, 76]) = true
  · rw [if_pos q0]
    exact rmodifies_ASL w n r m hr hm  q0
  rw [if_neg q0]
  have q0 : (n.toList == [65, 83, 76]) = false := by simpa using q0
  by_cases q1 : (n.toList == [76, 83, 82]) = true
  · rw [if_pos q1]
    exact rmodifies_LSR w n r m hr hm q0 q1
  rw [if_neg q1]
  have q1 : (n.toList == [76, 83, 82]) = false := by simpa using q1
  by_cases q2 : (n.toList == [82, 79, 76]) = true
  · rw [if_pos q2]
    exact rmodifies_ROL w n r m hr hm q0 q1 q2
  rw [if_neg q2]
  have q2 : (n.toList == [82, 79, 76]) = false := by simpa using q2
  by_cases q3 : (n.toList == [82, 79, 82]) = true
  · rw [if_pos q3]
    exact rmodifies_ROR w n r m hr hm q0 q1 q2 q3
  rw [if_neg q3]
  have q3 : (n.toList == [82, 79, 82]) = false := by simpa using q3
  by_cases q4 : (n.toList == [73, 78, 67]) = true
  · rw [if_pos q4]
    exact rmodifies_INC w n r m hr hm q0 q1 q2 q3 q4
  rw [if_neg q4]
  have q4 : (n.toList == [73, 78, 67]) = false := by simpa using q4
  by_cases q5 : (n.toList == [68, 69, 67]) = true
  · rw [if_pos q5]
    exact rmodifies_DEC w n r m hr hm q0 q1 q2 q3 q4 q5
  rw [if_neg q5]
  have q5 : (n.toList == [68, 69, 67]) = false := by simpa using q5
  by_cases q6 : (n.toList == [83, 76, 79]) = true
  · rw [if_pos q6]
    exact rmodifies_SLO w n r m hr hm q0 q1 q2 q3 q4 q5 q6
  rw [if_neg q6]
  have q6 : (n.toList == [83, 76, 79]) = false := by simpa using q6
  by_cases q7 : (n.toList == [82, 76, 65]) = true
  · rw [if_pos q7]
    exact rmodifies_RLA w n r m hr hm q0 q1 q2 q3 q4 q5 q6 q7
  rw [if_neg q7]
  have q7 : (n.toList == [82, 76, 65]) = false := by simpa using q7
  by_cases q8 : (n.toList == [83, 82, 69]) = true
  · rw [if_pos q8]
    exact rmodifies_SRE w n r m hr hm q0 q1 q2 q3 q4 q5 q6 q7 q8
  rw [if_neg q8]
  have q8 : (n.toList == [83, 82, 69]) = false := by simpa using q8
  by_cases q9 : (n.toList == [82, 82, 65]) = true
  · rw [if_pos q9]
    exact rmodifies_RRA w n r m hr hm q0 q1 q2 q3 q4 q5 q6 q7 q8 q9
  rw [if_neg q9]
  have q9 : (n.toList == [82, 82, 65]) = false := by simpa using q9
  by_cases q10 : (n.toList == [68, 67, 80]) = true
  · rw [if_pos q10]
    exact rmodifies_DCP w n r m hr hm q0 q1 q2 q3 q4 q5 q6 q7 q8 q9 q10
  rw [if_neg q10]
  have q10 : (n.toList == [68, 67, 80]) = false := by simpa using q10
  by_cases q11 : (n.toList == [73, 83, 67]) = true
  · rw [if_pos q11]
    exact rmodifies_ISC w n r m hr hm q0 q1 q2 q3 q4 q5 q6 q7 q8 q9 q10 q11
  rw [if_neg q11]
  have q11 : (n.toList == [73, 83, 67]) = false := by simpa using q11
  exact rmodifies_other w n r m hr hm q0 q1 q2 q3 q4 q5 q6 q7 q8 q9 q10 q11

theorem rmodifiesM_eq (n : List UInt8) (r : Regs) (m : Int) : rmodifiesM n r m = modifiesM n r m := by
  have e0 : (m + 255) % 256 = (m - 1) % 256 := by omega
  by_cases h0 : n = [65, 83, 76]
  · subst h0; first | rfl | (simp [rmodifiesM, modifiesM, readsM, comparesM, loadsM, andsM, e0]; done)
  by_cases h1 : n = [76, 83, 82]
  · subst h1; first | rfl | (simp [rmodifiesM, modifiesM, readsM, comparesM, loadsM, andsM, e0]; done)
  by_cases h2 : n = [82, 79, 76]
  · subst h2; first | rfl | (simp [rmodifiesM, modifiesM, readsM, comparesM, loadsM, andsM, e0]; done)
  by_cases h3 : n = [82, 79, 82]
  · subst h3; first | rfl | (simp [rmodifiesM, modifiesM, readsM, comparesM, loadsM, andsM, e0]; done)
  by_cases h4 : n = [73, 78, 67]
  · subst h4; first | rfl | (simp [rmodifiesM, modifiesM, readsM, comparesM, loadsM, andsM, e0]; done)
  by_cases h5 : n = [68, 69, 67]
  · subst h5; first | rfl | (simp [rmodifiesM, modifiesM, readsM, comparesM, loadsM, andsM, e0]; done)
  by_cases h6 : n = [83, 76, 79]
  · subst h6; first | rfl | (simp [rmodifiesM, modifiesM, readsM, comparesM, loadsM, andsM, e0]; done)
  by_cases h7 : n = [82, 76, 65]
  · subst h7; first | rfl | (simp [rmodifiesM, modifiesM, readsM, comparesM, loadsM, andsM, e0]; done)
  by_cases h8 : n = [83, 82, 69]
  · subst h8; first | rfl | (simp [rmodifiesM, modifiesM, readsM, comparesM, loadsM, andsM, e0]; done)
  by_cases h9 : n = [82, 82, 65]
  · subst h9; first | rfl | (simp [rmodifiesM, modifiesM, readsM, comparesM, loadsM, andsM, e0]; done)
  by_cases h10 : n = [68, 67, 80]
  · subst h10; first | rfl | (simp [rmodifiesM, modifiesM, readsM, comparesM, loadsM, andsM, e0]; done)
  by_cases h11 : n = [73, 83, 67]
  · subst h11; first | rfl | (simp [rmodifiesM, modifiesM, readsM, comparesM, loadsM, andsM, e0]; done)
  have g0 : (n == [65, 83, 76]) = false := by rw [beq_eq_false_iff_ne]; exact h0
  have g1 : (n == [76, 83, 82]) = false := by rw [beq_eq_false_iff_ne]; exact h1
  have g2 : (n == [82, 79, 76]) = false := by rw [beq_eq_false_iff_ne]; exact h2
  have g3 : (n == [82, 79, 82]) = false := by rw [beq_eq_false_iff_ne]; exact h3
  have g4 : (n == [73, 78, 67]) = false := by rw [beq_eq_false_iff_ne]; exact h4
  have g5 : (n == [68, 69, 67]) = false := by rw [beq_eq_false_iff_ne]; exact h5
  have g6 : (n == [83, 76, 79]) = false := by rw [beq_eq_false_iff_ne]; exact h6
  have g7 : (n == [82, 76, 65]) = false := by rw [beq_eq_false_iff_ne]; exact h7
  have g8 : (n == [83, 82, 69]) = false := by rw [beq_eq_false_iff_ne]; exact h8
  have g9 : (n == [82, 82, 65]) = false := by rw [beq_eq_false_iff_ne]; exact h9
  have g10 : (n == [68, 67, 80]) = false := by rw [beq_eq_false_iff_ne]; exact h10
  have g11 : (n == [73, 83, 67]) = false := by rw [beq_eq_false_iff_ne]; exact h11
  unfold rmodifiesM modifiesM
  simp only [g0, g1, g2, g3, g4, g5, g6, g7, g8, g9, g10, g11, Bool.false_eq_true, if_false]

end Go.Proofs.Ytmiihcaccejklaa
