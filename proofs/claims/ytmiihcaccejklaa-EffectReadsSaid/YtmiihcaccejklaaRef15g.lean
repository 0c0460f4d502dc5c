/- PROVED: the contract of keepsakeref15.Reads, name by name, two names. No conditions beyond those that each theorem states. -/
import Derived.Test.YtmiihcaccejklaaRef15c
namespace Go.Proofs.Ytmiihcaccejklaa
open Go.RowKit Go.Proofs.YtmiihcaccejklaaLib
set_option linter.unusedSimpArgs false
set_option linter.unusedVariables false

set_option maxRecDepth 100000 in
set_option maxHeartbeats 2000000 in
theorem rreads_ANC (w : World) (n : ByteArray) (r : Regs) (m : Int) (hr : r.Ok) (hm : Byte m) (q0 : (n.toList == [76, 68, 65]) = false) (q1 : (n.toList == [76, 68, 88]) = false) (q2 : (n.toList == [76, 68, 89]) = false) (q3 : (n.toList == [76, 65, 88]) = false) (q4 : (n.toList == [79, 82, 65]) = false) (q5 : (n.toList == [65, 78, 68]) = false) (q6 : (n.toList == [69, 79, 82]) = false) (q7 : (n.toList == [65, 68, 67]) = false) (q8 : (n.toList == [83, 66, 67]) = false) (q9 : (n.toList == [67, 77, 80]) = false) (q10 : (n.toList == [67, 80, 88]) = false) (q11 : (n.toList == [67, 80, 89]) = false) (q12 : (n.toList == [66, 73, 84]) = false) (q13 : (n.toList == [65, 78, 67]) = true) :
    Calls Try.prog 24 #[.string n, r.val, .int .u8 m] w (Post w [] fun v W => v = ({ r with a := bits .and .u8 r.a m, p := setF (nzM r.p (bits .and .u8 r.a m)) 1 (decide (127 < bits .and .u8 r.a m)) } : Regs).val) := by
  obtain ⟨a, x, y, s, p, pc⟩ := r
  have HM := Lib.hid hm
  have HA := Lib.hid hr.a
  have HX := Lib.hid hr.x
  have HY := Lib.hid hr.y
  have HS := Lib.hid hr.s
  have HP := Lib.hid hr.p
  have HR := Lib.hid hr
  obtain ⟨ha, hx, hy, hs, hp, hpc⟩ := hr
  dsimp only at HA HX HY HS HP
  unfold Regs.val
  go_enter Try.func24, Try.ntmps24
  go_wp2_with fail
  go_region_with (first | (go_at_call 37; refine (rand_any _ _ _ (by (first | exact HM.out | exact HA.out | exact HX.out | exact HY.out | exact HS.out | exact HP.out | exact byte_bits _ _ _ | exact mod_b _ | (simp [Byte]; done) | (with_reducible assumption))) (by (first | exact HM.out | exact HA.out | exact HX.out | exact HY.out | exact HS.out | exact HP.out | exact byte_bits _ _ _ | exact mod_b _ | (simp [Byte]; done) | (with_reducible assumption)))).mono ?_; rintro _ _ ⟨rfl, rfl⟩; (try unfold Regs.val); simp only []) | (go_at_call 35; refine (rsetA_x _ ⟨a, x, y, s, p, pc⟩ _ HR.out (by (first | exact HM.out | exact HA.out | exact HX.out | exact HY.out | exact HS.out | exact HP.out | exact byte_bits _ _ _ | exact mod_b _ | (simp [Byte]; done) | (with_reducible assumption)))).mono ?_; rintro _ _ ⟨rfl, rfl⟩; (try unfold Regs.val); simp only []))
  all_goals (go_wp2_with fail)
  all_goals (
    refine (rset_any _ _ 1 _ (nzM_b HP.out) (by simp [IsFlag])).mono ?_
    rintro _ _ ⟨rfl, rfl⟩
    (try unfold Regs.val)
    go_wp2_with fail
  )
  all_goals (
    go_returns
    exact ⟨_, rfl, rfl, by repeat (first | with_reducible exact Kept.refl _ _ | with_reducible assumption | with_reducible apply Kept.alloc | with_reducible apply Kept.drew | with_reducible apply Kept.drewN | (with_reducible refine Kept.setCell ?_ (Or.inr (by simp <;> omega)) _))⟩)

set_option maxRecDepth 100000 in
set_option maxHeartbeats 2000000 in
theorem rreads_ALR (w : World) (n : ByteArray) (r : Regs) (m : Int) (hr : r.Ok) (hm : Byte m) (q0 : (n.toList == [76, 68, 65]) = false) (q1 : (n.toList == [76, 68, 88]) = false) (q2 : (n.toList == [76, 68, 89]) = false) (q3 : (n.toList == [76, 65, 88]) = false) (q4 : (n.toList == [79, 82, 65]) = false) (q5 : (n.toList == [65, 78, 68]) = false) (q6 : (n.toList == [69, 79, 82]) = false) (q7 : (n.toList == [65, 68, 67]) = false) (q8 : (n.toList == [83, 66, 67]) = false) (q9 : (n.toList == [67, 77, 80]) = false) (q10 : (n.toList == [67, 80, 88]) = false) (q11 : (n.toList == [67, 80, 89]) = false) (q12 : (n.toList == [66, 73, 84]) = false) (q13 : (n.toList == [65, 78, 67]) = false) (q14 : (n.toList == [65, 76, 82]) = true) :
    Calls Try.prog 24 #[.string n, r.val, .int .u8 m] w (Post w [] fun v W => v = ({ r with a := (lsr (bits .and .u8 r.a m) r.p).1, p := (lsr (bits .and .u8 r.a m) r.p).2 } : Regs).val) := by
  obtain ⟨a, x, y, s, p, pc⟩ := r
  have HM := Lib.hid hm
  have HA := Lib.hid hr.a
  have HX := Lib.hid hr.x
  have HY := Lib.hid hr.y
  have HS := Lib.hid hr.s
  have HP := Lib.hid hr.p
  have HR := Lib.hid hr
  obtain ⟨ha, hx, hy, hs, hp, hpc⟩ := hr
  dsimp only at HA HX HY HS HP
  unfold Regs.val
  go_enter Try.func24, Try.ntmps24
  go_wp2_with fail
  go_region_with (first | (go_at_call 37; refine (rand_any _ _ _ (by (first | exact HM.out | exact HA.out | exact HX.out | exact HY.out | exact HS.out | exact HP.out | exact byte_bits _ _ _ | exact mod_b _ | (simp [Byte]; done) | (with_reducible assumption))) (by (first | exact HM.out | exact HA.out | exact HX.out | exact HY.out | exact HS.out | exact HP.out | exact byte_bits _ _ _ | exact mod_b _ | (simp [Byte]; done) | (with_reducible assumption)))).mono ?_; rintro _ _ ⟨rfl, rfl⟩; (try unfold Regs.val); simp only []) | (go_at_call 31; refine (rlsr_any _ _ p (by (first | exact HM.out | exact HA.out | exact HX.out | exact HY.out | exact HS.out | exact HP.out | exact byte_bits _ _ _ | exact mod_b _ | (simp [Byte]; done) | (with_reducible assumption))) HP.out).mono ?_; rintro _ _ ⟨rfl, rfl⟩; (try unfold Regs.val); simp only []))
  all_goals (go_wp2_with fail)
  all_goals (
    go_returns
    exact ⟨_, rfl, rfl, by repeat (first | with_reducible exact Kept.refl _ _ | with_reducible assumption | with_reducible apply Kept.alloc | with_reducible apply Kept.drew | with_reducible apply Kept.drewN | (with_reducible refine Kept.setCell ?_ (Or.inr (by simp <;> omega)) _))⟩)

end Go.Proofs.Ytmiihcaccejklaa
