/- PROVED: the contract of keepsakeref15.Modifies, name by name, three names. No conditions beyond those that each theorem states. -/
import Derived.Test.YtmiihcaccejklaaRef15a
import Derived.Test.YtmiihcaccejklaaRef13c
import Derived.Test.YtmiihcaccejklaaRef13f
import Derived.Test.YtmiihcaccejklaaRef15c
namespace Go.Proofs.Ytmiihcaccejklaa
open Go.RowKit Go.Proofs.YtmiihcaccejklaaLib
set_option linter.unusedSimpArgs false
set_option linter.unusedVariables false

set_option maxRecDepth 100000 in
set_option maxHeartbeats 2000000 in
theorem rmodifies_SLO (w : World) (n : ByteArray) (r : Regs) (m : Int) (hr : r.Ok) (hm : Byte m) (q0 : (n.toList == [65, 83, 76]) = false) (q1 : (n.toList == [76, 83, 82]) = false) (q2 : (n.toList == [82, 79, 76]) = false) (q3 : (n.toList == [82, 79, 82]) = false) (q4 : (n.toList == [73, 78, 67]) = false) (q5 : (n.toList == [68, 69, 67]) = false) (q6 : (n.toList == [83, 76, 79]) = true) :
    Calls Try.prog 15 #[.string n, r.val, .int .u8 m] w (Post w [] fun v W => v = .tuple #[(({ r with a := bits .or .u8 r.a (asl m r.p).1, p := nzM (asl m r.p).2 (bits .or .u8 r.a (asl m r.p).1) }, (asl m r.p).1) : Regs × Int).1.val, .int .u8 (({ r with a := bits .or .u8 r.a (asl m r.p).1, p := nzM (asl m r.p).2 (bits .or .u8 r.a (asl m r.p).1) }, (asl m r.p).1) : Regs × Int).2]) := by
  obtain ⟨a, x, y, s, p, pc⟩ := r
  have HM := Lib.hid hm
  have HA := Lib.hid hr.a
  have HX := Lib.hid hr.x
  have HY := Lib.hid hr.y
  have HS := Lib.hid hr.s
  have HP := Lib.hid hr.p
  have HR := Lib.hid hr
  obtain ⟨ha, hx, hy, hs, hp, hpc⟩ := hr
  dsimp only at HA HX HY HS HP
  unfold Regs.val
  obtain ⟨m0, m1⟩ := HM.out
  go_enter Try.func15, Try.ntmps15
  go_wp2_with fail
  have HF := Lib.hid (shift_b HM.out HP.out)
  refine (rasl_any _ m p HM.out HP.out).mono ?_
  rintro _ _ ⟨rfl, rfl⟩
  (try unfold Regs.val)
  go_wp2_with fail
  go_region_with (first | (go_at_call 36; refine (refor_any _ _ _ (by (first | exact HM.out | exact HA.out | exact HX.out | exact HY.out | exact HS.out | exact HP.out | exact byte_bits _ _ _ | exact mod_b _ | (simp [Byte]; done) | (with_reducible assumption) | exact HF.out.1.1 | exact HF.out.2.1.1 | exact HF.out.2.2.1.1 | exact HF.out.2.2.2.1)) (by (first | exact HM.out | exact HA.out | exact HX.out | exact HY.out | exact HS.out | exact HP.out | exact byte_bits _ _ _ | exact mod_b _ | (simp [Byte]; done) | (with_reducible assumption) | exact HF.out.1.1 | exact HF.out.2.1.1 | exact HF.out.2.2.1.1 | exact HF.out.2.2.2.1))).mono ?_; rintro _ _ ⟨rfl, rfl⟩; (try unfold Regs.val); simp only []) | (go_at_call 35; refine (rsetA_x _ ⟨a, x, y, s, (asl m p).2, pc⟩ _ (ok_mk ha hx hy hs HF.out.1.2 hpc) (by (first | exact HM.out | exact HA.out | exact HX.out | exact HY.out | exact HS.out | exact HP.out | exact byte_bits _ _ _ | exact mod_b _ | (simp [Byte]; done) | (with_reducible assumption) | exact HF.out.1.1 | exact HF.out.2.1.1 | exact HF.out.2.2.1.1 | exact HF.out.2.2.2.1))).mono ?_; rintro _ _ ⟨rfl, rfl⟩; (try unfold Regs.val); simp only []))
  all_goals (go_wp2_with fail)
  all_goals (
    go_returns
    exact ⟨_, rfl, rfl, by repeat (first | with_reducible exact Kept.refl _ _ | with_reducible assumption | with_reducible apply Kept.alloc | with_reducible apply Kept.drew | with_reducible apply Kept.drewN | (with_reducible refine Kept.setCell ?_ (Or.inr (by simp <;> omega)) _))⟩)

set_option maxRecDepth 100000 in
set_option maxHeartbeats 2000000 in
theorem rmodifies_RLA (w : World) (n : ByteArray) (r : Regs) (m : Int) (hr : r.Ok) (hm : Byte m) (q0 : (n.toList == [65, 83, 76]) = false) (q1 : (n.toList == [76, 83, 82]) = false) (q2 : (n.toList == [82, 79, 76]) = false) (q3 : (n.toList == [82, 79, 82]) = false) (q4 : (n.toList == [73, 78, 67]) = false) (q5 : (n.toList == [68, 69, 67]) = false) (q6 : (n.toList == [83, 76, 79]) = false) (q7 : (n.toList == [82, 76, 65]) = true) :
    Calls Try.prog 15 #[.string n, r.val, .int .u8 m] w (Post w [] fun v W => v = .tuple #[(({ r with a := bits .and .u8 r.a (rol m r.p).1, p := nzM (rol m r.p).2 (bits .and .u8 r.a (rol m r.p).1) }, (rol m r.p).1) : Regs × Int).1.val, .int .u8 (({ r with a := bits .and .u8 r.a (rol m r.p).1, p := nzM (rol m r.p).2 (bits .and .u8 r.a (rol m r.p).1) }, (rol m r.p).1) : Regs × Int).2]) := by
  obtain ⟨a, x, y, s, p, pc⟩ := r
  have HM := Lib.hid hm
  have HA := Lib.hid hr.a
  have HX := Lib.hid hr.x
  have HY := Lib.hid hr.y
  have HS := Lib.hid hr.s
  have HP := Lib.hid hr.p
  have HR := Lib.hid hr
  obtain ⟨ha, hx, hy, hs, hp, hpc⟩ := hr
  dsimp only at HA HX HY HS HP
  unfold Regs.val
  obtain ⟨m0, m1⟩ := HM.out
  go_enter Try.func15, Try.ntmps15
  go_wp2_with fail
  have HF := Lib.hid (shift_b HM.out HP.out)
  refine (rrol_any _ m p HM.out HP.out).mono ?_
  rintro _ _ ⟨rfl, rfl⟩
  (try unfold Regs.val)
  go_wp2_with fail
  go_region_with (first | (go_at_call 37; refine (rand_any _ _ _ (by (first | exact HM.out | exact HA.out | exact HX.out | exact HY.out | exact HS.out | exact HP.out | exact byte_bits _ _ _ | exact mod_b _ | (simp [Byte]; done) | (with_reducible assumption) | exact HF.out.1.1 | exact HF.out.2.1.1 | exact HF.out.2.2.1.1 | exact HF.out.2.2.2.1)) (by (first | exact HM.out | exact HA.out | exact HX.out | exact HY.out | exact HS.out | exact HP.out | exact byte_bits _ _ _ | exact mod_b _ | (simp [Byte]; done) | (with_reducible assumption) | exact HF.out.1.1 | exact HF.out.2.1.1 | exact HF.out.2.2.1.1 | exact HF.out.2.2.2.1))).mono ?_; rintro _ _ ⟨rfl, rfl⟩; (try unfold Regs.val); simp only []) | (go_at_call 35; refine (rsetA_x _ ⟨a, x, y, s, (rol m p).2, pc⟩ _ (ok_mk ha hx hy hs HF.out.2.2.1.2 hpc) (by (first | exact HM.out | exact HA.out | exact HX.out | exact HY.out | exact HS.out | exact HP.out | exact byte_bits _ _ _ | exact mod_b _ | (simp [Byte]; done) | (with_reducible assumption) | exact HF.out.1.1 | exact HF.out.2.1.1 | exact HF.out.2.2.1.1 | exact HF.out.2.2.2.1))).mono ?_; rintro _ _ ⟨rfl, rfl⟩; (try unfold Regs.val); simp only []))
  all_goals (go_wp2_with fail)
  all_goals (
    go_returns
    exact ⟨_, rfl, rfl, by repeat (first | with_reducible exact Kept.refl _ _ | with_reducible assumption | with_reducible apply Kept.alloc | with_reducible apply Kept.drew | with_reducible apply Kept.drewN | (with_reducible refine Kept.setCell ?_ (Or.inr (by simp <;> omega)) _))⟩)

set_option maxRecDepth 100000 in
set_option maxHeartbeats 2000000 in
theorem rmodifies_SRE (w : World) (n : ByteArray) (r : Regs) (m : Int) (hr : r.Ok) (hm : Byte m) (q0 : (n.toList == [65, 83, 76]) = false) (q1 : (n.toList == [76, 83, 82]) = false) (q2 : (n.toList == [82, 79, 76]) = false) (q3 : (n.toList == [82, 79, 82]) = false) (q4 : (n.toList == [73, 78, 67]) = false) (q5 : (n.toList == [68, 69, 67]) = false) (q6 : (n.toList == [83, 76, 79]) = false) (q7 : (n.toList == [82, 76, 65]) = false) (q8 : (n.toList == [83, 82, 69]) = true) :
    Calls Try.prog 15 #[.string n, r.val, .int .u8 m] w (Post w [] fun v W => v = .tuple #[(({ r with a := bits .xor .u8 r.a (lsr m r.p).1, p := nzM (lsr m r.p).2 (bits .xor .u8 r.a (lsr m r.p).1) }, (lsr m r.p).1) : Regs × Int).1.val, .int .u8 (({ r with a := bits .xor .u8 r.a (lsr m r.p).1, p := nzM (lsr m r.p).2 (bits .xor .u8 r.a (lsr m r.p).1) }, (lsr m r.p).1) : Regs × Int).2]) := by
  obtain ⟨a, x, y, s, p, pc⟩ := r
  have HM := Lib.hid hm
  have HA := Lib.hid hr.a
  have HX := Lib.hid hr.x
  have HY := Lib.hid hr.y
  have HS := Lib.hid hr.s
  have HP := Lib.hid hr.p
  have HR := Lib.hid hr
  obtain ⟨ha, hx, hy, hs, hp, hpc⟩ := hr
  dsimp only at HA HX HY HS HP
  unfold Regs.val
  obtain ⟨m0, m1⟩ := HM.out
  go_enter Try.func15, Try.ntmps15
  go_wp2_with fail
  have HF := Lib.hid (shift_b HM.out HP.out)
  refine (rlsr_any _ m p HM.out HP.out).mono ?_
  rintro _ _ ⟨rfl, rfl⟩
  (try unfold Regs.val)
  go_wp2_with fail
  go_region_with (first | (go_at_call 38; refine (refxor_any _ _ _ (by (first | exact HM.out | exact HA.out | exact HX.out | exact HY.out | exact HS.out | exact HP.out | exact byte_bits _ _ _ | exact mod_b _ | (simp [Byte]; done) | (with_reducible assumption) | exact HF.out.1.1 | exact HF.out.2.1.1 | exact HF.out.2.2.1.1 | exact HF.out.2.2.2.1)) (by (first | exact HM.out | exact HA.out | exact HX.out | exact HY.out | exact HS.out | exact HP.out | exact byte_bits _ _ _ | exact mod_b _ | (simp [Byte]; done) | (with_reducible assumption) | exact HF.out.1.1 | exact HF.out.2.1.1 | exact HF.out.2.2.1.1 | exact HF.out.2.2.2.1))).mono ?_; rintro _ _ ⟨rfl, rfl⟩; (try unfold Regs.val); simp only []) | (go_at_call 35; refine (rsetA_x _ ⟨a, x, y, s, (lsr m p).2, pc⟩ _ (ok_mk ha hx hy hs HF.out.2.1.2 hpc) (by (first | exact HM.out | exact HA.out | exact HX.out | exact HY.out | exact HS.out | exact HP.out | exact byte_bits _ _ _ | exact mod_b _ | (simp [Byte]; done) | (with_reducible assumption) | exact HF.out.1.1 | exact HF.out.2.1.1 | exact HF.out.2.2.1.1 | exact HF.out.2.2.2.1))).mono ?_; rintro _ _ ⟨rfl, rfl⟩; (try unfold Regs.val); simp only []))
  all_goals (go_wp2_with fail)
  all_goals (
    go_returns
    exact ⟨_, rfl, rfl, by repeat (first | with_reducible exact Kept.refl _ _ | with_reducible assumption | with_reducible apply Kept.alloc | with_reducible apply Kept.drew | with_reducible apply Kept.drewN | (with_reducible refine Kept.setCell ?_ (Or.inr (by simp <;> omega)) _))⟩)

end Go.Proofs.Ytmiihcaccejklaa
