/- PROVED: the contract of keepsakeref15.Modifies, name by name, most names. No conditions beyond those that each theorem states. -/
import Derived.Test.YtmiihcaccejklaaRef15a
import Derived.Test.YtmiihcaccejklaaRef13c
import Derived.Test.YtmiihcaccejklaaRef13f
import Derived.Test.YtmiihcaccejklaaRef15c
namespace Go.Proofs.Ytmiihcaccejklaa
open Go.RowKit Go.Proofs.YtmiihcaccejklaaLib
set_option linter.unusedSimpArgs false
set_option linter.unusedVariables false

set_option maxRecDepth 100000 in
set_option maxHeartbeats 2000000 in
theorem rmodifies_ASL (w : World) (n : ByteArray) (r : Regs) (m : Int) (hr : r.Ok) (hm : Byte m) (q0 : (n.toList == [65, 83, 76]) = true) :
    Calls Try.prog 15 #[.string n, r.val, .int .u8 m] w (Post w [] fun v W => v = .tuple #[(({ r with p := (asl m r.p).2 }, (asl m r.p).1) : Regs × Int).1.val, .int .u8 (({ r with p := (asl m r.p).2 }, (asl m r.p).1) : Regs × Int).2]) := by
  obtain ⟨a, x, y, s, p, pc⟩ := r
  have HM := Lib.hid hm
  have HA := Lib.hid hr.a
  have HX := Lib.hid hr.x
  have HY := Lib.hid hr.y
  have HS := Lib.hid hr.s
  have HP := Lib.hid hr.p
  have HR := Lib.hid hr
  obtain ⟨ha, hx, hy, hs, hp, hpc⟩ := hr
  dsimp only at HA HX HY HS HP
  unfold Regs.val
  obtain ⟨m0, m1⟩ := HM.out
  go_enter Try.func15, Try.ntmps15
  go_wp2_with fail
  have HF := Lib.hid (shift_b HM.out HP.out)
  refine (rasl_any _ m p HM.out HP.out).mono ?_
  rintro _ _ ⟨rfl, rfl⟩
  (try unfold Regs.val)
  go_wp2_with fail
  all_goals (
    go_returns
    exact ⟨_, rfl, rfl, by repeat (first | with_reducible exact Kept.refl _ _ | with_reducible assumption | with_reducible apply Kept.alloc | with_reducible apply Kept.drew | with_reducible apply Kept.drewN | (with_reducible refine Kept.setCell ?_ (Or.inr (by simp <;> omega)) _))⟩)

set_option maxRecDepth 100000 in
set_option maxHeartbeats 2000000 in
theorem rmodifies_LSR (w : World) (n : ByteArray) (r : Regs) (m : Int) (hr : r.Ok) (hm : Byte m) (q0 : (n.toList == [65, 83, 76]) = false) (q1 : (n.toList == [76, 83, 82]) = true) :
    Calls Try.prog 15 #[.string n, r.val, .int .u8 m] w (Post w [] fun v W => v = .tuple #[(({ r with p := (lsr m r.p).2 }, (lsr m r.p).1) : Regs × Int).1.val, .int .u8 (({ r with p := (lsr m r.p).2 }, (lsr m r.p).1) : Regs × Int).2]) := by
  obtain ⟨a, x, y, s, p, pc⟩ := r
  have HM := Lib.hid hm
  have HA := Lib.hid hr.a
  have HX := Lib.hid hr.x
  have HY := Lib.hid hr.y
  have HS := Lib.hid hr.s
  have HP := Lib.hid hr.p
  have HR := Lib.hid hr
  obtain ⟨ha, hx, hy, hs, hp, hpc⟩ := hr
  dsimp only at HA HX HY HS HP
  unfold Regs.val
  obtain ⟨m0, m1⟩ := HM.out
  go_enter Try.func15, Try.ntmps15
  go_wp2_with fail
  have HF := Lib.hid (shift_b HM.out HP.out)
  refine (rlsr_any _ m p HM.out HP.out).mono ?_
  rintro _ _ ⟨rfl, rfl⟩
  (try unfold Regs.val)
  go_wp2_with fail
  all_goals (
    go_returns
    exact ⟨_, rfl, rfl, by repeat (first | with_reducible exact Kept.refl _ _ | with_reducible assumption | with_reducible apply Kept.alloc | with_reducible apply Kept.drew | with_reducible apply Kept.drewN | (with_reducible refine Kept.setCell ?_ (Or.inr (by simp <;> omega)) _))⟩)

set_option maxRecDepth 100000 in
set_option maxHeartbeats 2000000 in
theorem rmodifies_ROL (w : World) (n : ByteArray) (r : Regs) (m : Int) (hr : r.Ok) (hm : Byte m) (q0 : (n.toList == [65, 83, 76]) = false) (q1 : (n.toList == [76, 83, 82]) = false) (q2 : (n.toList == [82, 79, 76]) = true) :
    Calls Try.prog 15 #[.string n, r.val, .int .u8 m] w (Post w [] fun v W => v = .tuple #[(({ r with p := (rol m r.p).2 }, (rol m r.p).1) : Regs × Int).1.val, .int .u8 (({ r with p := (rol m r.p).2 }, (rol m r.p).1) : Regs × Int).2]) := by
  obtain ⟨a, x, y, s, p, pc⟩ := r
  have HM := Lib.hid hm
  have HA := Lib.hid hr.a
  have HX := Lib.hid hr.x
  have HY := Lib.hid hr.y
  have HS := Lib.hid hr.s
  have HP := Lib.hid hr.p
  have HR := Lib.hid hr
  obtain ⟨ha, hx, hy, hs, hp, hpc⟩ := hr
  dsimp only at HA HX HY HS HP
  unfold Regs.val
  obtain ⟨m0, m1⟩ := HM.out
  go_enter Try.func15, Try.ntmps15
  go_wp2_with fail
  have HF := Lib.hid (shift_b HM.out HP.out)
  refine (rrol_any _ m p HM.out HP.out).mono ?_
  rintro _ _ ⟨rfl, rfl⟩
  (try unfold Regs.val)
  go_wp2_with fail
  all_goals (
    go_returns
    exact ⟨_, rfl, rfl, by repeat (first | with_reducible exact Kept.refl _ _ | with_reducible assumption | with_reducible apply Kept.alloc | with_reducible apply Kept.drew | with_reducible apply Kept.drewN | (with_reducible refine Kept.setCell ?_ (Or.inr (by simp <;> omega)) _))⟩)

set_option maxRecDepth 100000 in
set_option maxHeartbeats 2000000 in
theorem rmodifies_ROR (w : World) (n : ByteArray) (r : Regs) (m : Int) (hr : r.Ok) (hm : Byte m) (q0 : (n.toList == [65, 83, 76]) = false) (q1 : (n.toList == [76, 83, 82]) = false) (q2 : (n.toList == [82, 79, 76]) = false) (q3 : (n.toList == [82, 79, 82]) = true) :
    Calls Try.prog 15 #[.string n, r.val, .int .u8 m] w (Post w [] fun v W => v = .tuple #[(({ r with p := (ror m r.p).2 }, (ror m r.p).1) : Regs × Int).1.val, .int .u8 (({ r with p := (ror m r.p).2 }, (ror m r.p).1) : Regs × Int).2]) := by
  obtain ⟨a, x, y, s, p, pc⟩ := r
  have HM := Lib.hid hm
  have HA := Lib.hid hr.a
  have HX := Lib.hid hr.x
  have HY := Lib.hid hr.y
  have HS := Lib.hid hr.s
  have HP := Lib.hid hr.p
  have HR := Lib.hid hr
  obtain ⟨ha, hx, hy, hs, hp, hpc⟩ := hr
  dsimp only at HA HX HY HS HP
  unfold Regs.val
  obtain ⟨m0, m1⟩ := HM.out
  go_enter Try.func15, Try.ntmps15
  go_wp2_with fail
  have HF := Lib.hid (shift_b HM.out HP.out)
  refine (rror_any _ m p HM.out HP.out).mono ?_
  rintro _ _ ⟨rfl, rfl⟩
  (try unfold Regs.val)
  go_wp2_with fail
  all_goals (
    go_returns
    exact ⟨_, rfl, rfl, by repeat (first | with_reducible exact Kept.refl _ _ | with_reducible assumption | with_reducible apply Kept.alloc | with_reducible apply Kept.drew | with_reducible apply Kept.drewN | (with_reducible refine Kept.setCell ?_ (Or.inr (by simp <;> omega)) _))⟩)

set_option maxRecDepth 100000 in
set_option maxHeartbeats 2000000 in
theorem rmodifies_INC (w : World) (n : ByteArray) (r : Regs) (m : Int) (hr : r.Ok) (hm : Byte m) (q0 : (n.toList == [65, 83, 76]) = false) (q1 : (n.toList == [76, 83, 82]) = false) (q2 : (n.toList == [82, 79, 76]) = false) (q3 : (n.toList == [82, 79, 82]) = false) (q4 : (n.toList == [73, 78, 67]) = true) :
    Calls Try.prog 15 #[.string n, r.val, .int .u8 m] w (Post w [] fun v W => v = .tuple #[(({ r with p := nzM r.p ((m + 1) % 256) }, (m + 1) % 256) : Regs × Int).1.val, .int .u8 (({ r with p := nzM r.p ((m + 1) % 256) }, (m + 1) % 256) : Regs × Int).2]) := by
  obtain ⟨a, x, y, s, p, pc⟩ := r
  have HM := Lib.hid hm
  have HA := Lib.hid hr.a
  have HX := Lib.hid hr.x
  have HY := Lib.hid hr.y
  have HS := Lib.hid hr.s
  have HP := Lib.hid hr.p
  have HR := Lib.hid hr
  obtain ⟨ha, hx, hy, hs, hp, hpc⟩ := hr
  dsimp only at HA HX HY HS HP
  unfold Regs.val
  obtain ⟨m0, m1⟩ := HM.out
  go_enter Try.func15, Try.ntmps15
  go_wp2_with fail
  refine (rnz_any _ p _ HP.out (mod_b _)).mono ?_
  rintro _ _ ⟨rfl, rfl⟩
  (try unfold Regs.val)
  go_wp2_with fail
  all_goals (
    go_returns
    exact ⟨_, rfl, rfl, by repeat (first | with_reducible exact Kept.refl _ _ | with_reducible assumption | with_reducible apply Kept.alloc | with_reducible apply Kept.drew | with_reducible apply Kept.drewN | (with_reducible refine Kept.setCell ?_ (Or.inr (by simp <;> omega)) _))⟩)

set_option maxRecDepth 100000 in
set_option maxHeartbeats 2000000 in
theorem rmodifies_DEC (w : World) (n : ByteArray) (r : Regs) (m : Int) (hr : r.Ok) (hm : Byte m) (q0 : (n.toList == [65, 83, 76]) = false) (q1 : (n.toList == [76, 83, 82]) = false) (q2 : (n.toList == [82, 79, 76]) = false) (q3 : (n.toList == [82, 79, 82]) = false) (q4 : (n.toList == [73, 78, 67]) = false) (q5 : (n.toList == [68, 69, 67]) = true) :
    Calls Try.prog 15 #[.string n, r.val, .int .u8 m] w (Post w [] fun v W => v = .tuple #[(({ r with p := nzM r.p ((m + 255) % 256) }, (m + 255) % 256) : Regs × Int).1.val, .int .u8 (({ r with p := nzM r.p ((m + 255) % 256) }, (m + 255) % 256) : Regs × Int).2]) := by
  obtain ⟨a, x, y, s, p, pc⟩ := r
  have HM := Lib.hid hm
  have HA := Lib.hid hr.a
  have HX := Lib.hid hr.x
  have HY := Lib.hid hr.y
  have HS := Lib.hid hr.s
  have HP := Lib.hid hr.p
  have HR := Lib.hid hr
  obtain ⟨ha, hx, hy, hs, hp, hpc⟩ := hr
  dsimp only at HA HX HY HS HP
  unfold Regs.val
  obtain ⟨m0, m1⟩ := HM.out
  go_enter Try.func15, Try.ntmps15
  go_wp2_with fail
  refine (rnz_any _ p _ HP.out (mod_b _)).mono ?_
  rintro _ _ ⟨rfl, rfl⟩
  (try unfold Regs.val)
  go_wp2_with fail
  all_goals (
    go_returns
    exact ⟨_, rfl, rfl, by repeat (first | with_reducible exact Kept.refl _ _ | with_reducible assumption | with_reducible apply Kept.alloc | with_reducible apply Kept.drew | with_reducible apply Kept.drewN | (with_reducible refine Kept.setCell ?_ (Or.inr (by simp <;> omega)) _))⟩)

set_option maxRecDepth 100000 in
set_option maxHeartbeats 2000000 in
theorem rmodifies_RRA (w : World) (n : ByteArray) (r : Regs) (m : Int) (hr : r.Ok) (hm : Byte m) (q0 : (n.toList == [65, 83, 76]) = false) (q1 : (n.toList == [76, 83, 82]) = false) (q2 : (n.toList == [82, 79, 76]) = false) (q3 : (n.toList == [82, 79, 82]) = false) (q4 : (n.toList == [73, 78, 67]) = false) (q5 : (n.toList == [68, 69, 67]) = false) (q6 : (n.toList == [83, 76, 79]) = false) (q7 : (n.toList == [82, 76, 65]) = false) (q8 : (n.toList == [83, 82, 69]) = false) (q9 : (n.toList == [82, 82, 65]) = true) :
    Calls Try.prog 15 #[.string n, r.val, .int .u8 m] w (Post w [] fun v W => v = .tuple #[(({ r with a := (adcM r.a (ror m r.p).1 (ror m r.p).2).1, p := (adcM r.a (ror m r.p).1 (ror m r.p).2).2 }, (ror m r.p).1) : Regs × Int).1.val, .int .u8 (({ r with a := (adcM r.a (ror m r.p).1 (ror m r.p).2).1, p := (adcM r.a (ror m r.p).1 (ror m r.p).2).2 }, (ror m r.p).1) : Regs × Int).2]) := by
  obtain ⟨a, x, y, s, p, pc⟩ := r
  have HM := Lib.hid hm
  have HA := Lib.hid hr.a
  have HX := Lib.hid hr.x
  have HY := Lib.hid hr.y
  have HS := Lib.hid hr.s
  have HP := Lib.hid hr.p
  have HR := Lib.hid hr
  obtain ⟨ha, hx, hy, hs, hp, hpc⟩ := hr
  dsimp only at HA HX HY HS HP
  unfold Regs.val
  obtain ⟨m0, m1⟩ := HM.out
  go_enter Try.func15, Try.ntmps15
  go_wp2_with fail
  have HF := Lib.hid (shift_b HM.out HP.out)
  refine (rror_any _ m p HM.out HP.out).mono ?_
  rintro _ _ ⟨rfl, rfl⟩
  (try unfold Regs.val)
  go_wp2_with fail
  refine (radc_any _ a _ _ HA.out HF.out.2.2.2.1 HF.out.2.2.2.2).mono ?_
  rintro _ _ ⟨rfl, rfl⟩
  (try unfold Regs.val)
  go_wp2_with fail
  all_goals (
    go_returns
    exact ⟨_, rfl, rfl, by repeat (first | with_reducible exact Kept.refl _ _ | with_reducible assumption | with_reducible apply Kept.alloc | with_reducible apply Kept.drew | with_reducible apply Kept.drewN | (with_reducible refine Kept.setCell ?_ (Or.inr (by simp <;> omega)) _))⟩)

set_option maxRecDepth 100000 in
set_option maxHeartbeats 2000000 in
theorem rmodifies_DCP (w : World) (n : ByteArray) (r : Regs) (m : Int) (hr : r.Ok) (hm : Byte m) (q0 : (n.toList == [65, 83, 76]) = false) (q1 : (n.toList == [76, 83, 82]) = false) (q2 : (n.toList == [82, 79, 76]) = false) (q3 : (n.toList == [82, 79, 82]) = false) (q4 : (n.toList == [73, 78, 67]) = false) (q5 : (n.toList == [68, 69, 67]) = false) (q6 : (n.toList == [83, 76, 79]) = false) (q7 : (n.toList == [82, 76, 65]) = false) (q8 : (n.toList == [83, 82, 69]) = false) (q9 : (n.toList == [82, 82, 65]) = false) (q10 : (n.toList == [68, 67, 80]) = true) :
    Calls Try.prog 15 #[.string n, r.val, .int .u8 m] w (Post w [] fun v W => v = .tuple #[(({ r with p := cmpM r.a ((m + 255) % 256) r.p }, (m + 255) % 256) : Regs × Int).1.val, .int .u8 (({ r with p := cmpM r.a ((m + 255) % 256) r.p }, (m + 255) % 256) : Regs × Int).2]) := by
  obtain ⟨a, x, y, s, p, pc⟩ := r
  have HM := Lib.hid hm
  have HA := Lib.hid hr.a
  have HX := Lib.hid hr.x
  have HY := Lib.hid hr.y
  have HS := Lib.hid hr.s
  have HP := Lib.hid hr.p
  have HR := Lib.hid hr
  obtain ⟨ha, hx, hy, hs, hp, hpc⟩ := hr
  dsimp only at HA HX HY HS HP
  unfold Regs.val
  obtain ⟨m0, m1⟩ := HM.out
  go_enter Try.func15, Try.ntmps15
  go_wp2_with fail
  refine (rcmp_any _ a _ p HA.out (mod_b _) HP.out).mono ?_
  rintro _ _ ⟨rfl, rfl⟩
  (try unfold Regs.val)
  go_wp2_with fail
  all_goals (
    go_returns
    exact ⟨_, rfl, rfl, by repeat (first | with_reducible exact Kept.refl _ _ | with_reducible assumption | with_reducible apply Kept.alloc | with_reducible apply Kept.drew | with_reducible apply Kept.drewN | (with_reducible refine Kept.setCell ?_ (Or.inr (by simp <;> omega)) _))⟩)

set_option maxRecDepth 100000 in
set_option maxHeartbeats 2000000 in
theorem rmodifies_ISC (w : World) (n : ByteArray) (r : Regs) (m : Int) (hr : r.Ok) (hm : Byte m) (q0 : (n.toList == [65, 83, 76]) = false) (q1 : (n.toList == [76, 83, 82]) = false) (q2 : (n.toList == [82, 79, 76]) = false) (q3 : (n.toList == [82, 79, 82]) = false) (q4 : (n.toList == [73, 78, 67]) = false) (q5 : (n.toList == [68, 69, 67]) = false) (q6 : (n.toList == [83, 76, 79]) = false) (q7 : (n.toList == [82, 76, 65]) = false) (q8 : (n.toList == [83, 82, 69]) = false) (q9 : (n.toList == [82, 82, 65]) = false) (q10 : (n.toList == [68, 67, 80]) = false) (q11 : (n.toList == [73, 83, 67]) = true) :
    Calls Try.prog 15 #[.string n, r.val, .int .u8 m] w (Post w [] fun v W => v = .tuple #[(({ r with a := (sbcM r.a ((m + 1) % 256) r.p).1, p := (sbcM r.a ((m + 1) % 256) r.p).2 }, (m + 1) % 256) : Regs × Int).1.val, .int .u8 (({ r with a := (sbcM r.a ((m + 1) % 256) r.p).1, p := (sbcM r.a ((m + 1) % 256) r.p).2 }, (m + 1) % 256) : Regs × Int).2]) := by
  obtain ⟨a, x, y, s, p, pc⟩ := r
  have HM := Lib.hid hm
  have HA := Lib.hid hr.a
  have HX := Lib.hid hr.x
  have HY := Lib.hid hr.y
  have HS := Lib.hid hr.s
  have HP := Lib.hid hr.p
  have HR := Lib.hid hr
  obtain ⟨ha, hx, hy, hs, hp, hpc⟩ := hr
  dsimp only at HA HX HY HS HP
  unfold Regs.val
  obtain ⟨m0, m1⟩ := HM.out
  go_enter Try.func15, Try.ntmps15
  go_wp2_with fail
  refine (rsbc_any _ a _ p HA.out (mod_b _) HP.out).mono ?_
  rintro _ _ ⟨rfl, rfl⟩
  (try unfold Regs.val)
  go_wp2_with fail
  all_goals (
    go_returns
    exact ⟨_, rfl, rfl, by repeat (first | with_reducible exact Kept.refl _ _ | with_reducible assumption | with_reducible apply Kept.alloc | with_reducible apply Kept.drew | with_reducible apply Kept.drewN | (with_reducible refine Kept.setCell ?_ (Or.inr (by simp <;> omega)) _))⟩)

set_option maxRecDepth 100000 in
set_option maxHeartbeats 2000000 in
theorem rmodifies_other (w : World) (n : ByteArray) (r : Regs) (m : Int) (hr : r.Ok) (hm : Byte m) (q0 : (n.toList == [65, 83, 76]) = false) (q1 : (n.toList == [76, 83, 82]) = false) (q2 : (n.toList == [82, 79, 76]) = false) (q3 : (n.toList == [82, 79, 82]) = false) (q4 : (n.toList == [73, 78, 67]) = false) (q5 : (n.toList == [68, 69, 67]) = false) (q6 : (n.toList == [83, 76, 79]) = false) (q7 : (n.toList == [82, 76, 65]) = false) (q8 : (n.toList == [83, 82, 69]) = false) (q9 : (n.toList == [82, 82, 65]) = false) (q10 : (n.toList == [68, 67, 80]) = false) (q11 : (n.toList == [73, 83, 67]) = false) :
    Calls Try.prog 15 #[.string n, r.val, .int .u8 m] w (Post w [] fun v W => v = .tuple #[((r, m) : Regs × Int).1.val, .int .u8 ((r, m) : Regs × Int).2]) := by
  obtain ⟨a, x, y, s, p, pc⟩ := r
  have HM := Lib.hid hm
  have HA := Lib.hid hr.a
  have HX := Lib.hid hr.x
  have HY := Lib.hid hr.y
  have HS := Lib.hid hr.s
  have HP := Lib.hid hr.p
  have HR := Lib.hid hr
  obtain ⟨ha, hx, hy, hs, hp, hpc⟩ := hr
  dsimp only at HA HX HY HS HP
  unfold Regs.val
  obtain ⟨m0, m1⟩ := HM.out
  go_enter Try.func15, Try.ntmps15
  go_wp2_with fail
  all_goals (
    go_returns
    exact ⟨_, rfl, rfl, by repeat (first | with_reducible exact Kept.refl _ _ | with_reducible assumption | with_reducible apply Kept.alloc | with_reducible apply Kept.drew | with_reducible apply Kept.drewN | (with_reducible refine Kept.setCell ?_ (Or.inr (by simp <;> omega)) _))⟩)

end Go.Proofs.Ytmiihcaccejklaa
