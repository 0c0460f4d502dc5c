/- PROVED: the contract of keepsakeref15.Inner. No conditions beyond those that each theorem states. -/
import Derived.Test.YtmiihcaccejklaaRef15a
import Derived.Test.YtmiihcaccejklaaRef13c
import Derived.Test.YtmiihcaccejklaaRef13f
import Derived.Test.YtmiihcaccejklaaRef15c
import Derived.Test.YtmiihcaccejklaaEffI
namespace Go.Proofs.Ytmiihcaccejklaa
open Go.RowKit Go.Proofs.YtmiihcaccejklaaLib
set_option linter.unusedSimpArgs false
set_option linter.unusedVariables false

set_option maxRecDepth 100000 in
set_option maxHeartbeats 2000000 in
theorem rinner_CLC (w : World) (n : ByteArray) (r : Regs) (hr : r.Ok) (q0 : (n.toList == [67, 76, 67]) = true) :
    Calls Try.prog 26 #[.string n, r.val] w (Post w [] fun v W => v = ({ r with p := setF r.p 1 false } : Regs).val) := by
  obtain ⟨a, x, y, s, p, pc⟩ := r
  have HA := Lib.hid hr.a
  have HX := Lib.hid hr.x
  have HY := Lib.hid hr.y
  have HS := Lib.hid hr.s
  have HP := Lib.hid hr.p
  have HR := Lib.hid hr
  obtain ⟨ha, hx, hy, hs, hp, hpc⟩ := hr
  dsimp only at HA HX HY HS HP
  unfold Regs.val
  obtain ⟨x0, x1⟩ := HX.out
  obtain ⟨y0, y1⟩ := HY.out
  go_enter Try.func26, Try.ntmps26
  go_wp2_with fail
  refine (rset_any _ p 1 false HP.out (by simp [IsFlag])).mono ?_
  rintro _ _ ⟨rfl, rfl⟩
  (try unfold Regs.val)
  go_wp2_with fail
  all_goals (
    go_returns
    exact ⟨_, rfl, rfl, by repeat (first | with_reducible exact Kept.refl _ _ | with_reducible assumption | with_reducible apply Kept.alloc | with_reducible apply Kept.drew | with_reducible apply Kept.drewN | (with_reducible refine Kept.setCell ?_ (Or.inr (by simp <;> omega)) _))⟩)

set_option maxRecDepth 100000 in
set_option maxHeartbeats 2000000 in
theorem rinner_CLD (w : World) (n : ByteArray) (r : Regs) (hr : r.Ok) (q0 : (n.toList == [67, 76, 67]) = false) (q1 : (n.toList == [67, 76, 68]) = true) :
    Calls Try.prog 26 #[.string n, r.val] w (Post w [] fun v W => v = ({ r with p := setF r.p 8 false } : Regs).val) := by
  obtain ⟨a, x, y, s, p, pc⟩ := r
  have HA := Lib.hid hr.a
  have HX := Lib.hid hr.x
  have HY := Lib.hid hr.y
  have HS := Lib.hid hr.s
  have HP := Lib.hid hr.p
  have HR := Lib.hid hr
  obtain ⟨ha, hx, hy, hs, hp, hpc⟩ := hr
  dsimp only at HA HX HY HS HP
  unfold Regs.val
  obtain ⟨x0, x1⟩ := HX.out
  obtain ⟨y0, y1⟩ := HY.out
  go_enter Try.func26, Try.ntmps26
  go_wp2_with fail
  refine (rset_any _ p 8 false HP.out (by simp [IsFlag])).mono ?_
  rintro _ _ ⟨rfl, rfl⟩
  (try unfold Regs.val)
  go_wp2_with fail
  all_goals (
    go_returns
    exact ⟨_, rfl, rfl, by repeat (first | with_reducible exact Kept.refl _ _ | with_reducible assumption | with_reducible apply Kept.alloc | with_reducible apply Kept.drew | with_reducible apply Kept.drewN | (with_reducible refine Kept.setCell ?_ (Or.inr (by simp <;> omega)) _))⟩)

set_option maxRecDepth 100000 in
set_option maxHeartbeats 2000000 in
theorem rinner_CLI (w : World) (n : ByteArray) (r : Regs) (hr : r.Ok) (q0 : (n.toList == [67, 76, 67]) = false) (q1 : (n.toList == [67, 76, 68]) = false) (q2 : (n.toList == [67, 76, 73]) = true) :
    Calls Try.prog 26 #[.string n, r.val] w (Post w [] fun v W => v = ({ r with p := setF r.p 4 false } : Regs).val) := by
  obtain ⟨a, x, y, s, p, pc⟩ := r
  have HA := Lib.hid hr.a
  have HX := Lib.hid hr.x
  have HY := Lib.hid hr.y
  have HS := Lib.hid hr.s
  have HP := Lib.hid hr.p
  have HR := Lib.hid hr
  obtain ⟨ha, hx, hy, hs, hp, hpc⟩ := hr
  dsimp only at HA HX HY HS HP
  unfold Regs.val
  obtain ⟨x0, x1⟩ := HX.out
  obtain ⟨y0, y1⟩ := HY.out
  go_enter Try.func26, Try.ntmps26
  go_wp2_with fail
  refine (rset_any _ p 4 false HP.out (by simp [IsFlag])).mono ?_
  rintro _ _ ⟨rfl, rfl⟩
  (try unfold Regs.val)
  go_wp2_with fail
  all_goals (
    go_returns
    exact ⟨_, rfl, rfl, by repeat (first | with_reducible exact Kept.refl _ _ | with_reducible assumption | with_reducible apply Kept.alloc | with_reducible apply Kept.drew | with_reducible apply Kept.drewN | (with_reducible refine Kept.setCell ?_ (Or.inr (by simp <;> omega)) _))⟩)

set_option maxRecDepth 100000 in
set_option maxHeartbeats 2000000 in
theorem rinner_CLV (w : World) (n : ByteArray) (r : Regs) (hr : r.Ok) (q0 : (n.toList == [67, 76, 67]) = false) (q1 : (n.toList == [67, 76, 68]) = false) (q2 : (n.toList == [67, 76, 73]) = false) (q3 : (n.toList == [67, 76, 86]) = true) :
    Calls Try.prog 26 #[.string n, r.val] w (Post w [] fun v W => v = ({ r with p := setF r.p 64 false } : Regs).val) := by
  obtain ⟨a, x, y, s, p, pc⟩ := r
  have HA := Lib.hid hr.a
  have HX := Lib.hid hr.x
  have HY := Lib.hid hr.y
  have HS := Lib.hid hr.s
  have HP := Lib.hid hr.p
  have HR := Lib.hid hr
  obtain ⟨ha, hx, hy, hs, hp, hpc⟩ := hr
  dsimp only at HA HX HY HS HP
  unfold Regs.val
  obtain ⟨x0, x1⟩ := HX.out
  obtain ⟨y0, y1⟩ := HY.out
  go_enter Try.func26, Try.ntmps26
  go_wp2_with fail
  refine (rset_any _ p 64 false HP.out (by simp [IsFlag])).mono ?_
  rintro _ _ ⟨rfl, rfl⟩
  (try unfold Regs.val)
  go_wp2_with fail
  all_goals (
    go_returns
    exact ⟨_, rfl, rfl, by repeat (first | with_reducible exact Kept.refl _ _ | with_reducible assumption | with_reducible apply Kept.alloc | with_reducible apply Kept.drew | with_reducible apply Kept.drewN | (with_reducible refine Kept.setCell ?_ (Or.inr (by simp <;> omega)) _))⟩)

set_option maxRecDepth 100000 in
set_option maxHeartbeats 2000000 in
theorem rinner_SEC (w : World) (n : ByteArray) (r : Regs) (hr : r.Ok) (q0 : (n.toList == [67, 76, 67]) = false) (q1 : (n.toList == [67, 76, 68]) = false) (q2 : (n.toList == [67, 76, 73]) = false) (q3 : (n.toList == [67, 76, 86]) = false) (q4 : (n.toList == [83, 69, 67]) = true) :
    Calls Try.prog 26 #[.string n, r.val] w (Post w [] fun v W => v = ({ r with p := setF r.p 1 true } : Regs).val) := by
  obtain ⟨a, x, y, s, p, pc⟩ := r
  have HA := Lib.hid hr.a
  have HX := Lib.hid hr.x
  have HY := Lib.hid hr.y
  have HS := Lib.hid hr.s
  have HP := Lib.hid hr.p
  have HR := Lib.hid hr
  obtain ⟨ha, hx, hy, hs, hp, hpc⟩ := hr
  dsimp only at HA HX HY HS HP
  unfold Regs.val
  obtain ⟨x0, x1⟩ := HX.out
  obtain ⟨y0, y1⟩ := HY.out
  go_enter Try.func26, Try.ntmps26
  go_wp2_with fail
  refine (rset_any _ p 1 true HP.out (by simp [IsFlag])).mono ?_
  rintro _ _ ⟨rfl, rfl⟩
  (try unfold Regs.val)
  go_wp2_with fail
  all_goals (
    go_returns
    exact ⟨_, rfl, rfl, by repeat (first | with_reducible exact Kept.refl _ _ | with_reducible assumption | with_reducible apply Kept.alloc | with_reducible apply Kept.drew | with_reducible apply Kept.drewN | (with_reducible refine Kept.setCell ?_ (Or.inr (by simp <;> omega)) _))⟩)

set_option maxRecDepth 100000 in
set_option maxHeartbeats 2000000 in
theorem rinner_SED (w : World) (n : ByteArray) (r : Regs) (hr : r.Ok) (q0 : (n.toList == [67, 76, 67]) = false) (q1 : (n.toList == [67, 76, 68]) = false) (q2 : (n.toList == [67, 76, 73]) = false) (q3 : (n.toList == [67, 76, 86]) = false) (q4 : (n.toList == [83, 69, 67]) = false) (q5 : (n.toList == [83, 69, 68]) = true) :
    Calls Try.prog 26 #[.string n, r.val] w (Post w [] fun v W => v = ({ r with p := setF r.p 8 true } : Regs).val) := by
  obtain ⟨a, x, y, s, p, pc⟩ := r
  have HA := Lib.hid hr.a
  have HX := Lib.hid hr.x
  have HY := Lib.hid hr.y
  have HS := Lib.hid hr.s
  have HP := Lib.hid hr.p
  have HR := Lib.hid hr
  obtain ⟨ha, hx, hy, hs, hp, hpc⟩ := hr
  dsimp only at HA HX HY HS HP
  unfold Regs.val
  obtain ⟨x0, x1⟩ := HX.out
  obtain ⟨y0, y1⟩ := HY.out
  go_enter Try.func26, Try.ntmps26
  go_wp2_with fail
  refine (rset_any _ p 8 true HP.out (by simp [IsFlag])).mono ?_
  rintro _ _ ⟨rfl, rfl⟩
  (try unfold Regs.val)
  go_wp2_with fail
  all_goals (
    go_returns
    exact ⟨_, rfl, rfl, by repeat (first | with_reducible exact Kept.refl _ _ | with_reducible assumption | with_reducible apply Kept.alloc | with_reducible apply Kept.drew | with_reducible apply Kept.drewN | (with_reducible refine Kept.setCell ?_ (Or.inr (by simp <;> omega)) _))⟩)

set_option maxRecDepth 100000 in
set_option maxHeartbeats 2000000 in
theorem rinner_SEI (w : World) (n : ByteArray) (r : Regs) (hr : r.Ok) (q0 : (n.toList == [67, 76, 67]) = false) (q1 : (n.toList == [67, 76, 68]) = false) (q2 : (n.toList == [67, 76, 73]) = false) (q3 : (n.toList == [67, 76, 86]) = false) (q4 : (n.toList == [83, 69, 67]) = false) (q5 : (n.toList == [83, 69, 68]) = false) (q6 : (n.toList == [83, 69, 73]) = true) :
    Calls Try.prog 26 #[.string n, r.val] w (Post w [] fun v W => v = ({ r with p := setF r.p 4 true } : Regs).val) := by
  obtain ⟨a, x, y, s, p, pc⟩ := r
  have HA := Lib.hid hr.a
  have HX := Lib.hid hr.x
  have HY := Lib.hid hr.y
  have HS := Lib.hid hr.s
  have HP := Lib.hid hr.p
  have HR := Lib.hid hr
  obtain ⟨ha, hx, hy, hs, hp, hpc⟩ := hr
  dsimp only at HA HX HY HS HP
  unfold Regs.val
  obtain ⟨x0, x1⟩ := HX.out
  obtain ⟨y0, y1⟩ := HY.out
  go_enter Try.func26, Try.ntmps26
  go_wp2_with fail
  refine (rset_any _ p 4 true HP.out (by simp [IsFlag])).mono ?_
  rintro _ _ ⟨rfl, rfl⟩
  (try unfold Regs.val)
  go_wp2_with fail
  all_goals (
    go_returns
    exact ⟨_, rfl, rfl, by repeat (first | with_reducible exact Kept.refl _ _ | with_reducible assumption | with_reducible apply Kept.alloc | with_reducible apply Kept.drew | with_reducible apply Kept.drewN | (with_reducible refine Kept.setCell ?_ (Or.inr (by simp <;> omega)) _))⟩)

set_option maxRecDepth 100000 in
set_option maxHeartbeats 2000000 in
theorem rinner_TAX (w : World) (n : ByteArray) (r : Regs) (hr : r.Ok) (q0 : (n.toList == [67, 76, 67]) = false) (q1 : (n.toList == [67, 76, 68]) = false) (q2 : (n.toList == [67, 76, 73]) = false) (q3 : (n.toList == [67, 76, 86]) = false) (q4 : (n.toList == [83, 69, 67]) = false) (q5 : (n.toList == [83, 69, 68]) = false) (q6 : (n.toList == [83, 69, 73]) = false) (q7 : (n.toList == [84, 65, 88]) = true) :
    Calls Try.prog 26 #[.string n, r.val] w (Post w [] fun v W => v = ({ r with x := r.a, p := nzM r.p r.a } : Regs).val) := by
  obtain ⟨a, x, y, s, p, pc⟩ := r
  have HA := Lib.hid hr.a
  have HX := Lib.hid hr.x
  have HY := Lib.hid hr.y
  have HS := Lib.hid hr.s
  have HP := Lib.hid hr.p
  have HR := Lib.hid hr
  obtain ⟨ha, hx, hy, hs, hp, hpc⟩ := hr
  dsimp only at HA HX HY HS HP
  unfold Regs.val
  obtain ⟨x0, x1⟩ := HX.out
  obtain ⟨y0, y1⟩ := HY.out
  go_enter Try.func26, Try.ntmps26
  go_wp2_with fail
  refine (rnz_any _ p (a) HP.out HA.out).mono ?_
  rintro _ _ ⟨rfl, rfl⟩
  (try unfold Regs.val)
  go_wp2_with fail
  all_goals (
    go_returns
    exact ⟨_, rfl, rfl, by repeat (first | with_reducible exact Kept.refl _ _ | with_reducible assumption | with_reducible apply Kept.alloc | with_reducible apply Kept.drew | with_reducible apply Kept.drewN | (with_reducible refine Kept.setCell ?_ (Or.inr (by simp <;> omega)) _))⟩)

set_option maxRecDepth 100000 in
set_option maxHeartbeats 2000000 in
theorem rinner_TAY (w : World) (n : ByteArray) (r : Regs) (hr : r.Ok) (q0 : (n.toList == [67, 76, 67]) = false) (q1 : (n.toList == [67, 76, 68]) = false) (q2 : (n.toList == [67, 76, 73]) = false) (q3 : (n.toList == [67, 76, 86]) = false) (q4 : (n.toList == [83, 69, 67]) = false) (q5 : (n.toList == [83, 69, 68]) = false) (q6 : (n.toList == [83, 69, 73]) = false) (q7 : (n.toList == [84, 65, 88]) = false) (q8 : (n.toList == [84, 65, 89]) = true) :
    Calls Try.prog 26 #[.string n, r.val] w (Post w [] fun v W => v = ({ r with y := r.a, p := nzM r.p r.a } : Regs).val) := by
  obtain ⟨a, x, y, s, p, pc⟩ := r
  have HA := Lib.hid hr.a
  have HX := Lib.hid hr.x
  have HY := Lib.hid hr.y
  have HS := Lib.hid hr.s
  have HP := Lib.hid hr.p
  have HR := Lib.hid hr
  obtain ⟨ha, hx, hy, hs, hp, hpc⟩ := hr
  dsimp only at HA HX HY HS HP
  unfold Regs.val
  obtain ⟨x0, x1⟩ := HX.out
  obtain ⟨y0, y1⟩ := HY.out
  go_enter Try.func26, Try.ntmps26
  go_wp2_with fail
  refine (rnz_any _ p (a) HP.out HA.out).mono ?_
  rintro _ _ ⟨rfl, rfl⟩
  (try unfold Regs.val)
  go_wp2_with fail
  all_goals (
    go_returns
    exact ⟨_, rfl, rfl, by repeat (first | with_reducible exact Kept.refl _ _ | with_reducible assumption | with_reducible apply Kept.alloc | with_reducible apply Kept.drew | with_reducible apply Kept.drewN | (with_reducible refine Kept.setCell ?_ (Or.inr (by simp <;> omega)) _))⟩)

set_option maxRecDepth 100000 in
set_option maxHeartbeats 2000000 in
theorem rinner_TXA (w : World) (n : ByteArray) (r : Regs) (hr : r.Ok) (q0 : (n.toList == [67, 76, 67]) = false) (q1 : (n.toList == [67, 76, 68]) = false) (q2 : (n.toList == [67, 76, 73]) = false) (q3 : (n.toList == [67, 76, 86]) = false) (q4 : (n.toList == [83, 69, 67]) = false) (q5 : (n.toList == [83, 69, 68]) = false) (q6 : (n.toList == [83, 69, 73]) = false) (q7 : (n.toList == [84, 65, 88]) = false) (q8 : (n.toList == [84, 65, 89]) = false) (q9 : (n.toList == [84, 88, 65]) = true) :
    Calls Try.prog 26 #[.string n, r.val] w (Post w [] fun v W => v = ({ r with a := r.x, p := nzM r.p r.x } : Regs).val) := by
  obtain ⟨a, x, y, s, p, pc⟩ := r
  have HA := Lib.hid hr.a
  have HX := Lib.hid hr.x
  have HY := Lib.hid hr.y
  have HS := Lib.hid hr.s
  have HP := Lib.hid hr.p
  have HR := Lib.hid hr
  obtain ⟨ha, hx, hy, hs, hp, hpc⟩ := hr
  dsimp only at HA HX HY HS HP
  unfold Regs.val
  obtain ⟨x0, x1⟩ := HX.out
  obtain ⟨y0, y1⟩ := HY.out
  go_enter Try.func26, Try.ntmps26
  go_wp2_with fail
  refine (rsetA_x _ ⟨a, x, y, s, p, pc⟩ x HR.out HX.out).mono ?_
  rintro _ _ ⟨rfl, rfl⟩
  (try unfold Regs.val)
  go_wp2_with fail
  all_goals (
    go_returns
    exact ⟨_, rfl, rfl, by repeat (first | with_reducible exact Kept.refl _ _ | with_reducible assumption | with_reducible apply Kept.alloc | with_reducible apply Kept.drew | with_reducible apply Kept.drewN | (with_reducible refine Kept.setCell ?_ (Or.inr (by simp <;> omega)) _))⟩)

set_option maxRecDepth 100000 in
set_option maxHeartbeats 2000000 in
theorem rinner_TYA (w : World) (n : ByteArray) (r : Regs) (hr : r.Ok) (q0 : (n.toList == [67, 76, 67]) = false) (q1 : (n.toList == [67, 76, 68]) = false) (q2 : (n.toList == [67, 76, 73]) = false) (q3 : (n.toList == [67, 76, 86]) = false) (q4 : (n.toList == [83, 69, 67]) = false) (q5 : (n.toList == [83, 69, 68]) = false) (q6 : (n.toList == [83, 69, 73]) = false) (q7 : (n.toList == [84, 65, 88]) = false) (q8 : (n.toList == [84, 65, 89]) = false) (q9 : (n.toList == [84, 88, 65]) = false) (q10 : (n.toList == [84, 89, 65]) = true) :
    Calls Try.prog 26 #[.string n, r.val] w (Post w [] fun v W => v = ({ r with a := r.y, p := nzM r.p r.y } : Regs).val) := by
  obtain ⟨a, x, y, s, p, pc⟩ := r
  have HA := Lib.hid hr.a
  have HX := Lib.hid hr.x
  have HY := Lib.hid hr.y
  have HS := Lib.hid hr.s
  have HP := Lib.hid hr.p
  have HR := Lib.hid hr
  obtain ⟨ha, hx, hy, hs, hp, hpc⟩ := hr
  dsimp only at HA HX HY HS HP
  unfold Regs.val
  obtain ⟨x0, x1⟩ := HX.out
  obtain ⟨y0, y1⟩ := HY.out
  go_enter Try.func26, Try.ntmps26
  go_wp2_with fail
  refine (rsetA_x _ ⟨a, x, y, s, p, pc⟩ y HR.out HY.out).mono ?_
  rintro _ _ ⟨rfl, rfl⟩
  (try unfold Regs.val)
  go_wp2_with fail
  all_goals (
    go_returns
    exact ⟨_, rfl, rfl, by repeat (first | with_reducible exact Kept.refl _ _ | with_reducible assumption | with_reducible apply Kept.alloc | with_reducible apply Kept.drew | with_reducible apply Kept.drewN | (with_reducible refine Kept.setCell ?_ (Or.inr (by simp <;> omega)) _))⟩)

set_option maxRecDepth 100000 in
set_option maxHeartbeats 2000000 in
theorem rinner_TSX (w : World) (n : ByteArray) (r : Regs) (hr : r.Ok) (q0 : (n.toList == [67, 76, 67]) = false) (q1 : (n.toList == [67, 76, 68]) = false) (q2 : (n.toList == [67, 76, 73]) = false) (q3 : (n.toList == [67, 76, 86]) = false) (q4 : (n.toList == [83, 69, 67]) = false) (q5 : (n.toList == [83, 69, 68]) = false) (q6 : (n.toList == [83, 69, 73]) = false) (q7 : (n.toList == [84, 65, 88]) = false) (q8 : (n.toList == [84, 65, 89]) = false) (q9 : (n.toList == [84, 88, 65]) = false) (q10 : (n.toList == [84, 89, 65]) = false) (q11 : (n.toList == [84, 83, 88]) = true) :
    Calls Try.prog 26 #[.string n, r.val] w (Post w [] fun v W => v = ({ r with x := r.s, p := nzM r.p r.s } : Regs).val) := by
  obtain ⟨a, x, y, s, p, pc⟩ := r
  have HA := Lib.hid hr.a
  have HX := Lib.hid hr.x
  have HY := Lib.hid hr.y
  have HS := Lib.hid hr.s
  have HP := Lib.hid hr.p
  have HR := Lib.hid hr
  obtain ⟨ha, hx, hy, hs, hp, hpc⟩ := hr
  dsimp only at HA HX HY HS HP
  unfold Regs.val
  obtain ⟨x0, x1⟩ := HX.out
  obtain ⟨y0, y1⟩ := HY.out
  go_enter Try.func26, Try.ntmps26
  go_wp2_with fail
  refine (rnz_any _ p (s) HP.out HS.out).mono ?_
  rintro _ _ ⟨rfl, rfl⟩
  (try unfold Regs.val)
  go_wp2_with fail
  all_goals (
    go_returns
    exact ⟨_, rfl, rfl, by repeat (first | with_reducible exact Kept.refl _ _ | with_reducible assumption | with_reducible apply Kept.alloc | with_reducible apply Kept.drew | with_reducible apply Kept.drewN | (with_reducible refine Kept.setCell ?_ (Or.inr (by simp <;> omega)) _))⟩)

set_option maxRecDepth 100000 in
set_option maxHeartbeats 2000000 in
theorem rinner_TXS (w : World) (n : ByteArray) (r : Regs) (hr : r.Ok) (q0 : (n.toList == [67, 76, 67]) = false) (q1 : (n.toList == [67, 76, 68]) = false) (q2 : (n.toList == [67, 76, 73]) = false) (q3 : (n.toList == [67, 76, 86]) = false) (q4 : (n.toList == [83, 69, 67]) = false) (q5 : (n.toList == [83, 69, 68]) = false) (q6 : (n.toList == [83, 69, 73]) = false) (q7 : (n.toList == [84, 65, 88]) = false) (q8 : (n.toList == [84, 65, 89]) = false) (q9 : (n.toList == [84, 88, 65]) = false) (q10 : (n.toList == [84, 89, 65]) = false) (q11 : (n.toList == [84, 83, 88]) = false) (q12 : (n.toList == [84, 88, 83]) = true) :
    Calls Try.prog 26 #[.string n, r.val] w (Post w [] fun v W => v = ({ r with s := r.x } : Regs).val) := by
  obtain ⟨a, x, y, s, p, pc⟩ := r
  have HA := Lib.hid hr.a
  have HX := Lib.hid hr.x
  have HY := Lib.hid hr.y
  have HS := Lib.hid hr.s
  have HP := Lib.hid hr.p
  have HR := Lib.hid hr
  obtain ⟨ha, hx, hy, hs, hp, hpc⟩ := hr
  dsimp only at HA HX HY HS HP
  unfold Regs.val
  obtain ⟨x0, x1⟩ := HX.out
  obtain ⟨y0, y1⟩ := HY.out
  go_enter Try.func26, Try.ntmps26
  go_wp2_with fail
  all_goals (
    go_returns
    exact ⟨_, rfl, rfl, by repeat (first | with_reducible exact Kept.refl _ _ | with_reducible assumption | with_reducible apply Kept.alloc | with_reducible apply Kept.drew | with_reducible apply Kept.drewN | (with_reducible refine Kept.setCell ?_ (Or.inr (by simp <;> omega)) _))⟩)

set_option maxRecDepth 100000 in
set_option maxHeartbeats 2000000 in
theorem rinner_INX (w : World) (n : ByteArray) (r : Regs) (hr : r.Ok) (q0 : (n.toList == [67, 76, 67]) = false) (q1 : (n.toList == [67, 76, 68]) = false) (q2 : (n.toList == [67, 76, 73]) = false) (q3 : (n.toList == [67, 76, 86]) = false) (q4 : (n.toList == [83, 69, 67]) = false) (q5 : (n.toList == [83, 69, 68]) = false) (q6 : (n.toList == [83, 69, 73]) = false) (q7 : (n.toList == [84, 65, 88]) = false) (q8 : (n.toList == [84, 65, 89]) = false) (q9 : (n.toList == [84, 88, 65]) = false) (q10 : (n.toList == [84, 89, 65]) = false) (q11 : (n.toList == [84, 83, 88]) = false) (q12 : (n.toList == [84, 88, 83]) = false) (q13 : (n.toList == [73, 78, 88]) = true) :
    Calls Try.prog 26 #[.string n, r.val] w (Post w [] fun v W => v = ({ r with x := (r.x + 1) % 256, p := nzM r.p ((r.x + 1) % 256) } : Regs).val) := by
  obtain ⟨a, x, y, s, p, pc⟩ := r
  have HA := Lib.hid hr.a
  have HX := Lib.hid hr.x
  have HY := Lib.hid hr.y
  have HS := Lib.hid hr.s
  have HP := Lib.hid hr.p
  have HR := Lib.hid hr
  obtain ⟨ha, hx, hy, hs, hp, hpc⟩ := hr
  dsimp only at HA HX HY HS HP
  unfold Regs.val
  obtain ⟨x0, x1⟩ := HX.out
  obtain ⟨y0, y1⟩ := HY.out
  go_enter Try.func26, Try.ntmps26
  go_wp2_with fail
  refine (rnz_any _ p ((x + 1) % 256) HP.out (mod_b _)).mono ?_
  rintro _ _ ⟨rfl, rfl⟩
  (try unfold Regs.val)
  go_wp2_with fail
  all_goals (
    go_returns
    exact ⟨_, rfl, rfl, by repeat (first | with_reducible exact Kept.refl _ _ | with_reducible assumption | with_reducible apply Kept.alloc | with_reducible apply Kept.drew | with_reducible apply Kept.drewN | (with_reducible refine Kept.setCell ?_ (Or.inr (by simp <;> omega)) _))⟩)

set_option maxRecDepth 100000 in
set_option maxHeartbeats 2000000 in
theorem rinner_INY (w : World) (n : ByteArray) (r : Regs) (hr : r.Ok) (q0 : (n.toList == [67, 76, 67]) = false) (q1 : (n.toList == [67, 76, 68]) = false) (q2 : (n.toList == [67, 76, 73]) = false) (q3 : (n.toList == [67, 76, 86]) = false) (q4 : (n.toList == [83, 69, 67]) = false) (q5 : (n.toList == [83, 69, 68]) = false) (q6 : (n.toList == [83, 69, 73]) = false) (q7 : (n.toList == [84, 65, 88]) = false) (q8 : (n.toList == [84, 65, 89]) = false) (q9 : (n.toList == [84, 88, 65]) = false) (q10 : (n.toList == [84, 89, 65]) = false) (q11 : (n.toList == [84, 83, 88]) = false) (q12 : (n.toList == [84, 88, 83]) = false) (q13 : (n.toList == [73, 78, 88]) = false) (q14 : (n.toList == [73, 78, 89]) = true) :
    Calls Try.prog 26 #[.string n, r.val] w (Post w [] fun v W => v = ({ r with y := (r.y + 1) % 256, p := nzM r.p ((r.y + 1) % 256) } : Regs).val) := by
  obtain ⟨a, x, y, s, p, pc⟩ := r
  have HA := Lib.hid hr.a
  have HX := Lib.hid hr.x
  have HY := Lib.hid hr.y
  have HS := Lib.hid hr.s
  have HP := Lib.hid hr.p
  have HR := Lib.hid hr
  obtain ⟨ha, hx, hy, hs, hp, hpc⟩ := hr
  dsimp only at HA HX HY HS HP
  unfold Regs.val
  obtain ⟨x0, x1⟩ := HX.out
  obtain ⟨y0, y1⟩ := HY.out
  go_enter Try.func26, Try.ntmps26
  go_wp2_with fail
  refine (rnz_any _ p ((y + 1) % 256) HP.out (mod_b _)).mono ?_
  rintro _ _ ⟨rfl, rfl⟩
  (try unfold Regs.val)
  go_wp2_with fail
  all_goals (
    go_returns
    exact ⟨_, rfl, rfl, by repeat (first | with_reducible exact Kept.refl _ _ | with_reducible assumption | with_reducible apply Kept.alloc | with_reducible apply Kept.drew | with_reducible apply Kept.drewN | (with_reducible refine Kept.setCell ?_ (Or.inr (by simp <;> omega)) _))⟩)

set_option maxRecDepth 100000 in
set_option maxHeartbeats 2000000 in
theorem rinner_DEX (w : World) (n : ByteArray) (r : Regs) (hr : r.Ok) (q0 : (n.toList == [67, 76, 67]) = false) (q1 : (n.toList == [67, 76, 68]) = false) (q2 : (n.toList == [67, 76, 73]) = false) (q3 : (n.toList == [67, 76, 86]) = false) (q4 : (n.toList == [83, 69, 67]) = false) (q5 : (n.toList == [83, 69, 68]) = false) (q6 : (n.toList == [83, 69, 73]) = false) (q7 : (n.toList == [84, 65, 88]) = false) (q8 : (n.toList == [84, 65, 89]) = false) (q9 : (n.toList == [84, 88, 65]) = false) (q10 : (n.toList == [84, 89, 65]) = false) (q11 : (n.toList == [84, 83, 88]) = false) (q12 : (n.toList == [84, 88, 83]) = false) (q13 : (n.toList == [73, 78, 88]) = false) (q14 : (n.toList == [73, 78, 89]) = false) (q15 : (n.toList == [68, 69, 88]) = true) :
    Calls Try.prog 26 #[.string n, r.val] w (Post w [] fun v W => v = ({ r with x := (r.x + 255) % 256, p := nzM r.p ((r.x + 255) % 256) } : Regs).val) := by
  obtain ⟨a, x, y, s, p, pc⟩ := r
  have HA := Lib.hid hr.a
  have HX := Lib.hid hr.x
  have HY := Lib.hid hr.y
  have HS := Lib.hid hr.s
  have HP := Lib.hid hr.p
  have HR := Lib.hid hr
  obtain ⟨ha, hx, hy, hs, hp, hpc⟩ := hr
  dsimp only at HA HX HY HS HP
  unfold Regs.val
  obtain ⟨x0, x1⟩ := HX.out
  obtain ⟨y0, y1⟩ := HY.out
  go_enter Try.func26, Try.ntmps26
  go_wp2_with fail
  refine (rnz_any _ p ((x + 255) % 256) HP.out (mod_b _)).mono ?_
  rintro _ _ ⟨rfl, rfl⟩
  (try unfold Regs.val)
  go_wp2_with fail
  all_goals (
    go_returns
    exact ⟨_, rfl, rfl, by repeat (first | with_reducible exact Kept.refl _ _ | with_reducible assumption | with_reducible apply Kept.alloc | with_reducible apply Kept.drew | with_reducible apply Kept.drewN | (with_reducible refine Kept.setCell ?_ (Or.inr (by simp <;> omega)) _))⟩)

set_option maxRecDepth 100000 in
set_option maxHeartbeats 2000000 in
theorem rinner_DEY (w : World) (n : ByteArray) (r : Regs) (hr : r.Ok) (q0 : (n.toList == [67, 76, 67]) = false) (q1 : (n.toList == [67, 76, 68]) = false) (q2 : (n.toList == [67, 76, 73]) = false) (q3 : (n.toList == [67, 76, 86]) = false) (q4 : (n.toList == [83, 69, 67]) = false) (q5 : (n.toList == [83, 69, 68]) = false) (q6 : (n.toList == [83, 69, 73]) = false) (q7 : (n.toList == [84, 65, 88]) = false) (q8 : (n.toList == [84, 65, 89]) = false) (q9 : (n.toList == [84, 88, 65]) = false) (q10 : (n.toList == [84, 89, 65]) = false) (q11 : (n.toList == [84, 83, 88]) = false) (q12 : (n.toList == [84, 88, 83]) = false) (q13 : (n.toList == [73, 78, 88]) = false) (q14 : (n.toList == [73, 78, 89]) = false) (q15 : (n.toList == [68, 69, 88]) = false) (q16 : (n.toList == [68, 69, 89]) = true) :
    Calls Try.prog 26 #[.string n, r.val] w (Post w [] fun v W => v = ({ r with y := (r.y + 255) % 256, p := nzM r.p ((r.y + 255) % 256) } : Regs).val) := by
  obtain ⟨a, x, y, s, p, pc⟩ := r
  have HA := Lib.hid hr.a
  have HX := Lib.hid hr.x
  have HY := Lib.hid hr.y
  have HS := Lib.hid hr.s
  have HP := Lib.hid hr.p
  have HR := Lib.hid hr
  obtain ⟨ha, hx, hy, hs, hp, hpc⟩ := hr
  dsimp only at HA HX HY HS HP
  unfold Regs.val
  obtain ⟨x0, x1⟩ := HX.out
  obtain ⟨y0, y1⟩ := HY.out
  go_enter Try.func26, Try.ntmps26
  go_wp2_with fail
  refine (rnz_any _ p ((y + 255) % 256) HP.out (mod_b _)).mono ?_
  rintro _ _ ⟨rfl, rfl⟩
  (try unfold Regs.val)
  go_wp2_with fail
  all_goals (
    go_returns
    exact ⟨_, rfl, rfl, by repeat (first | with_reducible exact Kept.refl _ _ | with_reducible assumption | with_reducible apply Kept.alloc | with_reducible apply Kept.drew | with_reducible apply Kept.drewN | (with_reducible refine Kept.setCell ?_ (Or.inr (by simp <;> omega)) _))⟩)

set_option maxRecDepth 100000 in
set_option maxHeartbeats 2000000 in
theorem rinner_ASL (w : World) (n : ByteArray) (r : Regs) (hr : r.Ok) (q0 : (n.toList == [67, 76, 67]) = false) (q1 : (n.toList == [67, 76, 68]) = false) (q2 : (n.toList == [67, 76, 73]) = false) (q3 : (n.toList == [67, 76, 86]) = false) (q4 : (n.toList == [83, 69, 67]) = false) (q5 : (n.toList == [83, 69, 68]) = false) (q6 : (n.toList == [83, 69, 73]) = false) (q7 : (n.toList == [84, 65, 88]) = false) (q8 : (n.toList == [84, 65, 89]) = false) (q9 : (n.toList == [84, 88, 65]) = false) (q10 : (n.toList == [84, 89, 65]) = false) (q11 : (n.toList == [84, 83, 88]) = false) (q12 : (n.toList == [84, 88, 83]) = false) (q13 : (n.toList == [73, 78, 88]) = false) (q14 : (n.toList == [73, 78, 89]) = false) (q15 : (n.toList == [68, 69, 88]) = false) (q16 : (n.toList == [68, 69, 89]) = false) (q17 : (n.toList == [65, 83, 76]) = true) :
    Calls Try.prog 26 #[.string n, r.val] w (Post w [] fun v W => v = ({ r with a := (asl r.a r.p).1, p := (asl r.a r.p).2 } : Regs).val) := by
  obtain ⟨a, x, y, s, p, pc⟩ := r
  have HA := Lib.hid hr.a
  have HX := Lib.hid hr.x
  have HY := Lib.hid hr.y
  have HS := Lib.hid hr.s
  have HP := Lib.hid hr.p
  have HR := Lib.hid hr
  obtain ⟨ha, hx, hy, hs, hp, hpc⟩ := hr
  dsimp only at HA HX HY HS HP
  unfold Regs.val
  obtain ⟨x0, x1⟩ := HX.out
  obtain ⟨y0, y1⟩ := HY.out
  go_enter Try.func26, Try.ntmps26
  go_wp2_with fail
  refine (rasl_any _ a p HA.out HP.out).mono ?_
  rintro _ _ ⟨rfl, rfl⟩
  (try unfold Regs.val)
  go_wp2_with fail
  all_goals (
    go_returns
    exact ⟨_, rfl, rfl, by repeat (first | with_reducible exact Kept.refl _ _ | with_reducible assumption | with_reducible apply Kept.alloc | with_reducible apply Kept.drew | with_reducible apply Kept.drewN | (with_reducible refine Kept.setCell ?_ (Or.inr (by simp <;> omega)) _))⟩)

set_option maxRecDepth 100000 in
set_option maxHeartbeats 2000000 in
theorem rinner_LSR (w : World) (n : ByteArray) (r : Regs) (hr : r.Ok) (q0 : (n.toList == [67, 76, 67]) = false) (q1 : (n.toList == [67, 76, 68]) = false) (q2 : (n.toList == [67, 76, 73]) = false) (q3 : (n.toList == [67, 76, 86]) = false) (q4 : (n.toList == [83, 69, 67]) = false) (q5 : (n.toList == [83, 69, 68]) = false) (q6 : (n.toList == [83, 69, 73]) = false) (q7 : (n.toList == [84, 65, 88]) = false) (q8 : (n.toList == [84, 65, 89]) = false) (q9 : (n.toList == [84, 88, 65]) = false) (q10 : (n.toList == [84, 89, 65]) = false) (q11 : (n.toList == [84, 83, 88]) = false) (q12 : (n.toList == [84, 88, 83]) = false) (q13 : (n.toList == [73, 78, 88]) = false) (q14 : (n.toList == [73, 78, 89]) = false) (q15 : (n.toList == [68, 69, 88]) = false) (q16 : (n.toList == [68, 69, 89]) = false) (q17 : (n.toList == [65, 83, 76]) = false) (q18 : (n.toList == [76, 83, 82]) = true) :
    Calls Try.prog 26 #[.string n, r.val] w (Post w [] fun v W => v = ({ r with a := (lsr r.a r.p).1, p := (lsr r.a r.p).2 } : Regs).val) := by
  obtain ⟨a, x, y, s, p, pc⟩ := r
  have HA := Lib.hid hr.a
  have HX := Lib.hid hr.x
  have HY := Lib.hid hr.y
  have HS := Lib.hid hr.s
  have HP := Lib.hid hr.p
  have HR := Lib.hid hr
  obtain ⟨ha, hx, hy, hs, hp, hpc⟩ := hr
  dsimp only at HA HX HY HS HP
  unfold Regs.val
  obtain ⟨x0, x1⟩ := HX.out
  obtain ⟨y0, y1⟩ := HY.out
  go_enter Try.func26, Try.ntmps26
  go_wp2_with fail
  refine (rlsr_any _ a p HA.out HP.out).mono ?_
  rintro _ _ ⟨rfl, rfl⟩
  (try unfold Regs.val)
  go_wp2_with fail
  all_goals (
    go_returns
    exact ⟨_, rfl, rfl, by repeat (first | with_reducible exact Kept.refl _ _ | with_reducible assumption | with_reducible apply Kept.alloc | with_reducible apply Kept.drew | with_reducible apply Kept.drewN | (with_reducible refine Kept.setCell ?_ (Or.inr (by simp <;> omega)) _))⟩)

set_option maxRecDepth 100000 in
set_option maxHeartbeats 2000000 in
theorem rinner_ROL (w : World) (n : ByteArray) (r : Regs) (hr : r.Ok) (q0 : (n.toList == [67, 76, 67]) = false) (q1 : (n.toList == [67, 76, 68]) = false) (q2 : (n.toList == [67, 76, 73]) = false) (q3 : (n.toList == [67, 76, 86]) = false) (q4 : (n.toList == [83, 69, 67]) = false) (q5 : (n.toList == [83, 69, 68]) = false) (q6 : (n.toList == [83, 69, 73]) = false) (q7 : (n.toList == [84, 65, 88]) = false) (q8 : (n.toList == [84, 65, 89]) = false) (q9 : (n.toList == [84, 88, 65]) = false) (q10 : (n.toList == [84, 89, 65]) = false) (q11 : (n.toList == [84, 83, 88]) = false) (q12 : (n.toList == [84, 88, 83]) = false) (q13 : (n.toList == [73, 78, 88]) = false) (q14 : (n.toList == [73, 78, 89]) = false) (q15 : (n.toList == [68, 69, 88]) = false) (q16 : (n.toList == [68, 69, 89]) = false) (q17 : (n.toList == [65, 83, 76]) = false) (q18 : (n.toList == [76, 83, 82]) = false) (q19 : (n.toList == [82, 79, 76]) = true) :
    Calls Try.prog 26 #[.string n, r.val] w (Post w [] fun v W => v = ({ r with a := (rol r.a r.p).1, p := (rol r.a r.p).2 } : Regs).val) := by
  obtain ⟨a, x, y, s, p, pc⟩ := r
  have HA := Lib.hid hr.a
  have HX := Lib.hid hr.x
  have HY := Lib.hid hr.y
  have HS := Lib.hid hr.s
  have HP := Lib.hid hr.p
  have HR := Lib.hid hr
  obtain ⟨ha, hx, hy, hs, hp, hpc⟩ := hr
  dsimp only at HA HX HY HS HP
  unfold Regs.val
  obtain ⟨x0, x1⟩ := HX.out
  obtain ⟨y0, y1⟩ := HY.out
  go_enter Try.func26, Try.ntmps26
  go_wp2_with fail
  refine (rrol_any _ a p HA.out HP.out).mono ?_
  rintro _ _ ⟨rfl, rfl⟩
  (try unfold Regs.val)
  go_wp2_with fail
  all_goals (
    go_returns
    exact ⟨_, rfl, rfl, by repeat (first | with_reducible exact Kept.refl _ _ | with_reducible assumption | with_reducible apply Kept.alloc | with_reducible apply Kept.drew | with_reducible apply Kept.drewN | (with_reducible refine Kept.setCell ?_ (Or.inr (by simp <;> omega)) _))⟩)

set_option maxRecDepth 100000 in
set_option maxHeartbeats 2000000 in
theorem rinner_ROR (w : World) (n : ByteArray) (r : Regs) (hr : r.Ok) (q0 : (n.toList == [67, 76, 67]) = false) (q1 : (n.toList == [67, 76, 68]) = false) (q2 : (n.toList == [67, 76, 73]) = false) (q3 : (n.toList == [67, 76, 86]) = false) (q4 : (n.toList == [83, 69, 67]) = false) (q5 : (n.toList == [83, 69, 68]) = false) (q6 : (n.toList == [83, 69, 73]) = false) (q7 : (n.toList == [84, 65, 88]) = false) (q8 : (n.toList == [84, 65, 89]) = false) (q9 : (n.toList == [84, 88, 65]) = false) (q10 : (n.toList == [84, 89, 65]) = false) (q11 : (n.toList == [84, 83, 88]) = false) (q12 : (n.toList == [84, 88, 83]) = false) (q13 : (n.toList == [73, 78, 88]) = false) (q14 : (n.toList == [73, 78, 89]) = false) (q15 : (n.toList == [68, 69, 88]) = false) (q16 : (n.toList == [68, 69, 89]) = false) (q17 : (n.toList == [65, 83, 76]) = false) (q18 : (n.toList == [76, 83, 82]) = false) (q19 : (n.toList == [82, 79, 76]) = false) (q20 : (n.toList == [82, 79, 82]) = true) :
    Calls Try.prog 26 #[.string n, r.val] w (Post w [] fun v W => v = ({ r with a := (ror r.a r.p).1, p := (ror r.a r.p).2 } : Regs).val) := by
  obtain ⟨a, x, y, s, p, pc⟩ := r
  have HA := Lib.hid hr.a
  have HX := Lib.hid hr.x
  have HY := Lib.hid hr.y
  have HS := Lib.hid hr.s
  have HP := Lib.hid hr.p
  have HR := Lib.hid hr
  obtain ⟨ha, hx, hy, hs, hp, hpc⟩ := hr
  dsimp only at HA HX HY HS HP
  unfold Regs.val
  obtain ⟨x0, x1⟩ := HX.out
  obtain ⟨y0, y1⟩ := HY.out
  go_enter Try.func26, Try.ntmps26
  go_wp2_with fail
  refine (rror_any _ a p HA.out HP.out).mono ?_
  rintro _ _ ⟨rfl, rfl⟩
  (try unfold Regs.val)
  go_wp2_with fail
  all_goals (
    go_returns
    exact ⟨_, rfl, rfl, by repeat (first | with_reducible exact Kept.refl _ _ | with_reducible assumption | with_reducible apply Kept.alloc | with_reducible apply Kept.drew | with_reducible apply Kept.drewN | (with_reducible refine Kept.setCell ?_ (Or.inr (by simp <;> omega)) _))⟩)

set_option maxRecDepth 100000 in
set_option maxHeartbeats 2000000 in
theorem rinner_other (w : World) (n : ByteArray) (r : Regs) (hr : r.Ok) (q0 : (n.toList == [67, 76, 67]) = false) (q1 : (n.toList == [67, 76, 68]) = false) (q2 : (n.toList == [67, 76, 73]) = false) (q3 : (n.toList == [67, 76, 86]) = false) (q4 : (n.toList == [83, 69, 67]) = false) (q5 : (n.toList == [83, 69, 68]) = false) (q6 : (n.toList == [83, 69, 73]) = false) (q7 : (n.toList == [84, 65, 88]) = false) (q8 : (n.toList == [84, 65, 89]) = false) (q9 : (n.toList == [84, 88, 65]) = false) (q10 : (n.toList == [84, 89, 65]) = false) (q11 : (n.toList == [84, 83, 88]) = false) (q12 : (n.toList == [84, 88, 83]) = false) (q13 : (n.toList == [73, 78, 88]) = false) (q14 : (n.toList == [73, 78, 89]) = false) (q15 : (n.toList == [68, 69, 88]) = false) (q16 : (n.toList == [68, 69, 89]) = false) (q17 : (n.toList == [65, 83, 76]) = false) (q18 : (n.toList == [76, 83, 82]) = false) (q19 : (n.toList == [82, 79, 76]) = false) (q20 : (n.toList == [82, 79, 82]) = false) :
    Calls Try.prog 26 #[.string n, r.val] w (Post w [] fun v W => v = (r : Regs).val) := by
  obtain ⟨a, x, y, s, p, pc⟩ := r
  have HA := Lib.hid hr.a
  have HX := Lib.hid hr.x
  have HY := Lib.hid hr.y
  have HS := Lib.hid hr.s
  have HP := Lib.hid hr.p
  have HR := Lib.hid hr
  obtain ⟨ha, hx, hy, hs, hp, hpc⟩ := hr
  dsimp only at HA HX HY HS HP
  unfold Regs.val
  obtain ⟨x0, x1⟩ := HX.out
  obtain ⟨y0, y1⟩ := HY.out
  go_enter Try.func26, Try.ntmps26
  go_wp2_with fail
  all_goals (
    go_returns
    exact ⟨_, rfl, rfl, by repeat (first | with_reducible exact Kept.refl _ _ | with_reducible assumption | with_reducible apply Kept.alloc | with_reducible apply Kept.drew | with_reducible apply Kept.drewN | (with_reducible refine Kept.setCell ?_ (Or.inr (by simp <;> omega)) _))⟩)

def rinnerM (n : List UInt8) (r : Regs) : Regs :=
  if (n == [67, 76, 67]) = true then { r with p := setF r.p 1 false } else
  if (n == [67, 76, 68]) = true then { r with p := setF r.p 8 false } else
  if (n == [67, 76, 73]) = true then { r with p := setF r.p 4 false } else
  if (n == [67, 76, 86]) = true then { r with p := setF r.p 64 false } else
  if (n == [83, 69, 67]) = true then { r with p := setF r.p 1 true } else
  if (n == [83, 69, 68]) = true then { r with p := setF r.p 8 true } else
  if (n == [83, 69, 73]) = true then { r with p := setF r.p 4 true } else
  if (n == [84, 65, 88]) = true then { r with x := r.a, p := nzM r.p r.a } else
  if (n == [84, 65, 89]) = true then { r with y := r.a, p := nzM r.p r.a } else
  if (n == [84, 88, 65]) = true then { r with a := r.x, p := nzM r.p r.x } else
  if (n == [84, 89, 65]) = true then { r with a := r.y, p := nzM r.p r.y } else
  if (n == [84, 83, 88]) = true then { r with x := r.s, p := nzM r.p r.s } else
  if (n == [84, 88, 83]) = true then { r with s := r.x } else
  if (n == [73, 78, 88]) = true then { r with x := (r.x + 1) % 256, p := nzM r.p ((r.x + 1) % 256) } else
  if (n == [73, 78, 89]) = true then { r with y := (r.y + 1) % 256, p := nzM r.p ((r.y + 1) % 256) } else
  if (n == [68, 69, 88]) = true then { r with x := (r.x + 255) % 256, p := nzM r.p ((r.x + 255) % 256) } else
  if (n == [68, 69, 89]) = true then { r with y := (r.y + 255) % 256, p := nzM r.p ((r.y + 255) % 256) } else
  if (n == [65, 83, 76]) = true then { r with a := (asl r.a r.p).1, p := (asl r.a r.p).2 } else
  if (n == [76, 83, 82]) = true then { r with a := (lsr r.a r.p).1, p := (lsr r.a r.p).2 } else
  if (n == [82, 79, 76]) = true then { r with a := (rol r.a r.p).1, p := (rol r.a r.p).2 } else
  if (n == [82, 79, 82]) = true then { r with a := (ror r.a r.p).1, p := (ror r.a r.p).2 } else
  r
theorem rinner_any (w : World) (n : ByteArray) (r : Regs) (hr : r.Ok) :
    Calls Try.prog 26 #[.string n, r.val] w (Post w [] fun v W => v = (rinnerM n.toList r).val) := by
  unfold rinnerM
  by_cases q0 : (n.toList == [67, 76, 67]) = true
  · rw [if_pos q0]
    exact rinner_CLC w n r hr  q0
  rw [if_neg q0]
  have q0 : (n.toList == [67, 76, 67]) = false := by simpa using q0
  by_cases q1 : (n.toList == [67, 76, 68]) = true
  · rw [if_pos q1]
    exact rinner_CLD w n r hr q0 q1
  rw [if_neg q1]
  have q1 : (n.toList == [67, 76, 68]) = false := by simpa using q1
  by_cases q2 : (n.toList == [67, 76, 73]) = true
  · rw [if_pos q2]
    exact rinner_CLI w n r hr q0 q1 q2
  rw [if_neg q2]
  have q2 : (n.toList == [67, 76, 73]) = false := by simpa using q2
  by_cases q3 : (n.toList == [67, 76, 86]) = true
  · rw [if_pos q3]
    exact rinner_CLV w n r hr q0 q1 q2 q3
  rw [if_neg q3]
  have q3 : (n.toList == [67, 76, 86]) = false := by simpa using q3
  by_cases q4 : (n.toList == [83, 69, 67]) = true
  · rw [if_pos q4]
    exact rinner_SEC w n r hr q0 q1 q2 q3 q4
  rw [if_neg q4]
  have q4 : (n.toList == [83, 69, 67]) = false := by simpa using q4
  by_cases q5 : (n.toList == [83, 69, 68]) = true
  · rw [if_pos q5]
    exact rinner_SED w n r hr q0 q1 q2 q3 q4 q5
  rw [if_neg q5]
  have q5 : (n.toList == [83, 69, 68]) = false := by simpa using q5
  by_cases q6 : (n.toList == [83, 69, 73]) = true
  · rw [if_pos q6]
    exact rinner_SEI w n r hr q0 q1 q2 q3 q4 q5 q6
  rw [if_neg q6]
  have q6 : (n.toList == [83, 69, 73]) = false := by simpa using q6
  by_cases q7 : (n.toList == [84, 65, 88]) = true
  · rw [if_pos q7]
    exact rinner_TAX w n r hr q0 q1 q2 q3 q4 q5 q6 q7
  rw [if_neg q7]
  have q7 : (n.toList == [84, 65, 88]) = false := by simpa using q7
  by_cases q8 : (n.toList == [84, 65, 89]) = true
  · rw [if_pos q8]
    exact rinner_TAY w n r hr q0 q1 q2 q3 q4 q5 q6 q7 q8
  rw [if_neg q8]
  have q8 : (n.toList == [84, 65, 89]) = false := by simpa using q8
  by_cases q9 : (n.toList == [84, 88, 65]) = true
  · rw [if_pos q9]
    exact rinner_TXA w n r hr q0 q1 q2 q3 q4 q5 q6 q7 q8 q9
  rw [if_neg q9]
  have q9 : (n.toList == [84, 88, 65]) = false := by simpa using q9
  by_cases q10 : (n.toList == [84, 89, 65]) = true
  · rw [if_pos q10]
    exact rinner_TYA w n r hr q0 q1 q2 q3 q4 q5 q6 q7 q8 q9 q10
  rw [if_neg q10]
  have q10 : (n.toList == [84, 89, 65]) = false := by simpa using q10
  by_cases q11 : (n.toList == [84, 83, 88]) = true
  · rw [if_pos q11]
    exact rinner_TSX w n r hr q0 q1 q2 q3 q4 q5 q6 q7 q8 q9 q10 q11
  rw [if_neg q11]
  have q11 : (n.toList == [84, 83, 88]) = false := by simpa using q11
  by_cases q12 : (n.toList == [84, 88, 83]) = true
  · rw [if_pos q12]
    exact rinner_TXS w n r hr q0 q1 q2 q3 q4 q5 q6 q7 q8 q9 q10 q11 q12
  rw [if_neg q12]
  have q12 : (n.toList == [84, 88, 83]) = false := by simpa using q12
  by_cases q13 : (n.toList == [73, 78, 88]) = true
  · rw [if_pos q13]
    exact rinner_INX w n r hr q0 q1 q2 q3 q4 q5 q6 q7 q8 q9 q10 q11 q12 q13
  rw [if_neg q13]
  have q13 : (n.toList == [73, 78, 88]) = false := by simpa using q13
  by_cases q14 : (n.toList == [73, 78, 89]) = true
  · rw [if_pos q14]
    exact rinner_INY w n r hr q0 q1 q2 q3 q4 q5 q6 q7 q8 q9 q10 q11 q12 q13 q14
  rw [if_neg q14]
  have q14 : (n.toList == [73, 78, 89]) = false := by simpa using q14
  by_cases q15 : (n.toList == [68, 69, 88]) = true
  · rw [if_pos q15]
    exact rinner_DEX w n r hr q0 q1 q2 q3 q4 q5 q6 q7 q8 q9 q10 q11 q12 q13 q14 q15
  rw [if_neg q15]
  have q15 : (n.toList == [68, 69, 88]) = false := by simpa using q15
  by_cases q16 : (n.toList == [68, 69, 89]) = true
  · rw [if_pos q16]
    exact rinner_DEY w n r hr q0 q1 q2 q3 q4 q5 q6 q7 q8 q9 q10 q11 q12 q13 q14 q15 q16
  rw [if_neg q16]
  have q16 : (n.toList == [68, 69, 89]) = false := by simpa using q16
  by_cases q17 : (n.toList == [65, 83, 76]) = true
  · rw [if_pos q17]
    exact rinner_ASL w n r hr q0 q1 q2 q3 q4 q5 q6 q7 q8 q9 q10 q11 q12 q13 q14 q15 q16 q17
  rw [if_neg q17]
  have q17 : (n.toList == [65, 83, 76]) = false := by simpa using q17
  by_cases q18 : (n.toList == [76, 83, 82]) = true
  · rw [if_pos q18]
    exact rinner_LSR w n r hr q0 q1 q2 q3 q4 q5 q6 q7 q8 q9 q10 q11 q12 q13 q14 q15 q16 q17 q18
  rw [if_neg q18]
  have q18 : (n.toList == [76, 83, 82]) = false := by simpa using q18
  by_cases q19 : (n.toList == [82, 79, 76]) = true
  · rw [if_pos q19]
    exact rinner_ROL w n r hr q0 q1 q2 q3 q4 q5 q6 q7 q8 q9 q10 q11 q12 q13 q14 q15 q16 q17 q18 q19
  rw [if_neg q19]
  have q19 : (n.toList == [82, 79, 76]) = false := by simpa using q19
  by_cases q20 : (n.toList == [82, 79, 82]) = true
  · rw [if_pos q20]
    exact rinner_ROR w n r hr q0 q1 q2 q3 q4 q5 q6 q7 q8 q9 q10 q11 q12 q13 q14 q15 q16 q17 q18 q19 q20
  rw [if_neg q20]
  have q20 : (n.toList == [82, 79, 82]) = false := by simpa using q20
  exact rinner_other w n r hr q0 q1 q2 q3 q4 q5 q6 q7 q8 q9 q10 q11 q12 q13 q14 q15 q16 q17 q18 q19 q20

theorem rinnerM_eq (n : List UInt8) (r : Regs) : rinnerM n r = innerM n r := by
  have e0 : (r.x + 255) % 256 = (r.x - 1) % 256 := by omega
  have e1 : (r.y + 255) % 256 = (r.y - 1) % 256 := by omega
  by_cases h0 : n = [67, 76, 67]
  · subst h0; first | rfl | (simp [rinnerM, innerM, e0, e1]; done)
  by_cases h1 : n = [67, 76, 68]
  · subst h1; first | rfl | (simp [rinnerM, innerM, e0, e1]; done)
  by_cases h2 : n = [67, 76, 73]
  · subst h2; first | rfl | (simp [rinnerM, innerM, e0, e1]; done)
  by_cases h3 : n = [67, 76, 86]
  · subst h3; first | rfl | (simp [rinnerM, innerM, e0, e1]; done)
  by_cases h4 : n = [83, 69, 67]
  · subst h4; first | rfl | (simp [rinnerM, innerM, e0, e1]; done)
  by_cases h5 : n = [83, 69, 68]
  · subst h5; first | rfl | (simp [rinnerM, innerM, e0, e1]; done)
  by_cases h6 : n = [83, 69, 73]
  · subst h6; first | rfl | (simp [rinnerM, innerM, e0, e1]; done)
  by_cases h7 : n = [84, 65, 88]
  · subst h7; first | rfl | (simp [rinnerM, innerM, e0, e1]; done)
  by_cases h8 : n = [84, 65, 89]
  · subst h8; first | rfl | (simp [rinnerM, innerM, e0, e1]; done)
  by_cases h9 : n = [84, 88, 65]
  · subst h9; first | rfl | (simp [rinnerM, innerM, e0, e1]; done)
  by_cases h10 : n = [84, 89, 65]
  · subst h10; first | rfl | (simp [rinnerM, innerM, e0, e1]; done)
  by_cases h11 : n = [84, 83, 88]
  · subst h11; first | rfl | (simp [rinnerM, innerM, e0, e1]; done)
  by_cases h12 : n = [84, 88, 83]
  · subst h12; first | rfl | (simp [rinnerM, innerM, e0, e1]; done)
  by_cases h13 : n = [73, 78, 88]
  · subst h13; first | rfl | (simp [rinnerM, innerM, e0, e1]; done)
  by_cases h14 : n = [73, 78, 89]
  · subst h14; first | rfl | (simp [rinnerM, innerM, e0, e1]; done)
  by_cases h15 : n = [68, 69, 88]
  · subst h15; first | rfl | (simp [rinnerM, innerM, e0, e1]; done)
  by_cases h16 : n = [68, 69, 89]
  · subst h16; first | rfl | (simp [rinnerM, innerM, e0, e1]; done)
  by_cases h17 : n = [65, 83, 76]
  · subst h17; first | rfl | (simp [rinnerM, innerM, e0, e1]; done)
  by_cases h18 : n = [76, 83, 82]
  · subst h18; first | rfl | (simp [rinnerM, innerM, e0, e1]; done)
  by_cases h19 : n = [82, 79, 76]
  · subst h19; first | rfl | (simp [rinnerM, innerM, e0, e1]; done)
  by_cases h20 : n = [82, 79, 82]
  · subst h20; first | rfl | (simp [rinnerM, innerM, e0, e1]; done)
  have g0 : (n == [67, 76, 67]) = false := by rw [beq_eq_false_iff_ne]; exact h0
  have g1 : (n == [67, 76, 68]) = false := by rw [beq_eq_false_iff_ne]; exact h1
  have g2 : (n == [67, 76, 73]) = false := by rw [beq_eq_false_iff_ne]; exact h2
  have g3 : (n == [67, 76, 86]) = false := by rw [beq_eq_false_iff_ne]; exact h3
  have g4 : (n == [83, 69, 67]) = false := by rw [beq_eq_false_iff_ne]; exact h4
  have g5 : (n == [83, 69, 68]) = false := by rw [beq_eq_false_iff_ne]; exact h5
  have g6 : (n == [83, 69, 73]) = false := by rw [beq_eq_false_iff_ne]; exact h6
  have g7 : (n == [84, 65, 88]) = false := by rw [beq_eq_false_iff_ne]; exact h7
  have g8 : (n == [84, 65, 89]) = false := by rw [beq_eq_false_iff_ne]; exact h8
  have g9 : (n == [84, 88, 65]) = false := by rw [beq_eq_false_iff_ne]; exact h9
  have g10 : (n == [84, 89, 65]) = false := by rw [beq_eq_false_iff_ne]; exact h10
  have g11 : (n == [84, 83, 88]) = false := by rw [beq_eq_false_iff_ne]; exact h11
  have g12 : (n == [84, 88, 83]) = false := by rw [beq_eq_false_iff_ne]; exact h12
  have g13 : (n == [73, 78, 88]) = false := by rw [beq_eq_false_iff_ne]; exact h13
  have g14 : (n == [73, 78, 89]) = false := by rw [beq_eq_false_iff_ne]; exact h14
  have g15 : (n == [68, 69, 88]) = false := by rw [beq_eq_false_iff_ne]; exact h15
  have g16 : (n == [68, 69, 89]) = false := by rw [beq_eq_false_iff_ne]; exact h16
  have g17 : (n == [65, 83, 76]) = false := by rw [beq_eq_false_iff_ne]; exact h17
  have g18 : (n == [76, 83, 82]) = false := by rw [beq_eq_false_iff_ne]; exact h18
  have g19 : (n == [82, 79, 76]) = false := by rw [beq_eq_false_iff_ne]; exact h19
  have g20 : (n == [82, 79, 82]) = false := by rw [beq_eq_false_iff_ne]; exact h20
  unfold rinnerM innerM
  simp only [g0, g1, g2, g3, g4, g5, g6, g7, g8, g9, g10, g11, g12, g13, g14, g15, g16, g17, g18, g19, g20, Bool.false_eq_true, if_false]

end Go.Proofs.Ytmiihcaccejklaa
