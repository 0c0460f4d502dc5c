/- PROVED: the contracts of keepsakeref15.setA, Pushes, Pulls and Taken: the same models as for package effect. No conditions beyond those that each theorem states. -/
import Derived.Test.YtmiihcaccejklaaRef13
import Derived.Test.YtmiihcaccejklaaEffM
import Derived.Laws.Rows
namespace Go.Proofs.Ytmiihcaccejklaa
open Go.RowKit Go.Proofs.YtmiihcaccejklaaLib
set_option linter.unusedSimpArgs false
set_option linter.unusedVariables false

set_option maxHeartbeats 1000000 in
theorem rsetA_any (w : World) (r : Regs) (v : Int) (hr : r.Ok) (hv : Byte v) :
    Calls Try.prog 35 #[r.val, .int .u8 v] w (Post w [] fun u W => u = ({ r with a := v, p := nzM r.p v } : Regs).val) := by
  obtain ⟨a, x, y, s, p, pc⟩ := r
  obtain ⟨ha, hx, hy, hs, hp, hpc⟩ := hr
  unfold Regs.val
  go_enter Try.func35, Try.ntmps35
  go_wp2_with fail
  refine (rnz_any _ p v hp hv).mono ?_
  rintro _ _ ⟨rfl, rfl⟩
  go_wp2_with fail
  go_returns
  exact ⟨_, rfl, rfl, by repeat (first | with_reducible exact Kept.refl _ _ | with_reducible assumption | with_reducible apply Kept.alloc | with_reducible apply Kept.drew | with_reducible apply Kept.drewN | (with_reducible refine Kept.setCell ?_ (Or.inr (by simp <;> omega)) _))⟩

set_option maxHeartbeats 1000000 in
theorem rpushes_PHA (w : World) (n : ByteArray) (r : Regs) (hr : r.Ok) (q0 : (n.toList == [80, 72, 65]) = true) :
    Calls Try.prog 19 #[.string n, r.val] w (Post w [] fun v W => v = .int .u8 (r.a)) := by
  obtain ⟨a, x, y, s, p, pc⟩ := r
  obtain ⟨ha, hx, hy, hs, hp, hpc⟩ := hr
  unfold Regs.val
  go_enter Try.func19, Try.ntmps19
  go_wp2_with fail
  go_returns
  exact ⟨_, rfl, rfl, by repeat (first | with_reducible exact Kept.refl _ _ | with_reducible assumption | with_reducible apply Kept.alloc | with_reducible apply Kept.drew | with_reducible apply Kept.drewN | (with_reducible refine Kept.setCell ?_ (Or.inr (by simp <;> omega)) _))⟩

set_option maxHeartbeats 1000000 in
theorem rpushes_PHP (w : World) (n : ByteArray) (r : Regs) (hr : r.Ok) (q0 : (n.toList == [80, 72, 65]) = false) (q1 : (n.toList == [80, 72, 80]) = true) :
    Calls Try.prog 19 #[.string n, r.val] w (Post w [] fun v W => v = .int .u8 (setF (setF r.p 16 true) 32 true)) := by
  obtain ⟨a, x, y, s, p, pc⟩ := r
  obtain ⟨ha, hx, hy, hs, hp, hpc⟩ := hr
  unfold Regs.val
  go_enter Try.func19, Try.ntmps19
  go_wp2_with fail
  refine (rset_any _ p 16 true hp (by simp [IsFlag])).mono ?_
  rintro _ _ ⟨rfl, rfl⟩
  go_wp2_with fail
  refine (rset_any _ _ 32 true (setF_b (by simp [IsFlag]) hp) (by simp [IsFlag])).mono ?_
  rintro _ _ ⟨rfl, rfl⟩
  go_wp2_with fail
  go_returns
  exact ⟨_, rfl, rfl, by repeat (first | with_reducible exact Kept.refl _ _ | with_reducible assumption | with_reducible apply Kept.alloc | with_reducible apply Kept.drew | with_reducible apply Kept.drewN | (with_reducible refine Kept.setCell ?_ (Or.inr (by simp <;> omega)) _))⟩

set_option maxHeartbeats 1000000 in
theorem rpushes_other (w : World) (n : ByteArray) (r : Regs) (hr : r.Ok) (q0 : (n.toList == [80, 72, 65]) = false) (q1 : (n.toList == [80, 72, 80]) = false) :
    Calls Try.prog 19 #[.string n, r.val] w (Post w [] fun v W => v = .int .u8 (0)) := by
  obtain ⟨a, x, y, s, p, pc⟩ := r
  obtain ⟨ha, hx, hy, hs, hp, hpc⟩ := hr
  unfold Regs.val
  go_enter Try.func19, Try.ntmps19
  go_wp2_with fail
  go_returns
  exact ⟨_, rfl, rfl, by repeat (first | with_reducible exact Kept.refl _ _ | with_reducible assumption | with_reducible apply Kept.alloc | with_reducible apply Kept.drew | with_reducible apply Kept.drewN | (with_reducible refine Kept.setCell ?_ (Or.inr (by simp <;> omega)) _))⟩

theorem rpushes_any (w : World) (n : ByteArray) (r : Regs) (hr : r.Ok) :
    Calls Try.prog 19 #[.string n, r.val] w (Post w [] fun v W => v = .int .u8 (pushesM n.toList r)) := by
  unfold pushesM
  by_cases q0 : (n.toList == [80, 72, 65]) = true
  · rw [if_pos q0]
    exact rpushes_PHA w n r hr  q0
  rw [if_neg q0]
  have q0 : (n.toList == [80, 72, 65]) = false := by simpa using q0
  by_cases q1 : (n.toList == [80, 72, 80]) = true
  · rw [if_pos q1]
    exact rpushes_PHP w n r hr q0 q1
  rw [if_neg q1]
  have q1 : (n.toList == [80, 72, 80]) = false := by simpa using q1
  exact rpushes_other w n r hr q0 q1

set_option maxHeartbeats 1000000 in
theorem rpulls_PLA (w : World) (n : ByteArray) (r : Regs) (m : Int) (hr : r.Ok) (hm : Byte m) (q0 : (n.toList == [80, 76, 65]) = true) :
    Calls Try.prog 21 #[.string n, r.val, .int .u8 m] w (Post w [] fun v W => v = ({ r with a := m, p := nzM r.p m } : Regs).val) := by
  obtain ⟨a, x, y, s, p, pc⟩ := r
  obtain ⟨ha, hx, hy, hs, hp, hpc⟩ := hr
  unfold Regs.val
  go_enter Try.func21, Try.ntmps21
  go_wp2_with fail
  refine (rsetA_any _ ⟨a, x, y, s, p, pc⟩ m ⟨ha, hx, hy, hs, hp, hpc⟩ hm).mono ?_
  rintro _ w1 ⟨_, rfl, rfl, k1⟩
  have hbz := Blk.kept (w1 := w1) (Blk.second w _ 29 [.int .u8 0, .int .u8 0, .int .u8 0, .int .u8 0, .int .u8 0, .int .u16 0]) k1 (by simp)
  have kk : Kept w w1 [] := by
    refine Kept.trans ?_ k1 (by simp)
    repeat (first | with_reducible exact Kept.refl _ _ | with_reducible assumption | with_reducible apply Kept.alloc | with_reducible apply Kept.drew | with_reducible apply Kept.drewN | (with_reducible refine Kept.setCell ?_ (Or.inr (by simp <;> omega)) _))
  have sz := k1.size
  simp only [World.size_alloc] at sz
  clear k1
  replace hbz := Lib.hid hbz
  unfold Regs.val
  have z0 := hbz.out.cell 0 rfl
  have y0 := hbz.out.free 0
  have z1 := hbz.out.cell 1 rfl
  have y1 := hbz.out.free 1
  have z2 := hbz.out.cell 2 rfl
  have y2 := hbz.out.free 2
  have z3 := hbz.out.cell 3 rfl
  have y3 := hbz.out.free 3
  have z4 := hbz.out.cell 4 rfl
  have y4 := hbz.out.free 4
  have z5 := hbz.out.cell 5 rfl
  have y5 := hbz.out.free 5
  go_wp2_with fail
  replace hbz := hbz.out
  have hz := (((((hbz.set 0 (.int .u8 m)).set 1 (.int .u8 x)).set 2 (.int .u8 y)).set 3 (.int .u8 s)).set 4 (.int .u8 (nzM p m))).set 5 (.int .u16 pc)
  simp only [List.set] at hz
  refine bodyPost_ret (results_cell_row Try.results21 _ _ _ _ _ _ _ (by simp [go_sem]) hz Try.underlying29 rfl rfl) rfl ?_
  exact ⟨_, rfl, rfl, by repeat (first | with_reducible exact Kept.refl _ _ | with_reducible assumption | with_reducible apply Kept.alloc | with_reducible apply Kept.drew | with_reducible apply Kept.drewN | (with_reducible refine Kept.setCell ?_ (Or.inr (by simp <;> omega)) _))⟩

set_option maxHeartbeats 1000000 in
theorem rpulls_PLP (w : World) (n : ByteArray) (r : Regs) (m : Int) (hr : r.Ok) (hm : Byte m) (q0 : (n.toList == [80, 76, 65]) = false) (q1 : (n.toList == [80, 76, 80]) = true) :
    Calls Try.prog 21 #[.string n, r.val, .int .u8 m] w (Post w [] fun v W => v = ({ r with p := setF (setF m 16 false) 32 true } : Regs).val) := by
  obtain ⟨a, x, y, s, p, pc⟩ := r
  obtain ⟨ha, hx, hy, hs, hp, hpc⟩ := hr
  unfold Regs.val
  go_enter Try.func21, Try.ntmps21
  go_wp2_with fail
  refine (rset_any _ m 16 false hm (by simp [IsFlag])).mono ?_
  rintro _ _ ⟨rfl, rfl⟩
  go_wp2_with fail
  refine (rset_any _ _ 32 true (setF_b (by simp [IsFlag]) hm) (by simp [IsFlag])).mono ?_
  rintro _ _ ⟨rfl, rfl⟩
  go_wp2_with fail
  go_returns
  exact ⟨_, rfl, rfl, by repeat (first | with_reducible exact Kept.refl _ _ | with_reducible assumption | with_reducible apply Kept.alloc | with_reducible apply Kept.drew | with_reducible apply Kept.drewN | (with_reducible refine Kept.setCell ?_ (Or.inr (by simp <;> omega)) _))⟩

set_option maxHeartbeats 1000000 in
theorem rpulls_other (w : World) (n : ByteArray) (r : Regs) (m : Int) (hr : r.Ok) (hm : Byte m) (q0 : (n.toList == [80, 76, 65]) = false) (q1 : (n.toList == [80, 76, 80]) = false) :
    Calls Try.prog 21 #[.string n, r.val, .int .u8 m] w (Post w [] fun v W => v = (r : Regs).val) := by
  obtain ⟨a, x, y, s, p, pc⟩ := r
  obtain ⟨ha, hx, hy, hs, hp, hpc⟩ := hr
  unfold Regs.val
  go_enter Try.func21, Try.ntmps21
  go_wp2_with fail
  go_returns
  exact ⟨_, rfl, rfl, by repeat (first | with_reducible exact Kept.refl _ _ | with_reducible assumption | with_reducible apply Kept.alloc | with_reducible apply Kept.drew | with_reducible apply Kept.drewN | (with_reducible refine Kept.setCell ?_ (Or.inr (by simp <;> omega)) _))⟩

theorem rpulls_any (w : World) (n : ByteArray) (r : Regs) (m : Int) (hr : r.Ok) (hm : Byte m) :
    Calls Try.prog 21 #[.string n, r.val, .int .u8 m] w (Post w [] fun v W => v = (pullsM n.toList r m).val) := by
  unfold pullsM
  by_cases q0 : (n.toList == [80, 76, 65]) = true
  · rw [if_pos q0]
    exact rpulls_PLA w n r m hr hm  q0
  rw [if_neg q0]
  have q0 : (n.toList == [80, 76, 65]) = false := by simpa using q0
  by_cases q1 : (n.toList == [80, 76, 80]) = true
  · rw [if_pos q1]
    exact rpulls_PLP w n r m hr hm q0 q1
  rw [if_neg q1]
  have q1 : (n.toList == [80, 76, 80]) = false := by simpa using q1
  exact rpulls_other w n r m hr hm q0 q1

set_option maxHeartbeats 1000000 in
theorem rtaken_BPL (w : World) (n : ByteArray) (p : Int) (hp : Byte p) (q0 : (n.toList == [66, 80, 76]) = true) :
    Calls Try.prog 22 #[.string n, .int .u8 p] w fun e W => e = .returned (.bool (p / 128 % 2 == 0)) ∧ w = W := by
  go_enter Try.func22, Try.ntmps22
  go_wp2_with fail
  refine (rhas_any _ p 128 hp (by simp [IsFlag])).mono ?_
  rintro _ _ ⟨rfl, rfl⟩
  have h2 : p / 128 % 2 = 0 ∨ p / 128 % 2 = 1 := by omega
  rcases h2 with h2 | h2 <;> (
    rw [h2]
    go_wp2_with fail
    go_ret
    exact ⟨by rw [h2]; rfl, rfl⟩)

set_option maxHeartbeats 1000000 in
theorem rtaken_BMI (w : World) (n : ByteArray) (p : Int) (hp : Byte p) (q0 : (n.toList == [66, 80, 76]) = false) (q1 : (n.toList == [66, 77, 73]) = true) :
    Calls Try.prog 22 #[.string n, .int .u8 p] w fun e W => e = .returned (.bool (p / 128 % 2 == 1)) ∧ w = W := by
  go_enter Try.func22, Try.ntmps22
  go_wp2_with fail
  refine (rhas_any _ p 128 hp (by simp [IsFlag])).mono ?_
  rintro _ _ ⟨rfl, rfl⟩
  have h2 : p / 128 % 2 = 0 ∨ p / 128 % 2 = 1 := by omega
  rcases h2 with h2 | h2 <;> (
    rw [h2]
    go_wp2_with fail
    go_ret
    exact ⟨by rw [h2]; rfl, rfl⟩)

set_option maxHeartbeats 1000000 in
theorem rtaken_BVC (w : World) (n : ByteArray) (p : Int) (hp : Byte p) (q0 : (n.toList == [66, 80, 76]) = false) (q1 : (n.toList == [66, 77, 73]) = false) (q2 : (n.toList == [66, 86, 67]) = true) :
    Calls Try.prog 22 #[.string n, .int .u8 p] w fun e W => e = .returned (.bool (p / 64 % 2 == 0)) ∧ w = W := by
  go_enter Try.func22, Try.ntmps22
  go_wp2_with fail
  refine (rhas_any _ p 64 hp (by simp [IsFlag])).mono ?_
  rintro _ _ ⟨rfl, rfl⟩
  have h2 : p / 64 % 2 = 0 ∨ p / 64 % 2 = 1 := by omega
  rcases h2 with h2 | h2 <;> (
    rw [h2]
    go_wp2_with fail
    go_ret
    exact ⟨by rw [h2]; rfl, rfl⟩)

set_option maxHeartbeats 1000000 in
theorem rtaken_BVS (w : World) (n : ByteArray) (p : Int) (hp : Byte p) (q0 : (n.toList == [66, 80, 76]) = false) (q1 : (n.toList == [66, 77, 73]) = false) (q2 : (n.toList == [66, 86, 67]) = false) (q3 : (n.toList == [66, 86, 83]) = true) :
    Calls Try.prog 22 #[.string n, .int .u8 p] w fun e W => e = .returned (.bool (p / 64 % 2 == 1)) ∧ w = W := by
  go_enter Try.func22, Try.ntmps22
  go_wp2_with fail
  refine (rhas_any _ p 64 hp (by simp [IsFlag])).mono ?_
  rintro _ _ ⟨rfl, rfl⟩
  have h2 : p / 64 % 2 = 0 ∨ p / 64 % 2 = 1 := by omega
  rcases h2 with h2 | h2 <;> (
    rw [h2]
    go_wp2_with fail
    go_ret
    exact ⟨by rw [h2]; rfl, rfl⟩)

set_option maxHeartbeats 1000000 in
theorem rtaken_BCC (w : World) (n : ByteArray) (p : Int) (hp : Byte p) (q0 : (n.toList == [66, 80, 76]) = false) (q1 : (n.toList == [66, 77, 73]) = false) (q2 : (n.toList == [66, 86, 67]) = false) (q3 : (n.toList == [66, 86, 83]) = false) (q4 : (n.toList == [66, 67, 67]) = true) :
    Calls Try.prog 22 #[.string n, .int .u8 p] w fun e W => e = .returned (.bool (p / 1 % 2 == 0)) ∧ w = W := by
  go_enter Try.func22, Try.ntmps22
  go_wp2_with fail
  refine (rhas_any _ p 1 hp (by simp [IsFlag])).mono ?_
  rintro _ _ ⟨rfl, rfl⟩
  have h2 : p / 1 % 2 = 0 ∨ p / 1 % 2 = 1 := by omega
  rcases h2 with h2 | h2 <;> (
    rw [h2]
    go_wp2_with fail
    go_ret
    exact ⟨by rw [h2]; rfl, rfl⟩)

set_option maxHeartbeats 1000000 in
theorem rtaken_BCS (w : World) (n : ByteArray) (p : Int) (hp : Byte p) (q0 : (n.toList == [66, 80, 76]) = false) (q1 : (n.toList == [66, 77, 73]) = false) (q2 : (n.toList == [66, 86, 67]) = false) (q3 : (n.toList == [66, 86, 83]) = false) (q4 : (n.toList == [66, 67, 67]) = false) (q5 : (n.toList == [66, 67, 83]) = true) :
    Calls Try.prog 22 #[.string n, .int .u8 p] w fun e W => e = .returned (.bool (p / 1 % 2 == 1)) ∧ w = W := by
  go_enter Try.func22, Try.ntmps22
  go_wp2_with fail
  refine (rhas_any _ p 1 hp (by simp [IsFlag])).mono ?_
  rintro _ _ ⟨rfl, rfl⟩
  have h2 : p / 1 % 2 = 0 ∨ p / 1 % 2 = 1 := by omega
  rcases h2 with h2 | h2 <;> (
    rw [h2]
    go_wp2_with fail
    go_ret
    exact ⟨by rw [h2]; rfl, rfl⟩)

set_option maxHeartbeats 1000000 in
theorem rtaken_BNE (w : World) (n : ByteArray) (p : Int) (hp : Byte p) (q0 : (n.toList == [66, 80, 76]) = false) (q1 : (n.toList == [66, 77, 73]) = false) (q2 : (n.toList == [66, 86, 67]) = false) (q3 : (n.toList == [66, 86, 83]) = false) (q4 : (n.toList == [66, 67, 67]) = false) (q5 : (n.toList == [66, 67, 83]) = false) (q6 : (n.toList == [66, 78, 69]) = true) :
    Calls Try.prog 22 #[.string n, .int .u8 p] w fun e W => e = .returned (.bool (p / 2 % 2 == 0)) ∧ w = W := by
  go_enter Try.func22, Try.ntmps22
  go_wp2_with fail
  refine (rhas_any _ p 2 hp (by simp [IsFlag])).mono ?_
  rintro _ _ ⟨rfl, rfl⟩
  have h2 : p / 2 % 2 = 0 ∨ p / 2 % 2 = 1 := by omega
  rcases h2 with h2 | h2 <;> (
    rw [h2]
    go_wp2_with fail
    go_ret
    exact ⟨by rw [h2]; rfl, rfl⟩)

set_option maxHeartbeats 1000000 in
theorem rtaken_BEQ (w : World) (n : ByteArray) (p : Int) (hp : Byte p) (q0 : (n.toList == [66, 80, 76]) = false) (q1 : (n.toList == [66, 77, 73]) = false) (q2 : (n.toList == [66, 86, 67]) = false) (q3 : (n.toList == [66, 86, 83]) = false) (q4 : (n.toList == [66, 67, 67]) = false) (q5 : (n.toList == [66, 67, 83]) = false) (q6 : (n.toList == [66, 78, 69]) = false) (q7 : (n.toList == [66, 69, 81]) = true) :
    Calls Try.prog 22 #[.string n, .int .u8 p] w fun e W => e = .returned (.bool (p / 2 % 2 == 1)) ∧ w = W := by
  go_enter Try.func22, Try.ntmps22
  go_wp2_with fail
  refine (rhas_any _ p 2 hp (by simp [IsFlag])).mono ?_
  rintro _ _ ⟨rfl, rfl⟩
  have h2 : p / 2 % 2 = 0 ∨ p / 2 % 2 = 1 := by omega
  rcases h2 with h2 | h2 <;> (
    rw [h2]
    go_wp2_with fail
    go_ret
    exact ⟨by rw [h2]; rfl, rfl⟩)

set_option maxHeartbeats 1000000 in
theorem rtaken_other (w : World) (n : ByteArray) (p : Int) (hp : Byte p) (q0 : (n.toList == [66, 80, 76]) = false) (q1 : (n.toList == [66, 77, 73]) = false) (q2 : (n.toList == [66, 86, 67]) = false) (q3 : (n.toList == [66, 86, 83]) = false) (q4 : (n.toList == [66, 67, 67]) = false) (q5 : (n.toList == [66, 67, 83]) = false) (q6 : (n.toList == [66, 78, 69]) = false) (q7 : (n.toList == [66, 69, 81]) = false) :
    Calls Try.prog 22 #[.string n, .int .u8 p] w fun e W => e = .returned (.bool (false)) ∧ w = W := by
  go_enter Try.func22, Try.ntmps22
  go_wp2_with fail
  go_ret
  exact ⟨rfl, rfl⟩

def rtakenM (n : List UInt8) (p : Int) : Bool :=
  if (n == [66, 80, 76]) = true then (p / 128 % 2 == 0) else
  if (n == [66, 77, 73]) = true then (p / 128 % 2 == 1) else
  if (n == [66, 86, 67]) = true then (p / 64 % 2 == 0) else
  if (n == [66, 86, 83]) = true then (p / 64 % 2 == 1) else
  if (n == [66, 67, 67]) = true then (p / 1 % 2 == 0) else
  if (n == [66, 67, 83]) = true then (p / 1 % 2 == 1) else
  if (n == [66, 78, 69]) = true then (p / 2 % 2 == 0) else
  if (n == [66, 69, 81]) = true then (p / 2 % 2 == 1) else
  false
theorem rtaken_any (w : World) (n : ByteArray) (p : Int) (hp : Byte p) :
    Calls Try.prog 22 #[.string n, .int .u8 p] w (fun e W => e = .returned (.bool (rtakenM n.toList p)) ∧ w = W) := by
  unfold rtakenM
  by_cases q0 : (n.toList == [66, 80, 76]) = true
  · rw [if_pos q0]
    exact rtaken_BPL w n p hp  q0
  rw [if_neg q0]
  have q0 : (n.toList == [66, 80, 76]) = false := by simpa using q0
  by_cases q1 : (n.toList == [66, 77, 73]) = true
  · rw [if_pos q1]
    exact rtaken_BMI w n p hp q0 q1
  rw [if_neg q1]
  have q1 : (n.toList == [66, 77, 73]) = false := by simpa using q1
  by_cases q2 : (n.toList == [66, 86, 67]) = true
  · rw [if_pos q2]
    exact rtaken_BVC w n p hp q0 q1 q2
  rw [if_neg q2]
  have q2 : (n.toList == [66, 86, 67]) = false := by simpa using q2
  by_cases q3 : (n.toList == [66, 86, 83]) = true
  · rw [if_pos q3]
    exact rtaken_BVS w n p hp q0 q1 q2 q3
  rw [if_neg q3]
  have q3 : (n.toList == [66, 86, 83]) = false := by simpa using q3
  by_cases q4 : (n.toList == [66, 67, 67]) = true
  · rw [if_pos q4]
    exact rtaken_BCC w n p hp q0 q1 q2 q3 q4
  rw [if_neg q4]
  have q4 : (n.toList == [66, 67, 67]) = false := by simpa using q4
  by_cases q5 : (n.toList == [66, 67, 83]) = true
  · rw [if_pos q5]
    exact rtaken_BCS w n p hp q0 q1 q2 q3 q4 q5
  rw [if_neg q5]
  have q5 : (n.toList == [66, 67, 83]) = false := by simpa using q5
  by_cases q6 : (n.toList == [66, 78, 69]) = true
  · rw [if_pos q6]
    exact rtaken_BNE w n p hp q0 q1 q2 q3 q4 q5 q6
  rw [if_neg q6]
  have q6 : (n.toList == [66, 78, 69]) = false := by simpa using q6
  by_cases q7 : (n.toList == [66, 69, 81]) = true
  · rw [if_pos q7]
    exact rtaken_BEQ w n p hp q0 q1 q2 q3 q4 q5 q6 q7
  rw [if_neg q7]
  have q7 : (n.toList == [66, 69, 81]) = false := by simpa using q7
  exact rtaken_other w n p hp q0 q1 q2 q3 q4 q5 q6 q7

theorem rtakenM_eq (n : List UInt8) (p : Int) : rtakenM n p = takenM n p := by
  unfold rtakenM takenM
  simp only [beq_iff_eq]
  repeat' split
  all_goals first | rfl | (simp_all; done)

end Go.Proofs.Ytmiihcaccejklaa
