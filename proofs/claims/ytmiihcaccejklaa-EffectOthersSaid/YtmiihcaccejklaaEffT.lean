/- PROVED: the contracts of effect.Taken, effect.Pushes, effect.Pulls and effect.shift. No conditions beyond those that each theorem states. -/
import Derived.Test.YtmiihcaccejklaaEffR3
import Derived.Laws.Rows
namespace Go.Proofs.Ytmiihcaccejklaa
open Go.RowKit Go.Proofs.YtmiihcaccejklaaLib
set_option linter.unusedSimpArgs false
set_option linter.unusedVariables false
attribute [local go_sem] run_makeMapObj findS

theorem look1b {P : Program} {T K E : TypeId} (hT : P.underlying T = some (.map K E)) (hK : P.underlying K = some .string) (z : Value) (hz : ∀ w : World, (zeroValue E).run P w = .ok z w) (w : World) (b : Nat) (kvs : List (List UInt8 × Value)) (o : Obj) (s : ByteArray) (hb : w.heap.size = b) :
    (Instr.lookup T (.map (some b)) (.string s) true).run P ((w.alloc (mapObj kvs)).alloc o) = .ok (.tuple #[(findS s.toList kvs).getD z, .bool (findS s.toList kvs).isSome]) ((w.alloc (mapObj kvs)).alloc o) :=
  (run_lookupObj hT hK z hz _ b kvs s (by subst hb; exact heap_alloc2_old _ _ _)).1
theorem tk0 {p : Int} (hp : Byte p) (f : Int) (hf : IsFlag f) : (p / f % 2 == 0) = (bits .and .u8 p f == 0) := by
  rw [and_flag f hf p hp.1 hp.2]
  have hf0 : f ≠ 0 := by rcases hf with h | h | h | h | h | h | h | h <;> omega
  have h2 : p / f % 2 = 0 ∨ p / f % 2 = 1 := by omega
  rcases h2 with h | h <;> simp [h, hf0]
theorem tk1 {p : Int} (hp : Byte p) (f : Int) (hf : IsFlag f) : (p / f % 2 == 1) = (bits .and .u8 p f != 0) := by
  rw [and_flag f hf p hp.1 hp.2]
  have hf0 : f ≠ 0 := by rcases hf with h | h | h | h | h | h | h | h <;> omega
  have h2 : p / f % 2 = 0 ∨ p / f % 2 = 1 := by omega
  rcases h2 with h | h <;> simp [h, hf0]
set_option maxRecDepth 100000 in
theorem and0 {p : Int} (hp : Byte p) : bits .and .u8 p 0 = 0 := byte_cases (P := fun p => bits .and .u8 p 0 = 0) (by decide) p hp.1 hp.2
set_option maxHeartbeats 1000000 in
theorem taken_BPL (w : World) (n : ByteArray) (p : Int) (hp : Byte p) (q0 : (n.toList == [66, 80, 76]) = true) :
    Calls Try.prog 12 #[.string n, .int .u8 p] w (Post w [] fun v W => v = .bool (bits .and .u8 p 128 == 0)) := by
  have Iu8 := Lib.hid (@run_insertObj Try.prog 42 9 5 Try.underlying42 Try.underlying9)
  have Ku8 := Lib.hid (@look1 Try.prog 42 9 5 Try.underlying42 Try.underlying9 (.int .u8 0) (fun _ => by kernel_rfl))
  have Lu8 := Lib.hid (@look2 Try.prog 42 9 5 Try.underlying42 Try.underlying9 (.int .u8 0) (fun _ => by kernel_rfl))
  have B8 := Lib.hid (@look1b Try.prog 42 9 5 Try.underlying42 Try.underlying9 (.int .u8 0) (fun _ => by kernel_rfl))
  go_enter Try.func12, Try.ntmps12
  go_wp2_with (first | (rw [B8.out]; rotate_left; simp; go_simp) | (rw [Iu8.out]; rotate_left; simp; simp [findS]; go_simp) | (rw [Ku8.out]; rotate_left; simp; go_simp) | (rw [Lu8.out]; rotate_left; simp; go_simp))
  go_returns
  exact ⟨_, rfl, by simp [go_sem], by repeat (first | with_reducible exact Kept.refl _ _ | with_reducible assumption | with_reducible apply Kept.alloc | with_reducible apply Kept.drew | with_reducible apply Kept.drewN | (with_reducible refine Kept.setCell ?_ (Or.inr (by simp <;> omega)) _))⟩

set_option maxHeartbeats 1000000 in
theorem taken_BVC (w : World) (n : ByteArray) (p : Int) (hp : Byte p) (q0 : (n.toList == [66, 80, 76]) = false) (q1 : (n.toList == [66, 86, 67]) = true) :
    Calls Try.prog 12 #[.string n, .int .u8 p] w (Post w [] fun v W => v = .bool (bits .and .u8 p 64 == 0)) := by
  have Iu8 := Lib.hid (@run_insertObj Try.prog 42 9 5 Try.underlying42 Try.underlying9)
  have Ku8 := Lib.hid (@look1 Try.prog 42 9 5 Try.underlying42 Try.underlying9 (.int .u8 0) (fun _ => by kernel_rfl))
  have Lu8 := Lib.hid (@look2 Try.prog 42 9 5 Try.underlying42 Try.underlying9 (.int .u8 0) (fun _ => by kernel_rfl))
  have B8 := Lib.hid (@look1b Try.prog 42 9 5 Try.underlying42 Try.underlying9 (.int .u8 0) (fun _ => by kernel_rfl))
  go_enter Try.func12, Try.ntmps12
  go_wp2_with (first | (rw [B8.out]; rotate_left; simp; go_simp) | (rw [Iu8.out]; rotate_left; simp; simp [findS]; go_simp) | (rw [Ku8.out]; rotate_left; simp; go_simp) | (rw [Lu8.out]; rotate_left; simp; go_simp))
  go_returns
  exact ⟨_, rfl, by simp [go_sem], by repeat (first | with_reducible exact Kept.refl _ _ | with_reducible assumption | with_reducible apply Kept.alloc | with_reducible apply Kept.drew | with_reducible apply Kept.drewN | (with_reducible refine Kept.setCell ?_ (Or.inr (by simp <;> omega)) _))⟩

set_option maxHeartbeats 1000000 in
theorem taken_BCC (w : World) (n : ByteArray) (p : Int) (hp : Byte p) (q0 : (n.toList == [66, 80, 76]) = false) (q1 : (n.toList == [66, 86, 67]) = false) (q2 : (n.toList == [66, 67, 67]) = true) :
    Calls Try.prog 12 #[.string n, .int .u8 p] w (Post w [] fun v W => v = .bool (bits .and .u8 p 1 == 0)) := by
  have Iu8 := Lib.hid (@run_insertObj Try.prog 42 9 5 Try.underlying42 Try.underlying9)
  have Ku8 := Lib.hid (@look1 Try.prog 42 9 5 Try.underlying42 Try.underlying9 (.int .u8 0) (fun _ => by kernel_rfl))
  have Lu8 := Lib.hid (@look2 Try.prog 42 9 5 Try.underlying42 Try.underlying9 (.int .u8 0) (fun _ => by kernel_rfl))
  have B8 := Lib.hid (@look1b Try.prog 42 9 5 Try.underlying42 Try.underlying9 (.int .u8 0) (fun _ => by kernel_rfl))
  go_enter Try.func12, Try.ntmps12
  go_wp2_with (first | (rw [B8.out]; rotate_left; simp; go_simp) | (rw [Iu8.out]; rotate_left; simp; simp [findS]; go_simp) | (rw [Ku8.out]; rotate_left; simp; go_simp) | (rw [Lu8.out]; rotate_left; simp; go_simp))
  go_returns
  exact ⟨_, rfl, by simp [go_sem], by repeat (first | with_reducible exact Kept.refl _ _ | with_reducible assumption | with_reducible apply Kept.alloc | with_reducible apply Kept.drew | with_reducible apply Kept.drewN | (with_reducible refine Kept.setCell ?_ (Or.inr (by simp <;> omega)) _))⟩

set_option maxHeartbeats 1000000 in
theorem taken_BNE (w : World) (n : ByteArray) (p : Int) (hp : Byte p) (q0 : (n.toList == [66, 80, 76]) = false) (q1 : (n.toList == [66, 86, 67]) = false) (q2 : (n.toList == [66, 67, 67]) = false) (q3 : (n.toList == [66, 78, 69]) = true) :
    Calls Try.prog 12 #[.string n, .int .u8 p] w (Post w [] fun v W => v = .bool (bits .and .u8 p 2 == 0)) := by
  have Iu8 := Lib.hid (@run_insertObj Try.prog 42 9 5 Try.underlying42 Try.underlying9)
  have Ku8 := Lib.hid (@look1 Try.prog 42 9 5 Try.underlying42 Try.underlying9 (.int .u8 0) (fun _ => by kernel_rfl))
  have Lu8 := Lib.hid (@look2 Try.prog 42 9 5 Try.underlying42 Try.underlying9 (.int .u8 0) (fun _ => by kernel_rfl))
  have B8 := Lib.hid (@look1b Try.prog 42 9 5 Try.underlying42 Try.underlying9 (.int .u8 0) (fun _ => by kernel_rfl))
  go_enter Try.func12, Try.ntmps12
  go_wp2_with (first | (rw [B8.out]; rotate_left; simp; go_simp) | (rw [Iu8.out]; rotate_left; simp; simp [findS]; go_simp) | (rw [Ku8.out]; rotate_left; simp; go_simp) | (rw [Lu8.out]; rotate_left; simp; go_simp))
  go_returns
  exact ⟨_, rfl, by simp [go_sem], by repeat (first | with_reducible exact Kept.refl _ _ | with_reducible assumption | with_reducible apply Kept.alloc | with_reducible apply Kept.drew | with_reducible apply Kept.drewN | (with_reducible refine Kept.setCell ?_ (Or.inr (by simp <;> omega)) _))⟩

set_option maxHeartbeats 1000000 in
theorem taken_BMI (w : World) (n : ByteArray) (p : Int) (hp : Byte p) (q0 : (n.toList == [66, 80, 76]) = false) (q1 : (n.toList == [66, 86, 67]) = false) (q2 : (n.toList == [66, 67, 67]) = false) (q3 : (n.toList == [66, 78, 69]) = false) (q4 : (n.toList == [66, 77, 73]) = true) :
    Calls Try.prog 12 #[.string n, .int .u8 p] w (Post w [] fun v W => v = .bool (bits .and .u8 p 128 != 0)) := by
  have Iu8 := Lib.hid (@run_insertObj Try.prog 42 9 5 Try.underlying42 Try.underlying9)
  have Ku8 := Lib.hid (@look1 Try.prog 42 9 5 Try.underlying42 Try.underlying9 (.int .u8 0) (fun _ => by kernel_rfl))
  have Lu8 := Lib.hid (@look2 Try.prog 42 9 5 Try.underlying42 Try.underlying9 (.int .u8 0) (fun _ => by kernel_rfl))
  have B8 := Lib.hid (@look1b Try.prog 42 9 5 Try.underlying42 Try.underlying9 (.int .u8 0) (fun _ => by kernel_rfl))
  go_enter Try.func12, Try.ntmps12
  go_wp2_with (first | (rw [B8.out]; rotate_left; simp; go_simp) | (rw [Iu8.out]; rotate_left; simp; simp [findS]; go_simp) | (rw [Ku8.out]; rotate_left; simp; go_simp) | (rw [Lu8.out]; rotate_left; simp; go_simp))
  go_returns
  exact ⟨_, rfl, by simp [go_sem], by repeat (first | with_reducible exact Kept.refl _ _ | with_reducible assumption | with_reducible apply Kept.alloc | with_reducible apply Kept.drew | with_reducible apply Kept.drewN | (with_reducible refine Kept.setCell ?_ (Or.inr (by simp <;> omega)) _))⟩

set_option maxHeartbeats 1000000 in
theorem taken_BVS (w : World) (n : ByteArray) (p : Int) (hp : Byte p) (q0 : (n.toList == [66, 80, 76]) = false) (q1 : (n.toList == [66, 86, 67]) = false) (q2 : (n.toList == [66, 67, 67]) = false) (q3 : (n.toList == [66, 78, 69]) = false) (q4 : (n.toList == [66, 77, 73]) = false) (q5 : (n.toList == [66, 86, 83]) = true) :
    Calls Try.prog 12 #[.string n, .int .u8 p] w (Post w [] fun v W => v = .bool (bits .and .u8 p 64 != 0)) := by
  have Iu8 := Lib.hid (@run_insertObj Try.prog 42 9 5 Try.underlying42 Try.underlying9)
  have Ku8 := Lib.hid (@look1 Try.prog 42 9 5 Try.underlying42 Try.underlying9 (.int .u8 0) (fun _ => by kernel_rfl))
  have Lu8 := Lib.hid (@look2 Try.prog 42 9 5 Try.underlying42 Try.underlying9 (.int .u8 0) (fun _ => by kernel_rfl))
  have B8 := Lib.hid (@look1b Try.prog 42 9 5 Try.underlying42 Try.underlying9 (.int .u8 0) (fun _ => by kernel_rfl))
  go_enter Try.func12, Try.ntmps12
  go_wp2_with (first | (rw [B8.out]; rotate_left; simp; go_simp) | (rw [Iu8.out]; rotate_left; simp; simp [findS]; go_simp) | (rw [Ku8.out]; rotate_left; simp; go_simp) | (rw [Lu8.out]; rotate_left; simp; go_simp))
  go_returns
  exact ⟨_, rfl, by simp [go_sem], by repeat (first | with_reducible exact Kept.refl _ _ | with_reducible assumption | with_reducible apply Kept.alloc | with_reducible apply Kept.drew | with_reducible apply Kept.drewN | (with_reducible refine Kept.setCell ?_ (Or.inr (by simp <;> omega)) _))⟩

set_option maxHeartbeats 1000000 in
theorem taken_BCS (w : World) (n : ByteArray) (p : Int) (hp : Byte p) (q0 : (n.toList == [66, 80, 76]) = false) (q1 : (n.toList == [66, 86, 67]) = false) (q2 : (n.toList == [66, 67, 67]) = false) (q3 : (n.toList == [66, 78, 69]) = false) (q4 : (n.toList == [66, 77, 73]) = false) (q5 : (n.toList == [66, 86, 83]) = false) (q6 : (n.toList == [66, 67, 83]) = true) :
    Calls Try.prog 12 #[.string n, .int .u8 p] w (Post w [] fun v W => v = .bool (bits .and .u8 p 1 != 0)) := by
  have Iu8 := Lib.hid (@run_insertObj Try.prog 42 9 5 Try.underlying42 Try.underlying9)
  have Ku8 := Lib.hid (@look1 Try.prog 42 9 5 Try.underlying42 Try.underlying9 (.int .u8 0) (fun _ => by kernel_rfl))
  have Lu8 := Lib.hid (@look2 Try.prog 42 9 5 Try.underlying42 Try.underlying9 (.int .u8 0) (fun _ => by kernel_rfl))
  have B8 := Lib.hid (@look1b Try.prog 42 9 5 Try.underlying42 Try.underlying9 (.int .u8 0) (fun _ => by kernel_rfl))
  go_enter Try.func12, Try.ntmps12
  go_wp2_with (first | (rw [B8.out]; rotate_left; simp; go_simp) | (rw [Iu8.out]; rotate_left; simp; simp [findS]; go_simp) | (rw [Ku8.out]; rotate_left; simp; go_simp) | (rw [Lu8.out]; rotate_left; simp; go_simp))
  go_returns
  exact ⟨_, rfl, by simp [go_sem], by repeat (first | with_reducible exact Kept.refl _ _ | with_reducible assumption | with_reducible apply Kept.alloc | with_reducible apply Kept.drew | with_reducible apply Kept.drewN | (with_reducible refine Kept.setCell ?_ (Or.inr (by simp <;> omega)) _))⟩

set_option maxHeartbeats 1000000 in
theorem taken_BEQ (w : World) (n : ByteArray) (p : Int) (hp : Byte p) (q0 : (n.toList == [66, 80, 76]) = false) (q1 : (n.toList == [66, 86, 67]) = false) (q2 : (n.toList == [66, 67, 67]) = false) (q3 : (n.toList == [66, 78, 69]) = false) (q4 : (n.toList == [66, 77, 73]) = false) (q5 : (n.toList == [66, 86, 83]) = false) (q6 : (n.toList == [66, 67, 83]) = false) (q7 : (n.toList == [66, 69, 81]) = true) :
    Calls Try.prog 12 #[.string n, .int .u8 p] w (Post w [] fun v W => v = .bool (bits .and .u8 p 2 != 0)) := by
  have Iu8 := Lib.hid (@run_insertObj Try.prog 42 9 5 Try.underlying42 Try.underlying9)
  have Ku8 := Lib.hid (@look1 Try.prog 42 9 5 Try.underlying42 Try.underlying9 (.int .u8 0) (fun _ => by kernel_rfl))
  have Lu8 := Lib.hid (@look2 Try.prog 42 9 5 Try.underlying42 Try.underlying9 (.int .u8 0) (fun _ => by kernel_rfl))
  have B8 := Lib.hid (@look1b Try.prog 42 9 5 Try.underlying42 Try.underlying9 (.int .u8 0) (fun _ => by kernel_rfl))
  go_enter Try.func12, Try.ntmps12
  go_wp2_with (first | (rw [B8.out]; rotate_left; simp; go_simp) | (rw [Iu8.out]; rotate_left; simp; simp [findS]; go_simp) | (rw [Ku8.out]; rotate_left; simp; go_simp) | (rw [Lu8.out]; rotate_left; simp; go_simp))
  go_returns
  exact ⟨_, rfl, by simp [go_sem], by repeat (first | with_reducible exact Kept.refl _ _ | with_reducible assumption | with_reducible apply Kept.alloc | with_reducible apply Kept.drew | with_reducible apply Kept.drewN | (with_reducible refine Kept.setCell ?_ (Or.inr (by simp <;> omega)) _))⟩

set_option maxHeartbeats 1000000 in
theorem taken_other (w : World) (n : ByteArray) (p : Int) (hp : Byte p) (q0 : (n.toList == [66, 80, 76]) = false) (q1 : (n.toList == [66, 86, 67]) = false) (q2 : (n.toList == [66, 67, 67]) = false) (q3 : (n.toList == [66, 78, 69]) = false) (q4 : (n.toList == [66, 77, 73]) = false) (q5 : (n.toList == [66, 86, 83]) = false) (q6 : (n.toList == [66, 67, 83]) = false) (q7 : (n.toList == [66, 69, 81]) = false) :
    Calls Try.prog 12 #[.string n, .int .u8 p] w (Post w [] fun v W => v = .bool false) := by
  have Iu8 := Lib.hid (@run_insertObj Try.prog 42 9 5 Try.underlying42 Try.underlying9)
  have Ku8 := Lib.hid (@look1 Try.prog 42 9 5 Try.underlying42 Try.underlying9 (.int .u8 0) (fun _ => by kernel_rfl))
  have Lu8 := Lib.hid (@look2 Try.prog 42 9 5 Try.underlying42 Try.underlying9 (.int .u8 0) (fun _ => by kernel_rfl))
  have B8 := Lib.hid (@look1b Try.prog 42 9 5 Try.underlying42 Try.underlying9 (.int .u8 0) (fun _ => by kernel_rfl))
  go_enter Try.func12, Try.ntmps12
  go_wp2_with (first | (rw [B8.out]; rotate_left; simp; go_simp) | (rw [Iu8.out]; rotate_left; simp; simp [findS]; go_simp) | (rw [Ku8.out]; rotate_left; simp; go_simp) | (rw [Lu8.out]; rotate_left; simp; go_simp))
  go_returns
  exact ⟨_, rfl, by simp [go_sem]; exact and0 hp, by repeat (first | with_reducible exact Kept.refl _ _ | with_reducible assumption | with_reducible apply Kept.alloc | with_reducible apply Kept.drew | with_reducible apply Kept.drewN | (with_reducible refine Kept.setCell ?_ (Or.inr (by simp <;> omega)) _))⟩

def takenM (n : List UInt8) (p : Int) : Bool :=
  if (n == [66, 80, 76]) = true then (p / 128 % 2 == 0) else
  if (n == [66, 86, 67]) = true then (p / 64 % 2 == 0) else
  if (n == [66, 67, 67]) = true then (p / 1 % 2 == 0) else
  if (n == [66, 78, 69]) = true then (p / 2 % 2 == 0) else
  if (n == [66, 77, 73]) = true then (p / 128 % 2 == 1) else
  if (n == [66, 86, 83]) = true then (p / 64 % 2 == 1) else
  if (n == [66, 67, 83]) = true then (p / 1 % 2 == 1) else
  if (n == [66, 69, 81]) = true then (p / 2 % 2 == 1) else
  false
theorem taken_any (w : World) (n : ByteArray) (p : Int) (hp : Byte p) :
    Calls Try.prog 12 #[.string n, .int .u8 p] w (Post w [] fun v W => v = .bool (takenM n.toList p)) := by
  unfold takenM
  by_cases q0 : (n.toList == [66, 80, 76]) = true
  · rw [if_pos q0, tk0 hp 128 (by simp [IsFlag])]
    exact taken_BPL w n p hp  q0
  rw [if_neg q0]
  have q0 : (n.toList == [66, 80, 76]) = false := by simpa using q0
  by_cases q1 : (n.toList == [66, 86, 67]) = true
  · rw [if_pos q1, tk0 hp 64 (by simp [IsFlag])]
    exact taken_BVC w n p hp q0 q1
  rw [if_neg q1]
  have q1 : (n.toList == [66, 86, 67]) = false := by simpa using q1
  by_cases q2 : (n.toList == [66, 67, 67]) = true
  · rw [if_pos q2, tk0 hp 1 (by simp [IsFlag])]
    exact taken_BCC w n p hp q0 q1 q2
  rw [if_neg q2]
  have q2 : (n.toList == [66, 67, 67]) = false := by simpa using q2
  by_cases q3 : (n.toList == [66, 78, 69]) = true
  · rw [if_pos q3, tk0 hp 2 (by simp [IsFlag])]
    exact taken_BNE w n p hp q0 q1 q2 q3
  rw [if_neg q3]
  have q3 : (n.toList == [66, 78, 69]) = false := by simpa using q3
  by_cases q4 : (n.toList == [66, 77, 73]) = true
  · rw [if_pos q4, tk1 hp 128 (by simp [IsFlag])]
    exact taken_BMI w n p hp q0 q1 q2 q3 q4
  rw [if_neg q4]
  have q4 : (n.toList == [66, 77, 73]) = false := by simpa using q4
  by_cases q5 : (n.toList == [66, 86, 83]) = true
  · rw [if_pos q5, tk1 hp 64 (by simp [IsFlag])]
    exact taken_BVS w n p hp q0 q1 q2 q3 q4 q5
  rw [if_neg q5]
  have q5 : (n.toList == [66, 86, 83]) = false := by simpa using q5
  by_cases q6 : (n.toList == [66, 67, 83]) = true
  · rw [if_pos q6, tk1 hp 1 (by simp [IsFlag])]
    exact taken_BCS w n p hp q0 q1 q2 q3 q4 q5 q6
  rw [if_neg q6]
  have q6 : (n.toList == [66, 67, 83]) = false := by simpa using q6
  by_cases q7 : (n.toList == [66, 69, 81]) = true
  · rw [if_pos q7, tk1 hp 2 (by simp [IsFlag])]
    exact taken_BEQ w n p hp q0 q1 q2 q3 q4 q5 q6 q7
  rw [if_neg q7]
  have q7 : (n.toList == [66, 69, 81]) = false := by simpa using q7
  exact taken_other w n p hp q0 q1 q2 q3 q4 q5 q6 q7

theorem pushes_PHA (w : World) (n : ByteArray) (r : Regs) (hr : r.Ok) (q0 : (n.toList == [80, 72, 65]) = true) :
    Calls Try.prog 18 #[.string n, r.val] w (Post w [] fun v W => v = .int .u8 (r.a)) := by
  obtain ⟨a, x, y, s, p, pc⟩ := r
  obtain ⟨ha, hx, hy, hs, hp, hpc⟩ := hr
  unfold Regs.val
  go_enter Try.func18, Try.ntmps18
  go_wp2_with fail
  go_returns
  exact ⟨_, rfl, rfl, by repeat (first | with_reducible exact Kept.refl _ _ | with_reducible assumption | with_reducible apply Kept.alloc | with_reducible apply Kept.drew | with_reducible apply Kept.drewN | (with_reducible refine Kept.setCell ?_ (Or.inr (by simp <;> omega)) _))⟩

theorem pushes_PHP (w : World) (n : ByteArray) (r : Regs) (hr : r.Ok) (q0 : (n.toList == [80, 72, 65]) = false) (q1 : (n.toList == [80, 72, 80]) = true) :
    Calls Try.prog 18 #[.string n, r.val] w (Post w [] fun v W => v = .int .u8 (setF (setF r.p 16 true) 32 true)) := by
  obtain ⟨a, x, y, s, p, pc⟩ := r
  obtain ⟨ha, hx, hy, hs, hp, hpc⟩ := hr
  unfold Regs.val
  have e1 := or_flag 16 (by simp [IsFlag]) p hp.1 hp.2
  have e2 := or_flag 32 (by simp [IsFlag]) _ (setF_b (b := true) (f := 16) (by simp [IsFlag]) hp).1 (setF_b (by simp [IsFlag]) hp).2
  go_enter Try.func18, Try.ntmps18
  go_wp2_with fail
  go_returns
  exact ⟨_, rfl, rfl, by repeat (first | with_reducible exact Kept.refl _ _ | with_reducible assumption | with_reducible apply Kept.alloc | with_reducible apply Kept.drew | with_reducible apply Kept.drewN | (with_reducible refine Kept.setCell ?_ (Or.inr (by simp <;> omega)) _))⟩

theorem pushes_other (w : World) (n : ByteArray) (r : Regs) (hr : r.Ok) (q0 : (n.toList == [80, 72, 65]) = false) (q1 : (n.toList == [80, 72, 80]) = false) :
    Calls Try.prog 18 #[.string n, r.val] w (Post w [] fun v W => v = .int .u8 (0)) := by
  obtain ⟨a, x, y, s, p, pc⟩ := r
  obtain ⟨ha, hx, hy, hs, hp, hpc⟩ := hr
  unfold Regs.val
  go_enter Try.func18, Try.ntmps18
  go_wp2_with fail
  go_returns
  exact ⟨_, rfl, rfl, by repeat (first | with_reducible exact Kept.refl _ _ | with_reducible assumption | with_reducible apply Kept.alloc | with_reducible apply Kept.drew | with_reducible apply Kept.drewN | (with_reducible refine Kept.setCell ?_ (Or.inr (by simp <;> omega)) _))⟩

def pushesM (n : List UInt8) (r : Regs) : Int :=
  if (n == [80, 72, 65]) = true then r.a else
  if (n == [80, 72, 80]) = true then setF (setF r.p 16 true) 32 true else
  0
theorem pushes_any (w : World) (n : ByteArray) (r : Regs) (hr : r.Ok) :
    Calls Try.prog 18 #[.string n, r.val] w (Post w [] fun v W => v = .int .u8 (pushesM n.toList r)) := by
  unfold pushesM
  by_cases q0 : (n.toList == [80, 72, 65]) = true
  · rw [if_pos q0]
    exact pushes_PHA w n r hr  q0
  rw [if_neg q0]
  have q0 : (n.toList == [80, 72, 65]) = false := by simpa using q0
  by_cases q1 : (n.toList == [80, 72, 80]) = true
  · rw [if_pos q1]
    exact pushes_PHP w n r hr q0 q1
  rw [if_neg q1]
  have q1 : (n.toList == [80, 72, 80]) = false := by simpa using q1
  exact pushes_other w n r hr q0 q1

theorem pulls_PLA (w : World) (n : ByteArray) (r : Regs) (m : Int) (hr : r.Ok) (hm : Byte m) (q0 : (n.toList == [80, 76, 65]) = true) :
    Calls Try.prog 20 #[.string n, r.val, .int .u8 m] w (Post w [] fun v W => v = ({ r with a := m, p := nzM r.p m } : Regs).val) := by
  obtain ⟨a, x, y, s, p, pc⟩ := r
  obtain ⟨ha, hx, hy, hs, hp, hpc⟩ := hr
  unfold Regs.val
  go_enter Try.func20, Try.ntmps20
  go_wp2_with fail
  refine (set_any _ _ _ _ _ _ (((Blk.new w 29 [.int .u8 a, .int .u8 x, .int .u8 y, .int .u8 s, .int .u8 p, .int .u16 pc]).alloc _).cell 0 rfl) (((Blk.new w 29 [.int .u8 a, .int .u8 x, .int .u8 y, .int .u8 s, .int .u8 p, .int .u16 pc]).alloc _).cell 4 rfl) (((Blk.new w 29 [.int .u8 a, .int .u8 x, .int .u8 y, .int .u8 s, .int .u8 p, .int .u16 pc]).alloc _).free 0) (((Blk.new w 29 [.int .u8 a, .int .u8 x, .int .u8 y, .int .u8 s, .int .u8 p, .int .u16 pc]).alloc _).free 4) (by simp) hp.1 hp.2).mono ?_
  rintro _ _ ⟨rfl, rfl⟩
  go_wp2_with fail
  go_returns
  exact ⟨_, rfl, rfl, by repeat (first | with_reducible exact Kept.refl _ _ | with_reducible assumption | with_reducible apply Kept.alloc | with_reducible apply Kept.drew | with_reducible apply Kept.drewN | (with_reducible refine Kept.setCell ?_ (Or.inr (by simp <;> omega)) _))⟩

theorem pulls_PLP (w : World) (n : ByteArray) (r : Regs) (m : Int) (hr : r.Ok) (hm : Byte m) (q0 : (n.toList == [80, 76, 65]) = false) (q1 : (n.toList == [80, 76, 80]) = true) :
    Calls Try.prog 20 #[.string n, r.val, .int .u8 m] w (Post w [] fun v W => v = ({ r with p := setF (setF m 16 false) 32 true } : Regs).val) := by
  obtain ⟨a, x, y, s, p, pc⟩ := r
  obtain ⟨ha, hx, hy, hs, hp, hpc⟩ := hr
  unfold Regs.val
  have e1 := andNot_flag 16 (by simp [IsFlag]) m hm.1 hm.2
  have e2 := or_flag 32 (by simp [IsFlag]) _ (setF_b (b := false) (f := 16) (by simp [IsFlag]) hm).1 (setF_b (by simp [IsFlag]) hm).2
  go_enter Try.func20, Try.ntmps20
  go_wp2_with fail
  go_returns
  exact ⟨_, rfl, rfl, by repeat (first | with_reducible exact Kept.refl _ _ | with_reducible assumption | with_reducible apply Kept.alloc | with_reducible apply Kept.drew | with_reducible apply Kept.drewN | (with_reducible refine Kept.setCell ?_ (Or.inr (by simp <;> omega)) _))⟩

theorem pulls_other (w : World) (n : ByteArray) (r : Regs) (m : Int) (hr : r.Ok) (hm : Byte m) (q0 : (n.toList == [80, 76, 65]) = false) (q1 : (n.toList == [80, 76, 80]) = false) :
    Calls Try.prog 20 #[.string n, r.val, .int .u8 m] w (Post w [] fun v W => v = (r : Regs).val) := by
  obtain ⟨a, x, y, s, p, pc⟩ := r
  obtain ⟨ha, hx, hy, hs, hp, hpc⟩ := hr
  unfold Regs.val
  go_enter Try.func20, Try.ntmps20
  go_wp2_with fail
  go_returns
  exact ⟨_, rfl, rfl, by repeat (first | with_reducible exact Kept.refl _ _ | with_reducible assumption | with_reducible apply Kept.alloc | with_reducible apply Kept.drew | with_reducible apply Kept.drewN | (with_reducible refine Kept.setCell ?_ (Or.inr (by simp <;> omega)) _))⟩

def pullsM (n : List UInt8) (r : Regs) (m : Int) : Regs :=
  if (n == [80, 76, 65]) = true then { r with a := m, p := nzM r.p m } else
  if (n == [80, 76, 80]) = true then { r with p := setF (setF m 16 false) 32 true } else
  r
theorem pulls_any (w : World) (n : ByteArray) (r : Regs) (m : Int) (hr : r.Ok) (hm : Byte m) :
    Calls Try.prog 20 #[.string n, r.val, .int .u8 m] w (Post w [] fun v W => v = (pullsM n.toList r m).val) := by
  unfold pullsM
  by_cases q0 : (n.toList == [80, 76, 65]) = true
  · rw [if_pos q0]
    exact pulls_PLA w n r m hr hm  q0
  rw [if_neg q0]
  have q0 : (n.toList == [80, 76, 65]) = false := by simpa using q0
  by_cases q1 : (n.toList == [80, 76, 80]) = true
  · rw [if_pos q1]
    exact pulls_PLP w n r m hr hm q0 q1
  rw [if_neg q1]
  have q1 : (n.toList == [80, 76, 80]) = false := by simpa using q1
  exact pulls_other w n r m hr hm q0 q1

set_option maxHeartbeats 1000000 in
theorem shift_ASL (w : World) (n : ByteArray) (q0 : (n.toList == [65, 83, 76]) = true) :
    Calls Try.prog 28 #[.string n] w (Post w [] fun v W => v = .func (.func 53) #[] #[]) := by
  have If2 := Lib.hid (@run_insertObj Try.prog 60 9 47 Try.underlying60 Try.underlying9)
  have Kf2 := Lib.hid (@look1 Try.prog 60 9 47 Try.underlying60 Try.underlying9 .nilFunc (fun _ => by kernel_rfl))
  have Lf2 := Lib.hid (@look2 Try.prog 60 9 47 Try.underlying60 Try.underlying9 .nilFunc (fun _ => by kernel_rfl))
  have Nf2 := @run_neq_func Try.prog 47 _ _ _ Try.underlying47
  have Mf2 := @run_neq_nilFunc Try.prog 47 _ _ _ Try.underlying47
  go_enter Try.func28, Try.ntmps28
  go_wp2_with (first | (rw [If2.out]; rotate_left; simp; simp [findS]; go_simp) | (rw [Kf2.out]; rotate_left; simp; go_simp) | (rw [Lf2.out]; rotate_left; simp; go_simp))
  go_returns
  exact ⟨_, rfl, rfl, by repeat (first | with_reducible exact Kept.refl _ _ | with_reducible assumption | with_reducible apply Kept.alloc | with_reducible apply Kept.drew | with_reducible apply Kept.drewN | (with_reducible refine Kept.setCell ?_ (Or.inr (by simp <;> omega)) _))⟩

set_option maxHeartbeats 1000000 in
theorem shift_LSR (w : World) (n : ByteArray) (q0 : (n.toList == [65, 83, 76]) = false) (q1 : (n.toList == [76, 83, 82]) = true) :
    Calls Try.prog 28 #[.string n] w (Post w [] fun v W => v = .func (.func 54) #[] #[]) := by
  have If2 := Lib.hid (@run_insertObj Try.prog 60 9 47 Try.underlying60 Try.underlying9)
  have Kf2 := Lib.hid (@look1 Try.prog 60 9 47 Try.underlying60 Try.underlying9 .nilFunc (fun _ => by kernel_rfl))
  have Lf2 := Lib.hid (@look2 Try.prog 60 9 47 Try.underlying60 Try.underlying9 .nilFunc (fun _ => by kernel_rfl))
  have Nf2 := @run_neq_func Try.prog 47 _ _ _ Try.underlying47
  have Mf2 := @run_neq_nilFunc Try.prog 47 _ _ _ Try.underlying47
  go_enter Try.func28, Try.ntmps28
  go_wp2_with (first | (rw [If2.out]; rotate_left; simp; simp [findS]; go_simp) | (rw [Kf2.out]; rotate_left; simp; go_simp) | (rw [Lf2.out]; rotate_left; simp; go_simp))
  go_returns
  exact ⟨_, rfl, rfl, by repeat (first | with_reducible exact Kept.refl _ _ | with_reducible assumption | with_reducible apply Kept.alloc | with_reducible apply Kept.drew | with_reducible apply Kept.drewN | (with_reducible refine Kept.setCell ?_ (Or.inr (by simp <;> omega)) _))⟩

set_option maxHeartbeats 1000000 in
theorem shift_ROL (w : World) (n : ByteArray) (q0 : (n.toList == [65, 83, 76]) = false) (q1 : (n.toList == [76, 83, 82]) = false) (q2 : (n.toList == [82, 79, 76]) = true) :
    Calls Try.prog 28 #[.string n] w (Post w [] fun v W => v = .func (.func 55) #[] #[]) := by
  have If2 := Lib.hid (@run_insertObj Try.prog 60 9 47 Try.underlying60 Try.underlying9)
  have Kf2 := Lib.hid (@look1 Try.prog 60 9 47 Try.underlying60 Try.underlying9 .nilFunc (fun _ => by kernel_rfl))
  have Lf2 := Lib.hid (@look2 Try.prog 60 9 47 Try.underlying60 Try.underlying9 .nilFunc (fun _ => by kernel_rfl))
  have Nf2 := @run_neq_func Try.prog 47 _ _ _ Try.underlying47
  have Mf2 := @run_neq_nilFunc Try.prog 47 _ _ _ Try.underlying47
  go_enter Try.func28, Try.ntmps28
  go_wp2_with (first | (rw [If2.out]; rotate_left; simp; simp [findS]; go_simp) | (rw [Kf2.out]; rotate_left; simp; go_simp) | (rw [Lf2.out]; rotate_left; simp; go_simp))
  go_returns
  exact ⟨_, rfl, rfl, by repeat (first | with_reducible exact Kept.refl _ _ | with_reducible assumption | with_reducible apply Kept.alloc | with_reducible apply Kept.drew | with_reducible apply Kept.drewN | (with_reducible refine Kept.setCell ?_ (Or.inr (by simp <;> omega)) _))⟩

set_option maxHeartbeats 1000000 in
theorem shift_ROR (w : World) (n : ByteArray) (q0 : (n.toList == [65, 83, 76]) = false) (q1 : (n.toList == [76, 83, 82]) = false) (q2 : (n.toList == [82, 79, 76]) = false) (q3 : (n.toList == [82, 79, 82]) = true) :
    Calls Try.prog 28 #[.string n] w (Post w [] fun v W => v = .func (.func 56) #[] #[]) := by
  have If2 := Lib.hid (@run_insertObj Try.prog 60 9 47 Try.underlying60 Try.underlying9)
  have Kf2 := Lib.hid (@look1 Try.prog 60 9 47 Try.underlying60 Try.underlying9 .nilFunc (fun _ => by kernel_rfl))
  have Lf2 := Lib.hid (@look2 Try.prog 60 9 47 Try.underlying60 Try.underlying9 .nilFunc (fun _ => by kernel_rfl))
  have Nf2 := @run_neq_func Try.prog 47 _ _ _ Try.underlying47
  have Mf2 := @run_neq_nilFunc Try.prog 47 _ _ _ Try.underlying47
  go_enter Try.func28, Try.ntmps28
  go_wp2_with (first | (rw [If2.out]; rotate_left; simp; simp [findS]; go_simp) | (rw [Kf2.out]; rotate_left; simp; go_simp) | (rw [Lf2.out]; rotate_left; simp; go_simp))
  go_returns
  exact ⟨_, rfl, rfl, by repeat (first | with_reducible exact Kept.refl _ _ | with_reducible assumption | with_reducible apply Kept.alloc | with_reducible apply Kept.drew | with_reducible apply Kept.drewN | (with_reducible refine Kept.setCell ?_ (Or.inr (by simp <;> omega)) _))⟩

set_option maxHeartbeats 1000000 in
theorem shift_other (w : World) (n : ByteArray) (q0 : (n.toList == [65, 83, 76]) = false) (q1 : (n.toList == [76, 83, 82]) = false) (q2 : (n.toList == [82, 79, 76]) = false) (q3 : (n.toList == [82, 79, 82]) = false) :
    Calls Try.prog 28 #[.string n] w (Post w [] fun v W => v = .nilFunc) := by
  have If2 := Lib.hid (@run_insertObj Try.prog 60 9 47 Try.underlying60 Try.underlying9)
  have Kf2 := Lib.hid (@look1 Try.prog 60 9 47 Try.underlying60 Try.underlying9 .nilFunc (fun _ => by kernel_rfl))
  have Lf2 := Lib.hid (@look2 Try.prog 60 9 47 Try.underlying60 Try.underlying9 .nilFunc (fun _ => by kernel_rfl))
  have Nf2 := @run_neq_func Try.prog 47 _ _ _ Try.underlying47
  have Mf2 := @run_neq_nilFunc Try.prog 47 _ _ _ Try.underlying47
  go_enter Try.func28, Try.ntmps28
  go_wp2_with (first | (rw [If2.out]; rotate_left; simp; simp [findS]; go_simp) | (rw [Kf2.out]; rotate_left; simp; go_simp) | (rw [Lf2.out]; rotate_left; simp; go_simp))
  go_returns
  exact ⟨_, rfl, rfl, by repeat (first | with_reducible exact Kept.refl _ _ | with_reducible assumption | with_reducible apply Kept.alloc | with_reducible apply Kept.drew | with_reducible apply Kept.drewN | (with_reducible refine Kept.setCell ?_ (Or.inr (by simp <;> omega)) _))⟩

end Go.Proofs.Ytmiihcaccejklaa
