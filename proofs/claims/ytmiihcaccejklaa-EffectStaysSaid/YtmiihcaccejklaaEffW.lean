/- PROVED: the contract of effect.Writes. No conditions beyond those that each theorem states. -/
import Derived.Test.YtmiihcaccejklaaEffT
namespace Go.Proofs.Ytmiihcaccejklaa
open Go.RowKit Go.Proofs.YtmiihcaccejklaaLib
set_option linter.unusedSimpArgs false
set_option linter.unusedVariables false
attribute [local go_sem] run_makeMapObj findS

theorem look2d {P : Program} {T K E : TypeId} (hT : P.underlying T = some (.map K E)) (hK : P.underlying K = some .string) (z : Value) (hz : ∀ w : World, (zeroValue E).run P w = .ok z w) (w : World) (b : Nat) (kvs : List (List UInt8 × Value)) (s : ByteArray) (hb : w.heap.size = b) :
    (Instr.lookup T (.map (some b)) (.string s) false).run P (w.alloc (mapObj kvs)).drew = .ok ((findS s.toList kvs).getD z) (w.alloc (mapObj kvs)).drew :=
  (run_lookupObj hT hK z hz _ b kvs s (by subst hb; show (w.heap.push _)[w.heap.size]? = _; simp)).2

set_option maxHeartbeats 1000000 in
theorem writes_TAS (w : World) (n : ByteArray) (r : Regs) (h : Int) (hr : r.Ok) (hh : Byte h) (q0 : (n.toList == [84, 65, 83]) = true) :
    Calls Try.prog 16 #[.string n, r.val, .int .u8 h] w (Post w [] fun v W => v = .tuple #[(({ r with s := (bits .and .u8 r.a r.x) }, bits .and .u8 (bits .and .u8 r.a r.x) ((h + 1) % 256)) : Regs × Int).1.val, .int .u8 (({ r with s := (bits .and .u8 r.a r.x) }, bits .and .u8 (bits .and .u8 r.a r.x) ((h + 1) % 256)) : Regs × Int).2]) := by
  obtain ⟨a, x, y, s, p, pc⟩ := r
  obtain ⟨ha, hx, hy, hs, hp, hpc⟩ := hr
  unfold Regs.val
  have Iu8 := Lib.hid (@run_insertObj Try.prog 42 9 5 Try.underlying42 Try.underlying9)
  have Ku8 := Lib.hid (@look1 Try.prog 42 9 5 Try.underlying42 Try.underlying9 (.int .u8 0) (fun _ => by kernel_rfl))
  have Lu8 := Lib.hid (@look2 Try.prog 42 9 5 Try.underlying42 Try.underlying9 (.int .u8 0) (fun _ => by kernel_rfl))
  go_enter Try.func16, Try.ntmps16
  go_wp2_with (first | (rw [Iu8.out]; rotate_left; simp; simp [findS]; go_simp) | (rw [Ku8.out]; rotate_left; simp; go_simp) | (rw [Lu8.out]; rotate_left; simp; go_simp))
  go_returns
  exact ⟨_, rfl, rfl, by repeat (first | with_reducible exact Kept.refl _ _ | with_reducible assumption | with_reducible apply Kept.alloc | with_reducible apply Kept.drew | with_reducible apply Kept.drewN | (with_reducible refine Kept.setCell ?_ (Or.inr (by simp <;> omega)) _))⟩

set_option maxHeartbeats 1000000 in
theorem writes_STA (w : World) (n : ByteArray) (r : Regs) (h : Int) (hr : r.Ok) (hh : Byte h) (q0 : (n.toList == [84, 65, 83]) = false) (q1 : (n.toList == [83, 84, 65]) = true) :
    Calls Try.prog 16 #[.string n, r.val, .int .u8 h] w (Post w [] fun v W => v = .tuple #[((r, r.a) : Regs × Int).1.val, .int .u8 ((r, r.a) : Regs × Int).2]) := by
  obtain ⟨a, x, y, s, p, pc⟩ := r
  obtain ⟨ha, hx, hy, hs, hp, hpc⟩ := hr
  unfold Regs.val
  have Iu8 := Lib.hid (@run_insertObj Try.prog 42 9 5 Try.underlying42 Try.underlying9)
  have Ku8 := Lib.hid (@look1 Try.prog 42 9 5 Try.underlying42 Try.underlying9 (.int .u8 0) (fun _ => by kernel_rfl))
  have Lu8 := Lib.hid (@look2 Try.prog 42 9 5 Try.underlying42 Try.underlying9 (.int .u8 0) (fun _ => by kernel_rfl))
  go_enter Try.func16, Try.ntmps16
  go_wp2_with (first | (rw [Iu8.out]; rotate_left; simp; simp [findS]; go_simp) | (rw [Ku8.out]; rotate_left; simp; go_simp) | (rw [Lu8.out]; rotate_left; simp; go_simp))
  have D8 := @look2d Try.prog 42 9 5 Try.underlying42 Try.underlying9 (.int .u8 0) (fun _ => by kernel_rfl)
  go_region
  go_wp2_with fail
  go_returns
  exact ⟨_, rfl, rfl, by repeat (first | with_reducible exact Kept.refl _ _ | with_reducible assumption | with_reducible apply Kept.alloc | with_reducible apply Kept.drew | with_reducible apply Kept.drewN | (with_reducible refine Kept.setCell ?_ (Or.inr (by simp <;> omega)) _))⟩

set_option maxHeartbeats 1000000 in
theorem writes_STX (w : World) (n : ByteArray) (r : Regs) (h : Int) (hr : r.Ok) (hh : Byte h) (q0 : (n.toList == [84, 65, 83]) = false) (q1 : (n.toList == [83, 84, 65]) = false) (q2 : (n.toList == [83, 84, 88]) = true) :
    Calls Try.prog 16 #[.string n, r.val, .int .u8 h] w (Post w [] fun v W => v = .tuple #[((r, r.x) : Regs × Int).1.val, .int .u8 ((r, r.x) : Regs × Int).2]) := by
  obtain ⟨a, x, y, s, p, pc⟩ := r
  obtain ⟨ha, hx, hy, hs, hp, hpc⟩ := hr
  unfold Regs.val
  have Iu8 := Lib.hid (@run_insertObj Try.prog 42 9 5 Try.underlying42 Try.underlying9)
  have Ku8 := Lib.hid (@look1 Try.prog 42 9 5 Try.underlying42 Try.underlying9 (.int .u8 0) (fun _ => by kernel_rfl))
  have Lu8 := Lib.hid (@look2 Try.prog 42 9 5 Try.underlying42 Try.underlying9 (.int .u8 0) (fun _ => by kernel_rfl))
  go_enter Try.func16, Try.ntmps16
  go_wp2_with (first | (rw [Iu8.out]; rotate_left; simp; simp [findS]; go_simp) | (rw [Ku8.out]; rotate_left; simp; go_simp) | (rw [Lu8.out]; rotate_left; simp; go_simp))
  have D8 := @look2d Try.prog 42 9 5 Try.underlying42 Try.underlying9 (.int .u8 0) (fun _ => by kernel_rfl)
  go_region
  go_wp2_with fail
  go_returns
  exact ⟨_, rfl, rfl, by repeat (first | with_reducible exact Kept.refl _ _ | with_reducible assumption | with_reducible apply Kept.alloc | with_reducible apply Kept.drew | with_reducible apply Kept.drewN | (with_reducible refine Kept.setCell ?_ (Or.inr (by simp <;> omega)) _))⟩

set_option maxHeartbeats 1000000 in
theorem writes_STY (w : World) (n : ByteArray) (r : Regs) (h : Int) (hr : r.Ok) (hh : Byte h) (q0 : (n.toList == [84, 65, 83]) = false) (q1 : (n.toList == [83, 84, 65]) = false) (q2 : (n.toList == [83, 84, 88]) = false) (q3 : (n.toList == [83, 84, 89]) = true) :
    Calls Try.prog 16 #[.string n, r.val, .int .u8 h] w (Post w [] fun v W => v = .tuple #[((r, r.y) : Regs × Int).1.val, .int .u8 ((r, r.y) : Regs × Int).2]) := by
  obtain ⟨a, x, y, s, p, pc⟩ := r
  obtain ⟨ha, hx, hy, hs, hp, hpc⟩ := hr
  unfold Regs.val
  have Iu8 := Lib.hid (@run_insertObj Try.prog 42 9 5 Try.underlying42 Try.underlying9)
  have Ku8 := Lib.hid (@look1 Try.prog 42 9 5 Try.underlying42 Try.underlying9 (.int .u8 0) (fun _ => by kernel_rfl))
  have Lu8 := Lib.hid (@look2 Try.prog 42 9 5 Try.underlying42 Try.underlying9 (.int .u8 0) (fun _ => by kernel_rfl))
  go_enter Try.func16, Try.ntmps16
  go_wp2_with (first | (rw [Iu8.out]; rotate_left; simp; simp [findS]; go_simp) | (rw [Ku8.out]; rotate_left; simp; go_simp) | (rw [Lu8.out]; rotate_left; simp; go_simp))
  have D8 := @look2d Try.prog 42 9 5 Try.underlying42 Try.underlying9 (.int .u8 0) (fun _ => by kernel_rfl)
  go_region
  go_wp2_with fail
  go_returns
  exact ⟨_, rfl, rfl, by repeat (first | with_reducible exact Kept.refl _ _ | with_reducible assumption | with_reducible apply Kept.alloc | with_reducible apply Kept.drew | with_reducible apply Kept.drewN | (with_reducible refine Kept.setCell ?_ (Or.inr (by simp <;> omega)) _))⟩

set_option maxHeartbeats 1000000 in
theorem writes_SAX (w : World) (n : ByteArray) (r : Regs) (h : Int) (hr : r.Ok) (hh : Byte h) (q0 : (n.toList == [84, 65, 83]) = false) (q1 : (n.toList == [83, 84, 65]) = false) (q2 : (n.toList == [83, 84, 88]) = false) (q3 : (n.toList == [83, 84, 89]) = false) (q4 : (n.toList == [83, 65, 88]) = true) :
    Calls Try.prog 16 #[.string n, r.val, .int .u8 h] w (Post w [] fun v W => v = .tuple #[((r, (bits .and .u8 r.a r.x)) : Regs × Int).1.val, .int .u8 ((r, (bits .and .u8 r.a r.x)) : Regs × Int).2]) := by
  obtain ⟨a, x, y, s, p, pc⟩ := r
  obtain ⟨ha, hx, hy, hs, hp, hpc⟩ := hr
  unfold Regs.val
  have Iu8 := Lib.hid (@run_insertObj Try.prog 42 9 5 Try.underlying42 Try.underlying9)
  have Ku8 := Lib.hid (@look1 Try.prog 42 9 5 Try.underlying42 Try.underlying9 (.int .u8 0) (fun _ => by kernel_rfl))
  have Lu8 := Lib.hid (@look2 Try.prog 42 9 5 Try.underlying42 Try.underlying9 (.int .u8 0) (fun _ => by kernel_rfl))
  go_enter Try.func16, Try.ntmps16
  go_wp2_with (first | (rw [Iu8.out]; rotate_left; simp; simp [findS]; go_simp) | (rw [Ku8.out]; rotate_left; simp; go_simp) | (rw [Lu8.out]; rotate_left; simp; go_simp))
  have D8 := @look2d Try.prog 42 9 5 Try.underlying42 Try.underlying9 (.int .u8 0) (fun _ => by kernel_rfl)
  go_region
  go_wp2_with fail
  go_returns
  exact ⟨_, rfl, rfl, by repeat (first | with_reducible exact Kept.refl _ _ | with_reducible assumption | with_reducible apply Kept.alloc | with_reducible apply Kept.drew | with_reducible apply Kept.drewN | (with_reducible refine Kept.setCell ?_ (Or.inr (by simp <;> omega)) _))⟩

set_option maxHeartbeats 1000000 in
theorem writes_SHA (w : World) (n : ByteArray) (r : Regs) (h : Int) (hr : r.Ok) (hh : Byte h) (q0 : (n.toList == [84, 65, 83]) = false) (q1 : (n.toList == [83, 84, 65]) = false) (q2 : (n.toList == [83, 84, 88]) = false) (q3 : (n.toList == [83, 84, 89]) = false) (q4 : (n.toList == [83, 65, 88]) = false) (q5 : (n.toList == [83, 72, 65]) = true) :
    Calls Try.prog 16 #[.string n, r.val, .int .u8 h] w (Post w [] fun v W => v = .tuple #[((r, bits .and .u8 (bits .and .u8 r.a r.x) ((h + 1) % 256)) : Regs × Int).1.val, .int .u8 ((r, bits .and .u8 (bits .and .u8 r.a r.x) ((h + 1) % 256)) : Regs × Int).2]) := by
  obtain ⟨a, x, y, s, p, pc⟩ := r
  obtain ⟨ha, hx, hy, hs, hp, hpc⟩ := hr
  unfold Regs.val
  have Iu8 := Lib.hid (@run_insertObj Try.prog 42 9 5 Try.underlying42 Try.underlying9)
  have Ku8 := Lib.hid (@look1 Try.prog 42 9 5 Try.underlying42 Try.underlying9 (.int .u8 0) (fun _ => by kernel_rfl))
  have Lu8 := Lib.hid (@look2 Try.prog 42 9 5 Try.underlying42 Try.underlying9 (.int .u8 0) (fun _ => by kernel_rfl))
  go_enter Try.func16, Try.ntmps16
  go_wp2_with (first | (rw [Iu8.out]; rotate_left; simp; simp [findS]; go_simp) | (rw [Ku8.out]; rotate_left; simp; go_simp) | (rw [Lu8.out]; rotate_left; simp; go_simp))
  have D8 := @look2d Try.prog 42 9 5 Try.underlying42 Try.underlying9 (.int .u8 0) (fun _ => by kernel_rfl)
  go_region
  go_wp2_with fail
  go_returns
  exact ⟨_, rfl, rfl, by repeat (first | with_reducible exact Kept.refl _ _ | with_reducible assumption | with_reducible apply Kept.alloc | with_reducible apply Kept.drew | with_reducible apply Kept.drewN | (with_reducible refine Kept.setCell ?_ (Or.inr (by simp <;> omega)) _))⟩

set_option maxHeartbeats 1000000 in
theorem writes_SHX (w : World) (n : ByteArray) (r : Regs) (h : Int) (hr : r.Ok) (hh : Byte h) (q0 : (n.toList == [84, 65, 83]) = false) (q1 : (n.toList == [83, 84, 65]) = false) (q2 : (n.toList == [83, 84, 88]) = false) (q3 : (n.toList == [83, 84, 89]) = false) (q4 : (n.toList == [83, 65, 88]) = false) (q5 : (n.toList == [83, 72, 65]) = false) (q6 : (n.toList == [83, 72, 88]) = true) :
    Calls Try.prog 16 #[.string n, r.val, .int .u8 h] w (Post w [] fun v W => v = .tuple #[((r, bits .and .u8 r.x ((h + 1) % 256)) : Regs × Int).1.val, .int .u8 ((r, bits .and .u8 r.x ((h + 1) % 256)) : Regs × Int).2]) := by
  obtain ⟨a, x, y, s, p, pc⟩ := r
  obtain ⟨ha, hx, hy, hs, hp, hpc⟩ := hr
  unfold Regs.val
  have Iu8 := Lib.hid (@run_insertObj Try.prog 42 9 5 Try.underlying42 Try.underlying9)
  have Ku8 := Lib.hid (@look1 Try.prog 42 9 5 Try.underlying42 Try.underlying9 (.int .u8 0) (fun _ => by kernel_rfl))
  have Lu8 := Lib.hid (@look2 Try.prog 42 9 5 Try.underlying42 Try.underlying9 (.int .u8 0) (fun _ => by kernel_rfl))
  go_enter Try.func16, Try.ntmps16
  go_wp2_with (first | (rw [Iu8.out]; rotate_left; simp; simp [findS]; go_simp) | (rw [Ku8.out]; rotate_left; simp; go_simp) | (rw [Lu8.out]; rotate_left; simp; go_simp))
  have D8 := @look2d Try.prog 42 9 5 Try.underlying42 Try.underlying9 (.int .u8 0) (fun _ => by kernel_rfl)
  go_region
  go_wp2_with fail
  go_returns
  exact ⟨_, rfl, rfl, by repeat (first | with_reducible exact Kept.refl _ _ | with_reducible assumption | with_reducible apply Kept.alloc | with_reducible apply Kept.drew | with_reducible apply Kept.drewN | (with_reducible refine Kept.setCell ?_ (Or.inr (by simp <;> omega)) _))⟩

set_option maxHeartbeats 1000000 in
theorem writes_SHY (w : World) (n : ByteArray) (r : Regs) (h : Int) (hr : r.Ok) (hh : Byte h) (q0 : (n.toList == [84, 65, 83]) = false) (q1 : (n.toList == [83, 84, 65]) = false) (q2 : (n.toList == [83, 84, 88]) = false) (q3 : (n.toList == [83, 84, 89]) = false) (q4 : (n.toList == [83, 65, 88]) = false) (q5 : (n.toList == [83, 72, 65]) = false) (q6 : (n.toList == [83, 72, 88]) = false) (q7 : (n.toList == [83, 72, 89]) = true) :
    Calls Try.prog 16 #[.string n, r.val, .int .u8 h] w (Post w [] fun v W => v = .tuple #[((r, bits .and .u8 r.y ((h + 1) % 256)) : Regs × Int).1.val, .int .u8 ((r, bits .and .u8 r.y ((h + 1) % 256)) : Regs × Int).2]) := by
  obtain ⟨a, x, y, s, p, pc⟩ := r
  obtain ⟨ha, hx, hy, hs, hp, hpc⟩ := hr
  unfold Regs.val
  have Iu8 := Lib.hid (@run_insertObj Try.prog 42 9 5 Try.underlying42 Try.underlying9)
  have Ku8 := Lib.hid (@look1 Try.prog 42 9 5 Try.underlying42 Try.underlying9 (.int .u8 0) (fun _ => by kernel_rfl))
  have Lu8 := Lib.hid (@look2 Try.prog 42 9 5 Try.underlying42 Try.underlying9 (.int .u8 0) (fun _ => by kernel_rfl))
  go_enter Try.func16, Try.ntmps16
  go_wp2_with (first | (rw [Iu8.out]; rotate_left; simp; simp [findS]; go_simp) | (rw [Ku8.out]; rotate_left; simp; go_simp) | (rw [Lu8.out]; rotate_left; simp; go_simp))
  have D8 := @look2d Try.prog 42 9 5 Try.underlying42 Try.underlying9 (.int .u8 0) (fun _ => by kernel_rfl)
  go_region
  go_wp2_with fail
  go_returns
  exact ⟨_, rfl, rfl, by repeat (first | with_reducible exact Kept.refl _ _ | with_reducible assumption | with_reducible apply Kept.alloc | with_reducible apply Kept.drew | with_reducible apply Kept.drewN | (with_reducible refine Kept.setCell ?_ (Or.inr (by simp <;> omega)) _))⟩

set_option maxHeartbeats 1000000 in
theorem writes_other (w : World) (n : ByteArray) (r : Regs) (h : Int) (hr : r.Ok) (hh : Byte h) (q0 : (n.toList == [84, 65, 83]) = false) (q1 : (n.toList == [83, 84, 65]) = false) (q2 : (n.toList == [83, 84, 88]) = false) (q3 : (n.toList == [83, 84, 89]) = false) (q4 : (n.toList == [83, 65, 88]) = false) (q5 : (n.toList == [83, 72, 65]) = false) (q6 : (n.toList == [83, 72, 88]) = false) (q7 : (n.toList == [83, 72, 89]) = false) :
    Calls Try.prog 16 #[.string n, r.val, .int .u8 h] w (Post w [] fun v W => v = .tuple #[((r, 0) : Regs × Int).1.val, .int .u8 ((r, 0) : Regs × Int).2]) := by
  obtain ⟨a, x, y, s, p, pc⟩ := r
  obtain ⟨ha, hx, hy, hs, hp, hpc⟩ := hr
  unfold Regs.val
  have Iu8 := Lib.hid (@run_insertObj Try.prog 42 9 5 Try.underlying42 Try.underlying9)
  have Ku8 := Lib.hid (@look1 Try.prog 42 9 5 Try.underlying42 Try.underlying9 (.int .u8 0) (fun _ => by kernel_rfl))
  have Lu8 := Lib.hid (@look2 Try.prog 42 9 5 Try.underlying42 Try.underlying9 (.int .u8 0) (fun _ => by kernel_rfl))
  go_enter Try.func16, Try.ntmps16
  go_wp2_with (first | (rw [Iu8.out]; rotate_left; simp; simp [findS]; go_simp) | (rw [Ku8.out]; rotate_left; simp; go_simp) | (rw [Lu8.out]; rotate_left; simp; go_simp))
  have D8 := @look2d Try.prog 42 9 5 Try.underlying42 Try.underlying9 (.int .u8 0) (fun _ => by kernel_rfl)
  go_region
  go_wp2_with fail
  go_returns
  exact ⟨_, rfl, rfl, by repeat (first | with_reducible exact Kept.refl _ _ | with_reducible assumption | with_reducible apply Kept.alloc | with_reducible apply Kept.drew | with_reducible apply Kept.drewN | (with_reducible refine Kept.setCell ?_ (Or.inr (by simp <;> omega)) _))⟩

def writesM (n : List UInt8) (r : Regs) (h : Int) : Regs × Int :=
  if (n == [84, 65, 83]) = true then ({ r with s := (bits .and .u8 r.a r.x) }, bits .and .u8 (bits .and .u8 r.a r.x) ((h + 1) % 256)) else
  if (n == [83, 84, 65]) = true then (r, r.a) else
  if (n == [83, 84, 88]) = true then (r, r.x) else
  if (n == [83, 84, 89]) = true then (r, r.y) else
  if (n == [83, 65, 88]) = true then (r, (bits .and .u8 r.a r.x)) else
  if (n == [83, 72, 65]) = true then (r, bits .and .u8 (bits .and .u8 r.a r.x) ((h + 1) % 256)) else
  if (n == [83, 72, 88]) = true then (r, bits .and .u8 r.x ((h + 1) % 256)) else
  if (n == [83, 72, 89]) = true then (r, bits .and .u8 r.y ((h + 1) % 256)) else
  (r, 0)
theorem writes_any (w : World) (n : ByteArray) (r : Regs) (h : Int) (hr : r.Ok) (hh : Byte h) :
    Calls Try.prog 16 #[.string n, r.val, .int .u8 h] w (Post w [] fun v W => v = .tuple #[(writesM n.toList r h).1.val, .int .u8 (writesM n.toList r h).2]) := by
  unfold writesM
  by_cases q0 : (n.toList == [84, 65, 83]) = true
  · rw [if_pos q0]
    exact writes_TAS w n r h hr hh  q0
  rw [if_neg q0]
  have q0 : (n.toList == [84, 65, 83]) = false := by simpa using q0
  by_cases q1 : (n.toList == [83, 84, 65]) = true
  · rw [if_pos q1]
    exact writes_STA w n r h hr hh q0 q1
  rw [if_neg q1]
  have q1 : (n.toList == [83, 84, 65]) = false := by simpa using q1
  by_cases q2 : (n.toList == [83, 84, 88]) = true
  · rw [if_pos q2]
    exact writes_STX w n r h hr hh q0 q1 q2
  rw [if_neg q2]
  have q2 : (n.toList == [83, 84, 88]) = false := by simpa using q2
  by_cases q3 : (n.toList == [83, 84, 89]) = true
  · rw [if_pos q3]
    exact writes_STY w n r h hr hh q0 q1 q2 q3
  rw [if_neg q3]
  have q3 : (n.toList == [83, 84, 89]) = false := by simpa using q3
  by_cases q4 : (n.toList == [83, 65, 88]) = true
  · rw [if_pos q4]
    exact writes_SAX w n r h hr hh q0 q1 q2 q3 q4
  rw [if_neg q4]
  have q4 : (n.toList == [83, 65, 88]) = false := by simpa using q4
  by_cases q5 : (n.toList == [83, 72, 65]) = true
  · rw [if_pos q5]
    exact writes_SHA w n r h hr hh q0 q1 q2 q3 q4 q5
  rw [if_neg q5]
  have q5 : (n.toList == [83, 72, 65]) = false := by simpa using q5
  by_cases q6 : (n.toList == [83, 72, 88]) = true
  · rw [if_pos q6]
    exact writes_SHX w n r h hr hh q0 q1 q2 q3 q4 q5 q6
  rw [if_neg q6]
  have q6 : (n.toList == [83, 72, 88]) = false := by simpa using q6
  by_cases q7 : (n.toList == [83, 72, 89]) = true
  · rw [if_pos q7]
    exact writes_SHY w n r h hr hh q0 q1 q2 q3 q4 q5 q6 q7
  rw [if_neg q7]
  have q7 : (n.toList == [83, 72, 89]) = false := by simpa using q7
  exact writes_other w n r h hr hh q0 q1 q2 q3 q4 q5 q6 q7

end Go.Proofs.Ytmiihcaccejklaa
