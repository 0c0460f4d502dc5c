/- PROVED: the contract of effect.Reads, name by name. No conditions beyond those that each theorem states. -/
import Derived.Test.YtmiihcaccejklaaEffR
namespace Go.Proofs.Ytmiihcaccejklaa
open Go.RowKit Go.Proofs.YtmiihcaccejklaaLib
set_option linter.unusedSimpArgs false
set_option linter.unusedVariables false
attribute [local go_sem] run_makeMapObj findS

set_option maxHeartbeats 1000000 in
theorem Reads_LDA (w : World) (n : ByteArray) (r : Regs) (m : Int) (hr : r.Ok) (hm : Byte m) (q0 : (n.toList == [76, 68, 65]) = true) :
    Calls Try.prog 23 #[.string n, r.val, .int .u8 m] w (Post w [] fun v W => v = ({ r with a := m, p := nzM r.p (m) } : Regs).val) := by
  obtain ⟨a, x, y, s, p, pc⟩ := r
  obtain ⟨ha, hx, hy, hs, hp, hpc⟩ := hr
  unfold Regs.val
  have Iu8 := Lib.hid (@run_insertObj Try.prog 42 9 5 Try.underlying42 Try.underlying9)
  have Ku8 := Lib.hid (@look1 Try.prog 42 9 5 Try.underlying42 Try.underlying9 (.int .u8 0) (fun _ => by kernel_rfl))
  have Lu8 := Lib.hid (@look2 Try.prog 42 9 5 Try.underlying42 Try.underlying9 (.int .u8 0) (fun _ => by kernel_rfl))
  have If3 := Lib.hid (@run_insertObj Try.prog 58 9 54 Try.underlying58 Try.underlying9)
  have Kf3 := Lib.hid (@look1 Try.prog 58 9 54 Try.underlying58 Try.underlying9 .nilFunc (fun _ => by kernel_rfl))
  have Lf3 := Lib.hid (@look2 Try.prog 58 9 54 Try.underlying58 Try.underlying9 .nilFunc (fun _ => by kernel_rfl))
  have Nf3 := @run_neq_func Try.prog 54 _ _ _ Try.underlying54
  have Mf3 := @run_neq_nilFunc Try.prog 54 _ _ _ Try.underlying54
  go_enter Try.func23, Try.ntmps23
  go_wp2_with (first | (rw [Iu8.out]; rotate_left; simp; simp [findS]; go_simp) | (rw [Ku8.out]; rotate_left; simp; go_simp) | (rw [Lu8.out]; rotate_left; simp; go_simp) | (rw [If3.out]; rotate_left; simp; simp [findS]; go_simp) | (rw [Kf3.out]; rotate_left; simp; go_simp) | (rw [Lf3.out]; rotate_left; simp; go_simp))
  refine (set_any _ _ _ _ _ _ ((((Blk.new w 29 [.int .u8 a, .int .u8 x, .int .u8 y, .int .u8 s, .int .u8 p, .int .u16 pc]).alloc _).alloc _).cell 0 rfl) ((((Blk.new w 29 [.int .u8 a, .int .u8 x, .int .u8 y, .int .u8 s, .int .u8 p, .int .u16 pc]).alloc _).alloc _).cell 4 rfl) ((((Blk.new w 29 [.int .u8 a, .int .u8 x, .int .u8 y, .int .u8 s, .int .u8 p, .int .u16 pc]).alloc _).alloc _).free 0) ((((Blk.new w 29 [.int .u8 a, .int .u8 x, .int .u8 y, .int .u8 s, .int .u8 p, .int .u16 pc]).alloc _).alloc _).free 4) (by simp) hp.1 hp.2).mono ?_
  rintro _ _ ⟨rfl, rfl⟩
  go_wp2_with (first | (rw [Iu8.out]; rotate_left; simp; simp [findS]; go_simp) | (rw [Ku8.out]; rotate_left; simp; go_simp) | (rw [Lu8.out]; rotate_left; simp; go_simp) | (rw [If3.out]; rotate_left; simp; simp [findS]; go_simp) | (rw [Kf3.out]; rotate_left; simp; go_simp) | (rw [Lf3.out]; rotate_left; simp; go_simp))
  go_returns
  exact ⟨_, rfl, rfl, by repeat (first | with_reducible exact Kept.refl _ _ | with_reducible assumption | with_reducible apply Kept.alloc | with_reducible apply Kept.drew | with_reducible apply Kept.drewN | (with_reducible refine Kept.setCell ?_ (Or.inr (by simp <;> omega)) _))⟩

set_option maxHeartbeats 1000000 in
theorem Reads_ORA (w : World) (n : ByteArray) (r : Regs) (m : Int) (hr : r.Ok) (hm : Byte m) (q0 : (n.toList == [76, 68, 65]) = false) (q1 : (n.toList == [79, 82, 65]) = true) :
    Calls Try.prog 23 #[.string n, r.val, .int .u8 m] w (Post w [] fun v W => v = ({ r with a := bits .or .u8 r.a m, p := nzM r.p (bits .or .u8 r.a m) } : Regs).val) := by
  obtain ⟨a, x, y, s, p, pc⟩ := r
  obtain ⟨ha, hx, hy, hs, hp, hpc⟩ := hr
  unfold Regs.val
  have Iu8 := Lib.hid (@run_insertObj Try.prog 42 9 5 Try.underlying42 Try.underlying9)
  have Ku8 := Lib.hid (@look1 Try.prog 42 9 5 Try.underlying42 Try.underlying9 (.int .u8 0) (fun _ => by kernel_rfl))
  have Lu8 := Lib.hid (@look2 Try.prog 42 9 5 Try.underlying42 Try.underlying9 (.int .u8 0) (fun _ => by kernel_rfl))
  have If3 := Lib.hid (@run_insertObj Try.prog 58 9 54 Try.underlying58 Try.underlying9)
  have Kf3 := Lib.hid (@look1 Try.prog 58 9 54 Try.underlying58 Try.underlying9 .nilFunc (fun _ => by kernel_rfl))
  have Lf3 := Lib.hid (@look2 Try.prog 58 9 54 Try.underlying58 Try.underlying9 .nilFunc (fun _ => by kernel_rfl))
  have Nf3 := @run_neq_func Try.prog 54 _ _ _ Try.underlying54
  have Mf3 := @run_neq_nilFunc Try.prog 54 _ _ _ Try.underlying54
  go_enter Try.func23, Try.ntmps23
  go_wp2_with (first | (rw [Iu8.out]; rotate_left; simp; simp [findS]; go_simp) | (rw [Ku8.out]; rotate_left; simp; go_simp) | (rw [Lu8.out]; rotate_left; simp; go_simp) | (rw [If3.out]; rotate_left; simp; simp [findS]; go_simp) | (rw [Kf3.out]; rotate_left; simp; go_simp) | (rw [Lf3.out]; rotate_left; simp; go_simp))
  refine (set_any _ _ _ _ _ _ ((((Blk.new w 29 [.int .u8 a, .int .u8 x, .int .u8 y, .int .u8 s, .int .u8 p, .int .u16 pc]).alloc _).alloc _).cell 0 rfl) ((((Blk.new w 29 [.int .u8 a, .int .u8 x, .int .u8 y, .int .u8 s, .int .u8 p, .int .u16 pc]).alloc _).alloc _).cell 4 rfl) ((((Blk.new w 29 [.int .u8 a, .int .u8 x, .int .u8 y, .int .u8 s, .int .u8 p, .int .u16 pc]).alloc _).alloc _).free 0) ((((Blk.new w 29 [.int .u8 a, .int .u8 x, .int .u8 y, .int .u8 s, .int .u8 p, .int .u16 pc]).alloc _).alloc _).free 4) (by simp) hp.1 hp.2).mono ?_
  rintro _ _ ⟨rfl, rfl⟩
  go_wp2_with (first | (rw [Iu8.out]; rotate_left; simp; simp [findS]; go_simp) | (rw [Ku8.out]; rotate_left; simp; go_simp) | (rw [Lu8.out]; rotate_left; simp; go_simp) | (rw [If3.out]; rotate_left; simp; simp [findS]; go_simp) | (rw [Kf3.out]; rotate_left; simp; go_simp) | (rw [Lf3.out]; rotate_left; simp; go_simp))
  go_returns
  exact ⟨_, rfl, rfl, by repeat (first | with_reducible exact Kept.refl _ _ | with_reducible assumption | with_reducible apply Kept.alloc | with_reducible apply Kept.drew | with_reducible apply Kept.drewN | (with_reducible refine Kept.setCell ?_ (Or.inr (by simp <;> omega)) _))⟩

set_option maxHeartbeats 1000000 in
theorem Reads_AND (w : World) (n : ByteArray) (r : Regs) (m : Int) (hr : r.Ok) (hm : Byte m) (q0 : (n.toList == [76, 68, 65]) = false) (q1 : (n.toList == [79, 82, 65]) = false) (q2 : (n.toList == [65, 78, 68]) = true) :
    Calls Try.prog 23 #[.string n, r.val, .int .u8 m] w (Post w [] fun v W => v = ({ r with a := bits .and .u8 r.a m, p := nzM r.p (bits .and .u8 r.a m) } : Regs).val) := by
  obtain ⟨a, x, y, s, p, pc⟩ := r
  obtain ⟨ha, hx, hy, hs, hp, hpc⟩ := hr
  unfold Regs.val
  have Iu8 := Lib.hid (@run_insertObj Try.prog 42 9 5 Try.underlying42 Try.underlying9)
  have Ku8 := Lib.hid (@look1 Try.prog 42 9 5 Try.underlying42 Try.underlying9 (.int .u8 0) (fun _ => by kernel_rfl))
  have Lu8 := Lib.hid (@look2 Try.prog 42 9 5 Try.underlying42 Try.underlying9 (.int .u8 0) (fun _ => by kernel_rfl))
  have If3 := Lib.hid (@run_insertObj Try.prog 58 9 54 Try.underlying58 Try.underlying9)
  have Kf3 := Lib.hid (@look1 Try.prog 58 9 54 Try.underlying58 Try.underlying9 .nilFunc (fun _ => by kernel_rfl))
  have Lf3 := Lib.hid (@look2 Try.prog 58 9 54 Try.underlying58 Try.underlying9 .nilFunc (fun _ => by kernel_rfl))
  have Nf3 := @run_neq_func Try.prog 54 _ _ _ Try.underlying54
  have Mf3 := @run_neq_nilFunc Try.prog 54 _ _ _ Try.underlying54
  go_enter Try.func23, Try.ntmps23
  go_wp2_with (first | (rw [Iu8.out]; rotate_left; simp; simp [findS]; go_simp) | (rw [Ku8.out]; rotate_left; simp; go_simp) | (rw [Lu8.out]; rotate_left; simp; go_simp) | (rw [If3.out]; rotate_left; simp; simp [findS]; go_simp) | (rw [Kf3.out]; rotate_left; simp; go_simp) | (rw [Lf3.out]; rotate_left; simp; go_simp))
  refine (set_any _ _ _ _ _ _ ((((Blk.new w 29 [.int .u8 a, .int .u8 x, .int .u8 y, .int .u8 s, .int .u8 p, .int .u16 pc]).alloc _).alloc _).cell 0 rfl) ((((Blk.new w 29 [.int .u8 a, .int .u8 x, .int .u8 y, .int .u8 s, .int .u8 p, .int .u16 pc]).alloc _).alloc _).cell 4 rfl) ((((Blk.new w 29 [.int .u8 a, .int .u8 x, .int .u8 y, .int .u8 s, .int .u8 p, .int .u16 pc]).alloc _).alloc _).free 0) ((((Blk.new w 29 [.int .u8 a, .int .u8 x, .int .u8 y, .int .u8 s, .int .u8 p, .int .u16 pc]).alloc _).alloc _).free 4) (by simp) hp.1 hp.2).mono ?_
  rintro _ _ ⟨rfl, rfl⟩
  go_wp2_with (first | (rw [Iu8.out]; rotate_left; simp; simp [findS]; go_simp) | (rw [Ku8.out]; rotate_left; simp; go_simp) | (rw [Lu8.out]; rotate_left; simp; go_simp) | (rw [If3.out]; rotate_left; simp; simp [findS]; go_simp) | (rw [Kf3.out]; rotate_left; simp; go_simp) | (rw [Lf3.out]; rotate_left; simp; go_simp))
  go_returns
  exact ⟨_, rfl, rfl, by repeat (first | with_reducible exact Kept.refl _ _ | with_reducible assumption | with_reducible apply Kept.alloc | with_reducible apply Kept.drew | with_reducible apply Kept.drewN | (with_reducible refine Kept.setCell ?_ (Or.inr (by simp <;> omega)) _))⟩

set_option maxHeartbeats 1000000 in
theorem Reads_EOR (w : World) (n : ByteArray) (r : Regs) (m : Int) (hr : r.Ok) (hm : Byte m) (q0 : (n.toList == [76, 68, 65]) = false) (q1 : (n.toList == [79, 82, 65]) = false) (q2 : (n.toList == [65, 78, 68]) = false) (q3 : (n.toList == [69, 79, 82]) = true) :
    Calls Try.prog 23 #[.string n, r.val, .int .u8 m] w (Post w [] fun v W => v = ({ r with a := bits .xor .u8 r.a m, p := nzM r.p (bits .xor .u8 r.a m) } : Regs).val) := by
  obtain ⟨a, x, y, s, p, pc⟩ := r
  obtain ⟨ha, hx, hy, hs, hp, hpc⟩ := hr
  unfold Regs.val
  have Iu8 := Lib.hid (@run_insertObj Try.prog 42 9 5 Try.underlying42 Try.underlying9)
  have Ku8 := Lib.hid (@look1 Try.prog 42 9 5 Try.underlying42 Try.underlying9 (.int .u8 0) (fun _ => by kernel_rfl))
  have Lu8 := Lib.hid (@look2 Try.prog 42 9 5 Try.underlying42 Try.underlying9 (.int .u8 0) (fun _ => by kernel_rfl))
  have If3 := Lib.hid (@run_insertObj Try.prog 58 9 54 Try.underlying58 Try.underlying9)
  have Kf3 := Lib.hid (@look1 Try.prog 58 9 54 Try.underlying58 Try.underlying9 .nilFunc (fun _ => by kernel_rfl))
  have Lf3 := Lib.hid (@look2 Try.prog 58 9 54 Try.underlying58 Try.underlying9 .nilFunc (fun _ => by kernel_rfl))
  have Nf3 := @run_neq_func Try.prog 54 _ _ _ Try.underlying54
  have Mf3 := @run_neq_nilFunc Try.prog 54 _ _ _ Try.underlying54
  go_enter Try.func23, Try.ntmps23
  go_wp2_with (first | (rw [Iu8.out]; rotate_left; simp; simp [findS]; go_simp) | (rw [Ku8.out]; rotate_left; simp; go_simp) | (rw [Lu8.out]; rotate_left; simp; go_simp) | (rw [If3.out]; rotate_left; simp; simp [findS]; go_simp) | (rw [Kf3.out]; rotate_left; simp; go_simp) | (rw [Lf3.out]; rotate_left; simp; go_simp))
  refine (set_any _ _ _ _ _ _ ((((Blk.new w 29 [.int .u8 a, .int .u8 x, .int .u8 y, .int .u8 s, .int .u8 p, .int .u16 pc]).alloc _).alloc _).cell 0 rfl) ((((Blk.new w 29 [.int .u8 a, .int .u8 x, .int .u8 y, .int .u8 s, .int .u8 p, .int .u16 pc]).alloc _).alloc _).cell 4 rfl) ((((Blk.new w 29 [.int .u8 a, .int .u8 x, .int .u8 y, .int .u8 s, .int .u8 p, .int .u16 pc]).alloc _).alloc _).free 0) ((((Blk.new w 29 [.int .u8 a, .int .u8 x, .int .u8 y, .int .u8 s, .int .u8 p, .int .u16 pc]).alloc _).alloc _).free 4) (by simp) hp.1 hp.2).mono ?_
  rintro _ _ ⟨rfl, rfl⟩
  go_wp2_with (first | (rw [Iu8.out]; rotate_left; simp; simp [findS]; go_simp) | (rw [Ku8.out]; rotate_left; simp; go_simp) | (rw [Lu8.out]; rotate_left; simp; go_simp) | (rw [If3.out]; rotate_left; simp; simp [findS]; go_simp) | (rw [Kf3.out]; rotate_left; simp; go_simp) | (rw [Lf3.out]; rotate_left; simp; go_simp))
  go_returns
  exact ⟨_, rfl, rfl, by repeat (first | with_reducible exact Kept.refl _ _ | with_reducible assumption | with_reducible apply Kept.alloc | with_reducible apply Kept.drew | with_reducible apply Kept.drewN | (with_reducible refine Kept.setCell ?_ (Or.inr (by simp <;> omega)) _))⟩

set_option maxHeartbeats 2000000 in
theorem Reads_ADC (w : World) (n : ByteArray) (r : Regs) (m : Int) (hr : r.Ok) (hm : Byte m) (q0 : (n.toList == [76, 68, 65]) = false) (q1 : (n.toList == [79, 82, 65]) = false) (q2 : (n.toList == [65, 78, 68]) = false) (q3 : (n.toList == [69, 79, 82]) = false) (q4 : (n.toList == [65, 68, 67]) = true) :
    Calls Try.prog 23 #[.string n, r.val, .int .u8 m] w (Post w [] fun v W => v = ({ r with a := (adcM r.a m r.p).1, p := (adcM r.a m r.p).2 } : Regs).val) := by
  obtain ⟨a, x, y, s, p, pc⟩ := r
  obtain ⟨ha, hx, hy, hs, hp, hpc⟩ := hr
  unfold Regs.val
  have Iu8 := Lib.hid (@run_insertObj Try.prog 42 9 5 Try.underlying42 Try.underlying9)
  have Ku8 := Lib.hid (@look1 Try.prog 42 9 5 Try.underlying42 Try.underlying9 (.int .u8 0) (fun _ => by kernel_rfl))
  have Lu8 := Lib.hid (@look2 Try.prog 42 9 5 Try.underlying42 Try.underlying9 (.int .u8 0) (fun _ => by kernel_rfl))
  have If3 := Lib.hid (@run_insertObj Try.prog 58 9 54 Try.underlying58 Try.underlying9)
  have Kf3 := Lib.hid (@look1 Try.prog 58 9 54 Try.underlying58 Try.underlying9 .nilFunc (fun _ => by kernel_rfl))
  have Lf3 := Lib.hid (@look2 Try.prog 58 9 54 Try.underlying58 Try.underlying9 .nilFunc (fun _ => by kernel_rfl))
  have Nf3 := @run_neq_func Try.prog 54 _ _ _ Try.underlying54
  have Mf3 := @run_neq_nilFunc Try.prog 54 _ _ _ Try.underlying54
  go_enter Try.func23, Try.ntmps23
  go_wp2_with (first | (rw [Iu8.out]; rotate_left; simp; simp [findS]; go_simp) | (rw [Ku8.out]; rotate_left; simp; go_simp) | (rw [Lu8.out]; rotate_left; simp; go_simp) | (rw [If3.out]; rotate_left; simp; simp [findS]; go_simp) | (rw [Kf3.out]; rotate_left; simp; go_simp) | (rw [Lf3.out]; rotate_left; simp; go_simp))
  refine (adc_any _ _ _ _ ha.1 ha.2 hm.1 hm.2 hp.1 hp.2).mono ?_
  rintro _ w1 ⟨_, rfl, rfl, k1⟩
  have hbr := Blk.kept (w1 := w1) (((((Blk.new w 29 [.int .u8 a, .int .u8 x, .int .u8 y, .int .u8 s, .int .u8 p, .int .u16 pc]).alloc _).alloc _).alloc _)) k1 (by simp)
  have hbz := Blk.kept (w1 := w1) ((((Blk.new (w.alloc (.cells ([.int .u8 a, .int .u8 x, .int .u8 y, .int .u8 s, .int .u8 p, .int .u16 pc] : List Value).toArray 29 (0, 0))) 29 [.int .u8 0, .int .u8 0, .int .u8 0, .int .u8 0, .int .u8 0, .int .u16 0]).alloc _).alloc _)) k1 (by simp)
  have sz := k1.size
  simp only [World.size_alloc] at hbz sz
  have c0 := hbr.cell 0 rfl
  have g0 := hbr.free 0
  have z0 := hbz.cell 0 rfl
  have y0 := hbz.free 0
  have c1 := hbr.cell 1 rfl
  have g1 := hbr.free 1
  have z1 := hbz.cell 1 rfl
  have y1 := hbz.free 1
  have c2 := hbr.cell 2 rfl
  have g2 := hbr.free 2
  have z2 := hbz.cell 2 rfl
  have y2 := hbz.free 2
  have c3 := hbr.cell 3 rfl
  have g3 := hbr.free 3
  have z3 := hbz.cell 3 rfl
  have y3 := hbz.free 3
  have c4 := hbr.cell 4 rfl
  have g4 := hbr.free 4
  have z4 := hbz.cell 4 rfl
  have y4 := hbz.free 4
  have c5 := hbr.cell 5 rfl
  have g5 := hbr.free 5
  have z5 := hbz.cell 5 rfl
  have y5 := hbz.free 5
  clear hbr
  replace hbz := Lib.hid hbz
  have kk : Kept w w1 [] := by
    refine Kept.trans ?_ k1 (by simp)
    repeat (first | with_reducible exact Kept.refl _ _ | with_reducible assumption | with_reducible apply Kept.alloc | with_reducible apply Kept.drew | with_reducible apply Kept.drewN | (with_reducible refine Kept.setCell ?_ (Or.inr (by simp <;> omega)) _))
  clear k1
  go_wp2_with (first | (rw [Iu8.out]; rotate_left; simp; simp [findS]; go_simp) | (rw [Ku8.out]; rotate_left; simp; go_simp) | (rw [Lu8.out]; rotate_left; simp; go_simp) | (rw [If3.out]; rotate_left; simp; simp [findS]; go_simp) | (rw [Kf3.out]; rotate_left; simp; go_simp) | (rw [Lf3.out]; rotate_left; simp; go_simp))
  replace hbz := hbz.out
  have hz := ((((((((hbz.far (p := ⟨w.heap.size, 0, none⟩) (by simp) (.int .u8 (adcM a m p).1)).far (p := ⟨w.heap.size, 4, none⟩) (by simp) (.int .u8 (adcM a m p).2)).set 0 (.int .u8 (adcM a m p).1)).set 1 (.int .u8 x)).set 2 (.int .u8 y)).set 3 (.int .u8 s)).set 4 (.int .u8 (adcM a m p).2)).set 5 (.int .u16 pc))
  simp only [List.set] at hz
  refine bodyPost_ret (results_cell_row Try.results23 _ _ _ _ _ _ _ (by simp [go_sem]) hz Try.underlying29 rfl rfl) rfl ?_
  exact ⟨_, rfl, rfl, by repeat (first | with_reducible exact Kept.refl _ _ | with_reducible assumption | with_reducible apply Kept.alloc | with_reducible apply Kept.drew | with_reducible apply Kept.drewN | (with_reducible refine Kept.setCell ?_ (Or.inr (by simp <;> omega)) _))⟩

set_option maxHeartbeats 2000000 in
theorem Reads_SBC (w : World) (n : ByteArray) (r : Regs) (m : Int) (hr : r.Ok) (hm : Byte m) (q0 : (n.toList == [76, 68, 65]) = false) (q1 : (n.toList == [79, 82, 65]) = false) (q2 : (n.toList == [65, 78, 68]) = false) (q3 : (n.toList == [69, 79, 82]) = false) (q4 : (n.toList == [65, 68, 67]) = false) (q5 : (n.toList == [83, 66, 67]) = true) :
    Calls Try.prog 23 #[.string n, r.val, .int .u8 m] w (Post w [] fun v W => v = ({ r with a := (sbcM r.a m r.p).1, p := (sbcM r.a m r.p).2 } : Regs).val) := by
  obtain ⟨a, x, y, s, p, pc⟩ := r
  obtain ⟨ha, hx, hy, hs, hp, hpc⟩ := hr
  unfold Regs.val
  have Iu8 := Lib.hid (@run_insertObj Try.prog 42 9 5 Try.underlying42 Try.underlying9)
  have Ku8 := Lib.hid (@look1 Try.prog 42 9 5 Try.underlying42 Try.underlying9 (.int .u8 0) (fun _ => by kernel_rfl))
  have Lu8 := Lib.hid (@look2 Try.prog 42 9 5 Try.underlying42 Try.underlying9 (.int .u8 0) (fun _ => by kernel_rfl))
  have If3 := Lib.hid (@run_insertObj Try.prog 58 9 54 Try.underlying58 Try.underlying9)
  have Kf3 := Lib.hid (@look1 Try.prog 58 9 54 Try.underlying58 Try.underlying9 .nilFunc (fun _ => by kernel_rfl))
  have Lf3 := Lib.hid (@look2 Try.prog 58 9 54 Try.underlying58 Try.underlying9 .nilFunc (fun _ => by kernel_rfl))
  have Nf3 := @run_neq_func Try.prog 54 _ _ _ Try.underlying54
  have Mf3 := @run_neq_nilFunc Try.prog 54 _ _ _ Try.underlying54
  go_enter Try.func23, Try.ntmps23
  go_wp2_with (first | (rw [Iu8.out]; rotate_left; simp; simp [findS]; go_simp) | (rw [Ku8.out]; rotate_left; simp; go_simp) | (rw [Lu8.out]; rotate_left; simp; go_simp) | (rw [If3.out]; rotate_left; simp; simp [findS]; go_simp) | (rw [Kf3.out]; rotate_left; simp; go_simp) | (rw [Lf3.out]; rotate_left; simp; go_simp))
  refine (sbc_any _ _ _ _ ha.1 ha.2 hm.1 hm.2 hp.1 hp.2).mono ?_
  rintro _ w1 ⟨_, rfl, rfl, k1⟩
  have hbr := Blk.kept (w1 := w1) (((((Blk.new w 29 [.int .u8 a, .int .u8 x, .int .u8 y, .int .u8 s, .int .u8 p, .int .u16 pc]).alloc _).alloc _).alloc _)) k1 (by simp)
  have hbz := Blk.kept (w1 := w1) ((((Blk.new (w.alloc (.cells ([.int .u8 a, .int .u8 x, .int .u8 y, .int .u8 s, .int .u8 p, .int .u16 pc] : List Value).toArray 29 (0, 0))) 29 [.int .u8 0, .int .u8 0, .int .u8 0, .int .u8 0, .int .u8 0, .int .u16 0]).alloc _).alloc _)) k1 (by simp)
  have sz := k1.size
  simp only [World.size_alloc] at hbz sz
  have c0 := hbr.cell 0 rfl
  have g0 := hbr.free 0
  have z0 := hbz.cell 0 rfl
  have y0 := hbz.free 0
  have c1 := hbr.cell 1 rfl
  have g1 := hbr.free 1
  have z1 := hbz.cell 1 rfl
  have y1 := hbz.free 1
  have c2 := hbr.cell 2 rfl
  have g2 := hbr.free 2
  have z2 := hbz.cell 2 rfl
  have y2 := hbz.free 2
  have c3 := hbr.cell 3 rfl
  have g3 := hbr.free 3
  have z3 := hbz.cell 3 rfl
  have y3 := hbz.free 3
  have c4 := hbr.cell 4 rfl
  have g4 := hbr.free 4
  have z4 := hbz.cell 4 rfl
  have y4 := hbz.free 4
  have c5 := hbr.cell 5 rfl
  have g5 := hbr.free 5
  have z5 := hbz.cell 5 rfl
  have y5 := hbz.free 5
  clear hbr
  replace hbz := Lib.hid hbz
  have kk : Kept w w1 [] := by
    refine Kept.trans ?_ k1 (by simp)
    repeat (first | with_reducible exact Kept.refl _ _ | with_reducible assumption | with_reducible apply Kept.alloc | with_reducible apply Kept.drew | with_reducible apply Kept.drewN | (with_reducible refine Kept.setCell ?_ (Or.inr (by simp <;> omega)) _))
  clear k1
  go_wp2_with (first | (rw [Iu8.out]; rotate_left; simp; simp [findS]; go_simp) | (rw [Ku8.out]; rotate_left; simp; go_simp) | (rw [Lu8.out]; rotate_left; simp; go_simp) | (rw [If3.out]; rotate_left; simp; simp [findS]; go_simp) | (rw [Kf3.out]; rotate_left; simp; go_simp) | (rw [Lf3.out]; rotate_left; simp; go_simp))
  replace hbz := hbz.out
  have hz := ((((((((hbz.far (p := ⟨w.heap.size, 0, none⟩) (by simp) (.int .u8 (sbcM a m p).1)).far (p := ⟨w.heap.size, 4, none⟩) (by simp) (.int .u8 (sbcM a m p).2)).set 0 (.int .u8 (sbcM a m p).1)).set 1 (.int .u8 x)).set 2 (.int .u8 y)).set 3 (.int .u8 s)).set 4 (.int .u8 (sbcM a m p).2)).set 5 (.int .u16 pc))
  simp only [List.set] at hz
  refine bodyPost_ret (results_cell_row Try.results23 _ _ _ _ _ _ _ (by simp [go_sem]) hz Try.underlying29 rfl rfl) rfl ?_
  exact ⟨_, rfl, rfl, by repeat (first | with_reducible exact Kept.refl _ _ | with_reducible assumption | with_reducible apply Kept.alloc | with_reducible apply Kept.drew | with_reducible apply Kept.drewN | (with_reducible refine Kept.setCell ?_ (Or.inr (by simp <;> omega)) _))⟩

end Go.Proofs.Ytmiihcaccejklaa
