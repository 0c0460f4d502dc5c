/- PROVED: the contract of effect.Reads at any name. No conditions beyond those that each theorem states. -/
import Derived.Test.YtmiihcaccejklaaEffR2
namespace Go.Proofs.Ytmiihcaccejklaa
open Go.RowKit Go.Proofs.YtmiihcaccejklaaLib
set_option linter.unusedSimpArgs false
set_option linter.unusedVariables false
attribute [local go_sem] run_makeMapObj findS

set_option maxHeartbeats 2000000 in
theorem Reads_other (w : World) (n : ByteArray) (r : Regs) (m : Int) (hr : r.Ok) (hm : Byte m) (q0 : (n.toList == [76, 68, 65]) = false) (q1 : (n.toList == [79, 82, 65]) = false) (q2 : (n.toList == [65, 78, 68]) = false) (q3 : (n.toList == [69, 79, 82]) = false) (q4 : (n.toList == [65, 68, 67]) = false) (q5 : (n.toList == [83, 66, 67]) = false) :
    Calls Try.prog 23 #[.string n, r.val, .int .u8 m] w (Post w [] fun v W => v = (comparesM n.toList (loadsM n.toList (andsM n.toList r m) m) m).val) := by
  obtain ⟨a, x, y, s, p, pc⟩ := r
  obtain ⟨ha, hx, hy, hs, hp, hpc⟩ := hr
  unfold Regs.val
  have Iu8 := Lib.hid (@run_insertObj Try.prog 42 9 5 Try.underlying42 Try.underlying9)
  have Ku8 := Lib.hid (@look1 Try.prog 42 9 5 Try.underlying42 Try.underlying9 (.int .u8 0) (fun _ => by kernel_rfl))
  have Lu8 := Lib.hid (@look2 Try.prog 42 9 5 Try.underlying42 Try.underlying9 (.int .u8 0) (fun _ => by kernel_rfl))
  have If3 := Lib.hid (@run_insertObj Try.prog 58 9 54 Try.underlying58 Try.underlying9)
  have Kf3 := Lib.hid (@look1 Try.prog 58 9 54 Try.underlying58 Try.underlying9 .nilFunc (fun _ => by kernel_rfl))
  have Lf3 := Lib.hid (@look2 Try.prog 58 9 54 Try.underlying58 Try.underlying9 .nilFunc (fun _ => by kernel_rfl))
  have Nf3 := @run_neq_func Try.prog 54 _ _ _ Try.underlying54
  have Mf3 := @run_neq_nilFunc Try.prog 54 _ _ _ Try.underlying54
  go_enter Try.func23, Try.ntmps23
  go_wp2_with (first | (rw [Iu8.out]; rotate_left; simp; simp [findS]; go_simp) | (rw [Ku8.out]; rotate_left; simp; go_simp) | (rw [Lu8.out]; rotate_left; simp; go_simp) | (rw [If3.out]; rotate_left; simp; simp [findS]; go_simp) | (rw [Kf3.out]; rotate_left; simp; go_simp) | (rw [Lf3.out]; rotate_left; simp; go_simp))
  refine (ands_any _ n ⟨a, x, y, s, p, pc⟩ m ⟨ha, hx, hy, hs, hp, hpc⟩ hm).mono ?_
  rintro _ w1 ⟨_, rfl, rfl, k1⟩
  have o1 := andsM_ok n.toList ⟨a, x, y, s, p, pc⟩ m ⟨ha, hx, hy, hs, hp, hpc⟩ hm
  have hbz := Blk.kept (w1 := w1) ((((Blk.new (w.alloc (.cells ([.int .u8 a, .int .u8 x, .int .u8 y, .int .u8 s, .int .u8 p, .int .u16 pc] : List Value).toArray 29 (0, 0))) 29 [.int .u8 0, .int .u8 0, .int .u8 0, .int .u8 0, .int .u8 0, .int .u16 0]).alloc _).alloc _)) k1 (by simp)
  have sz := k1.size
  simp only [World.size_alloc] at hbz sz
  have kk : Kept w w1 [] := by
    refine Kept.trans ?_ k1 (by simp)
    repeat (first | with_reducible exact Kept.refl _ _ | with_reducible assumption | with_reducible apply Kept.alloc | with_reducible apply Kept.drew | with_reducible apply Kept.drewN | (with_reducible refine Kept.setCell ?_ (Or.inr (by simp <;> omega)) _))
  clear k1
  replace hbz := Lib.hid hbz
  generalize g1 : andsM n.toList ⟨a, x, y, s, p, pc⟩ m = r1 at o1 ⊢
  go_wp2_with (first | (rw [Iu8.out]; rotate_left; simp; simp [findS]; go_simp) | (rw [Ku8.out]; rotate_left; simp; go_simp) | (rw [Lu8.out]; rotate_left; simp; go_simp) | (rw [If3.out]; rotate_left; simp; simp [findS]; go_simp) | (rw [Kf3.out]; rotate_left; simp; go_simp) | (rw [Lf3.out]; rotate_left; simp; go_simp))
  refine (loads_any _ n r1 m o1 hm).mono ?_
  rintro _ w2 ⟨_, rfl, rfl, k2⟩
  have o2 := loadsM_ok n.toList r1 m o1 hm
  replace hbz := Lib.hid (Blk.kept hbz.out k2 (by simp))
  have sz2 := Nat.le_trans sz k2.size
  replace kk := Kept.trans kk k2 (by simp)
  clear k2 sz
  generalize g2 : loadsM n.toList r1 m = r2 at o2 ⊢
  go_wp2_with (first | (rw [Iu8.out]; rotate_left; simp; simp [findS]; go_simp) | (rw [Ku8.out]; rotate_left; simp; go_simp) | (rw [Lu8.out]; rotate_left; simp; go_simp) | (rw [If3.out]; rotate_left; simp; simp [findS]; go_simp) | (rw [Kf3.out]; rotate_left; simp; go_simp) | (rw [Lf3.out]; rotate_left; simp; go_simp))
  refine (compares_any _ n r2 m o2 hm).mono ?_
  rintro _ w3 ⟨_, rfl, rfl, k3⟩
  replace hbz := Lib.hid (Blk.kept hbz.out k3 (by simp))
  have sz3 := Nat.le_trans sz2 k3.size
  replace kk := Kept.trans kk k3 (by simp)
  clear k3 sz2
  generalize g3 : comparesM n.toList r2 m = r3
  obtain ⟨ga, gx, gy, gs, gp, gc⟩ := r3
  unfold Regs.val
  have z0 := hbz.out.cell 0 rfl
  have y0 := hbz.out.free 0
  have z1 := hbz.out.cell 1 rfl
  have y1 := hbz.out.free 1
  have z2 := hbz.out.cell 2 rfl
  have y2 := hbz.out.free 2
  have z3 := hbz.out.cell 3 rfl
  have y3 := hbz.out.free 3
  have z4 := hbz.out.cell 4 rfl
  have y4 := hbz.out.free 4
  have z5 := hbz.out.cell 5 rfl
  have y5 := hbz.out.free 5
  go_wp2_with (first | (rw [Iu8.out]; rotate_left; simp; simp [findS]; go_simp) | (rw [Ku8.out]; rotate_left; simp; go_simp) | (rw [Lu8.out]; rotate_left; simp; go_simp) | (rw [If3.out]; rotate_left; simp; simp [findS]; go_simp) | (rw [Kf3.out]; rotate_left; simp; go_simp) | (rw [Lf3.out]; rotate_left; simp; go_simp))
  replace hbz := hbz.out
  have hz := (((((hbz.set 0 (.int .u8 ga)).set 1 (.int .u8 gx)).set 2 (.int .u8 gy)).set 3 (.int .u8 gs)).set 4 (.int .u8 gp)).set 5 (.int .u16 gc)
  simp only [List.set] at hz
  refine bodyPost_ret (results_cell_row Try.results23 _ _ _ _ _ _ _ (by simp [go_sem]) hz Try.underlying29 rfl rfl) rfl ?_
  exact ⟨_, rfl, by simp only [g1, g2, g3], by repeat (first | with_reducible exact Kept.refl _ _ | with_reducible assumption | with_reducible apply Kept.alloc | with_reducible apply Kept.drew | with_reducible apply Kept.drewN | (with_reducible refine Kept.setCell ?_ (Or.inr (by simp <;> omega)) _))⟩

def readsM (n : List UInt8) (r : Regs) (m : Int) : Regs :=
  if (n == [76, 68, 65]) = true then { r with a := m, p := nzM r.p (m) } else
  if (n == [79, 82, 65]) = true then { r with a := bits .or .u8 r.a m, p := nzM r.p (bits .or .u8 r.a m) } else
  if (n == [65, 78, 68]) = true then { r with a := bits .and .u8 r.a m, p := nzM r.p (bits .and .u8 r.a m) } else
  if (n == [69, 79, 82]) = true then { r with a := bits .xor .u8 r.a m, p := nzM r.p (bits .xor .u8 r.a m) } else
  if (n == [65, 68, 67]) = true then { r with a := (adcM r.a m r.p).1, p := (adcM r.a m r.p).2 } else
  if (n == [83, 66, 67]) = true then { r with a := (sbcM r.a m r.p).1, p := (sbcM r.a m r.p).2 } else
  comparesM n (loadsM n (andsM n r m) m) m
theorem reads_any (w : World) (n : ByteArray) (r : Regs) (m : Int) (hr : r.Ok) (hm : Byte m) :
    Calls Try.prog 23 #[.string n, r.val, .int .u8 m] w (Post w [] fun v W => v = (readsM n.toList r m).val) := by
  unfold readsM
  by_cases q0 : (n.toList == [76, 68, 65]) = true
  · rw [if_pos q0]
    exact Reads_LDA w n r m hr hm  q0
  rw [if_neg q0]
  have q0 : (n.toList == [76, 68, 65]) = false := by simpa using q0
  by_cases q1 : (n.toList == [79, 82, 65]) = true
  · rw [if_pos q1]
    exact Reads_ORA w n r m hr hm q0 q1
  rw [if_neg q1]
  have q1 : (n.toList == [79, 82, 65]) = false := by simpa using q1
  by_cases q2 : (n.toList == [65, 78, 68]) = true
  · rw [if_pos q2]
    exact Reads_AND w n r m hr hm q0 q1 q2
  rw [if_neg q2]
  have q2 : (n.toList == [65, 78, 68]) = false := by simpa using q2
  by_cases q3 : (n.toList == [69, 79, 82]) = true
  · rw [if_pos q3]
    exact Reads_EOR w n r m hr hm q0 q1 q2 q3
  rw [if_neg q3]
  have q3 : (n.toList == [69, 79, 82]) = false := by simpa using q3
  by_cases q4 : (n.toList == [65, 68, 67]) = true
  · rw [if_pos q4]
    exact Reads_ADC w n r m hr hm q0 q1 q2 q3 q4
  rw [if_neg q4]
  have q4 : (n.toList == [65, 68, 67]) = false := by simpa using q4
  by_cases q5 : (n.toList == [83, 66, 67]) = true
  · rw [if_pos q5]
    exact Reads_SBC w n r m hr hm q0 q1 q2 q3 q4 q5
  rw [if_neg q5]
  have q5 : (n.toList == [83, 66, 67]) = false := by simpa using q5
  exact Reads_other w n r m hr hm q0 q1 q2 q3 q4 q5

theorem readsM_ok (n : List UInt8) (r : Regs) (m : Int) (hr : r.Ok) (hm : Byte m) : (readsM n r m).Ok := by
  have hl := comparesM_ok n _ m (loadsM_ok n _ m (andsM_ok n r m hr hm) hm) hm
  obtain ⟨a, x, y, s, p, pc⟩ := r
  obtain ⟨ha, hx, hy, hs, hp, hpc⟩ := hr
  have h1 := fun v => nzM_b (v := v) hp
  unfold readsM
  split
  · exact ok_mk hm hx hy hs (h1 _) hpc
  split
  · exact ok_mk (byte_bits .or a m) hx hy hs (h1 _) hpc
  split
  · exact ok_mk (byte_bits .and a m) hx hy hs (h1 _) hpc
  split
  · exact ok_mk (byte_bits .xor a m) hx hy hs (h1 _) hpc
  split
  · exact ok_mk (adcM_b hp).1 hx hy hs (adcM_b hp).2 hpc
  split
  · exact ok_mk (sbcM_b hp).1 hx hy hs (sbcM_b hp).2 hpc
  · exact hl
end Go.Proofs.Ytmiihcaccejklaa
