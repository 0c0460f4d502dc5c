/- PROVED: the contracts of effect.shift (with the world it leaves) and of effect.Modifies at the names that are one. No conditions beyond those that each theorem states. -/
import Derived.Test.YtmiihcaccejklaaEffW
namespace Go.Proofs.Ytmiihcaccejklaa
open Go.RowKit Go.Proofs.YtmiihcaccejklaaLib
set_option linter.unusedSimpArgs false
set_option linter.unusedVariables false
attribute [local go_sem] run_makeMapObj findS

theorem Blk.second (w : World) (o : Obj) (T : Nat) (L : List Value) : Blk ((w.alloc o).alloc (.cells L.toArray T (0, 0))) (w.heap.size + 1) T L := by
  have h := Blk.new (w.alloc o) T L
  rwa [World.size_alloc] at h
def shiftObj : Obj := mapObj [([65, 83, 76], .func (.func 53) #[] #[]), ([76, 83, 82], .func (.func 54) #[] #[]), ([82, 79, 76], .func (.func 55) #[] #[]), ([82, 79, 82], .func (.func 56) #[] #[])]
set_option maxHeartbeats 1000000 in
theorem shiftX_ASL (w : World) (n : ByteArray) (q0 : (n.toList == [65, 83, 76]) = true) :
    Calls Try.prog 28 #[.string n] w fun e W => e = .returned (.func (.func 53) #[] #[]) ∧ w.alloc shiftObj = W := by
  have If2 := Lib.hid (@run_insertObj Try.prog 60 9 47 Try.underlying60 Try.underlying9)
  have Kf2 := Lib.hid (@look1 Try.prog 60 9 47 Try.underlying60 Try.underlying9 .nilFunc (fun _ => by kernel_rfl))
  have Lf2 := Lib.hid (@look2 Try.prog 60 9 47 Try.underlying60 Try.underlying9 .nilFunc (fun _ => by kernel_rfl))
  have Nf2 := @run_neq_func Try.prog 47 _ _ _ Try.underlying47
  have Mf2 := @run_neq_nilFunc Try.prog 47 _ _ _ Try.underlying47
  go_enter Try.func28, Try.ntmps28
  go_wp2_with (first | (rw [If2.out]; rotate_left; simp; simp [findS]; go_simp) | (rw [Kf2.out]; rotate_left; simp; go_simp) | (rw [Lf2.out]; rotate_left; simp; go_simp))
  go_returns
  exact ⟨rfl, rfl⟩

set_option maxHeartbeats 1000000 in
theorem shiftX_LSR (w : World) (n : ByteArray) (q0 : (n.toList == [65, 83, 76]) = false) (q1 : (n.toList == [76, 83, 82]) = true) :
    Calls Try.prog 28 #[.string n] w fun e W => e = .returned (.func (.func 54) #[] #[]) ∧ w.alloc shiftObj = W := by
  have If2 := Lib.hid (@run_insertObj Try.prog 60 9 47 Try.underlying60 Try.underlying9)
  have Kf2 := Lib.hid (@look1 Try.prog 60 9 47 Try.underlying60 Try.underlying9 .nilFunc (fun _ => by kernel_rfl))
  have Lf2 := Lib.hid (@look2 Try.prog 60 9 47 Try.underlying60 Try.underlying9 .nilFunc (fun _ => by kernel_rfl))
  have Nf2 := @run_neq_func Try.prog 47 _ _ _ Try.underlying47
  have Mf2 := @run_neq_nilFunc Try.prog 47 _ _ _ Try.underlying47
  go_enter Try.func28, Try.ntmps28
  go_wp2_with (first | (rw [If2.out]; rotate_left; simp; simp [findS]; go_simp) | (rw [Kf2.out]; rotate_left; simp; go_simp) | (rw [Lf2.out]; rotate_left; simp; go_simp))
  go_returns
  exact ⟨rfl, rfl⟩

set_option maxHeartbeats 1000000 in
theorem shiftX_ROL (w : World) (n : ByteArray) (q0 : (n.toList == [65, 83, 76]) = false) (q1 : (n.toList == [76, 83, 82]) = false) (q2 : (n.toList == [82, 79, 76]) = true) :
    Calls Try.prog 28 #[.string n] w fun e W => e = .returned (.func (.func 55) #[] #[]) ∧ w.alloc shiftObj = W := by
  have If2 := Lib.hid (@run_insertObj Try.prog 60 9 47 Try.underlying60 Try.underlying9)
  have Kf2 := Lib.hid (@look1 Try.prog 60 9 47 Try.underlying60 Try.underlying9 .nilFunc (fun _ => by kernel_rfl))
  have Lf2 := Lib.hid (@look2 Try.prog 60 9 47 Try.underlying60 Try.underlying9 .nilFunc (fun _ => by kernel_rfl))
  have Nf2 := @run_neq_func Try.prog 47 _ _ _ Try.underlying47
  have Mf2 := @run_neq_nilFunc Try.prog 47 _ _ _ Try.underlying47
  go_enter Try.func28, Try.ntmps28
  go_wp2_with (first | (rw [If2.out]; rotate_left; simp; simp [findS]; go_simp) | (rw [Kf2.out]; rotate_left; simp; go_simp) | (rw [Lf2.out]; rotate_left; simp; go_simp))
  go_returns
  exact ⟨rfl, rfl⟩

set_option maxHeartbeats 1000000 in
theorem shiftX_ROR (w : World) (n : ByteArray) (q0 : (n.toList == [65, 83, 76]) = false) (q1 : (n.toList == [76, 83, 82]) = false) (q2 : (n.toList == [82, 79, 76]) = false) (q3 : (n.toList == [82, 79, 82]) = true) :
    Calls Try.prog 28 #[.string n] w fun e W => e = .returned (.func (.func 56) #[] #[]) ∧ w.alloc shiftObj = W := by
  have If2 := Lib.hid (@run_insertObj Try.prog 60 9 47 Try.underlying60 Try.underlying9)
  have Kf2 := Lib.hid (@look1 Try.prog 60 9 47 Try.underlying60 Try.underlying9 .nilFunc (fun _ => by kernel_rfl))
  have Lf2 := Lib.hid (@look2 Try.prog 60 9 47 Try.underlying60 Try.underlying9 .nilFunc (fun _ => by kernel_rfl))
  have Nf2 := @run_neq_func Try.prog 47 _ _ _ Try.underlying47
  have Mf2 := @run_neq_nilFunc Try.prog 47 _ _ _ Try.underlying47
  go_enter Try.func28, Try.ntmps28
  go_wp2_with (first | (rw [If2.out]; rotate_left; simp; simp [findS]; go_simp) | (rw [Kf2.out]; rotate_left; simp; go_simp) | (rw [Lf2.out]; rotate_left; simp; go_simp))
  go_returns
  exact ⟨rfl, rfl⟩

set_option maxHeartbeats 1000000 in
theorem shiftX_other (w : World) (n : ByteArray) (q0 : (n.toList == [65, 83, 76]) = false) (q1 : (n.toList == [76, 83, 82]) = false) (q2 : (n.toList == [82, 79, 76]) = false) (q3 : (n.toList == [82, 79, 82]) = false) :
    Calls Try.prog 28 #[.string n] w fun e W => e = .returned (.nilFunc) ∧ w.alloc shiftObj = W := by
  have If2 := Lib.hid (@run_insertObj Try.prog 60 9 47 Try.underlying60 Try.underlying9)
  have Kf2 := Lib.hid (@look1 Try.prog 60 9 47 Try.underlying60 Try.underlying9 .nilFunc (fun _ => by kernel_rfl))
  have Lf2 := Lib.hid (@look2 Try.prog 60 9 47 Try.underlying60 Try.underlying9 .nilFunc (fun _ => by kernel_rfl))
  have Nf2 := @run_neq_func Try.prog 47 _ _ _ Try.underlying47
  have Mf2 := @run_neq_nilFunc Try.prog 47 _ _ _ Try.underlying47
  go_enter Try.func28, Try.ntmps28
  go_wp2_with (first | (rw [If2.out]; rotate_left; simp; simp [findS]; go_simp) | (rw [Kf2.out]; rotate_left; simp; go_simp) | (rw [Lf2.out]; rotate_left; simp; go_simp))
  go_returns
  exact ⟨rfl, rfl⟩

set_option maxHeartbeats 2000000 in
theorem modifies_ASL (w : World) (n : ByteArray) (r : Regs) (m : Int) (hr : r.Ok) (hm : Byte m) (q0 : (n.toList == [83, 76, 79]) = false) (q1 : (n.toList == [82, 76, 65]) = false) (q2 : (n.toList == [83, 82, 69]) = false) (q3 : (n.toList == [82, 82, 65]) = false) (q4 : (n.toList == [65, 83, 76]) = true) :
    Calls Try.prog 14 #[.string n, r.val, .int .u8 m] w (Post w [] fun v W => v = .tuple #[(({ r with p := (asl m r.p).2 }, (asl m r.p).1) : Regs × Int).1.val, .int .u8 (({ r with p := (asl m r.p).2 }, (asl m r.p).1) : Regs × Int).2]) := by
  obtain ⟨a, x, y, s, p, pc⟩ := r
  obtain ⟨ha, hx, hy, hs, hp, hpc⟩ := hr
  unfold Regs.val
  have Ipair := Lib.hid (@run_insertObj Try.prog 46 9 45 Try.underlying46 Try.underlying9)
  have Kpair := Lib.hid (@look1 Try.prog 46 9 45 Try.underlying46 Try.underlying9 (.agg #[.string ⟨#[]⟩, .string ⟨#[]⟩]) (fun _ => by kernel_rfl))
  have Lpair := Lib.hid (@look2 Try.prog 46 9 45 Try.underlying46 Try.underlying9 (.agg #[.string ⟨#[]⟩, .string ⟨#[]⟩]) (fun _ => by kernel_rfl))
  have If2 := Lib.hid (@run_insertObj Try.prog 60 9 47 Try.underlying60 Try.underlying9)
  have Kf2 := Lib.hid (@look1 Try.prog 60 9 47 Try.underlying60 Try.underlying9 .nilFunc (fun _ => by kernel_rfl))
  have Lf2 := Lib.hid (@look2 Try.prog 60 9 47 Try.underlying60 Try.underlying9 .nilFunc (fun _ => by kernel_rfl))
  have Nf2 := @run_neq_func Try.prog 47 _ _ _ Try.underlying47
  have Mf2 := @run_neq_nilFunc Try.prog 47 _ _ _ Try.underlying47
  go_enter Try.func14, Try.ntmps14
  go_wp2_with (first | (rw [Ipair.out]; rotate_left; simp; simp [findS]; go_simp) | (rw [Kpair.out]; rotate_left; simp; go_simp) | (rw [Lpair.out]; rotate_left; simp; go_simp) | (rw [If2.out]; rotate_left; simp; simp [findS]; go_simp) | (rw [Kf2.out]; rotate_left; simp; go_simp) | (rw [Lf2.out]; rotate_left; simp; go_simp))
  refine (shiftX_ASL _ n q4).mono ?_
  rintro _ _ ⟨rfl, rfl⟩
  go_wp2_with (first | (rw [Ipair.out]; rotate_left; simp; simp [findS]; go_simp) | (rw [Kpair.out]; rotate_left; simp; go_simp) | (rw [Lpair.out]; rotate_left; simp; go_simp) | (rw [If2.out]; rotate_left; simp; simp [findS]; go_simp) | (rw [Kf2.out]; rotate_left; simp; go_simp) | (rw [Lf2.out]; rotate_left; simp; go_simp))
  refine (asl_any _ m p hm.1 hm.2 hp.1 hp.2).mono ?_
  rintro _ _ ⟨rfl, rfl⟩
  go_wp2_with (first | (rw [Ipair.out]; rotate_left; simp; simp [findS]; go_simp) | (rw [Kpair.out]; rotate_left; simp; go_simp) | (rw [Lpair.out]; rotate_left; simp; go_simp) | (rw [If2.out]; rotate_left; simp; simp [findS]; go_simp) | (rw [Kf2.out]; rotate_left; simp; go_simp) | (rw [Lf2.out]; rotate_left; simp; go_simp))
  go_region
  go_wp2_with fail
  go_returns
  exact ⟨_, rfl, rfl, by repeat (first | with_reducible exact Kept.refl _ _ | with_reducible assumption | with_reducible apply Kept.alloc | with_reducible apply Kept.drew | with_reducible apply Kept.drewN | (with_reducible refine Kept.setCell ?_ (Or.inr (by simp <;> omega)) _))⟩

set_option maxHeartbeats 2000000 in
theorem modifies_LSR (w : World) (n : ByteArray) (r : Regs) (m : Int) (hr : r.Ok) (hm : Byte m) (q0 : (n.toList == [83, 76, 79]) = false) (q1 : (n.toList == [82, 76, 65]) = false) (q2 : (n.toList == [83, 82, 69]) = false) (q3 : (n.toList == [82, 82, 65]) = false) (q4 : (n.toList == [65, 83, 76]) = false) (q5 : (n.toList == [76, 83, 82]) = true) :
    Calls Try.prog 14 #[.string n, r.val, .int .u8 m] w (Post w [] fun v W => v = .tuple #[(({ r with p := (lsr m r.p).2 }, (lsr m r.p).1) : Regs × Int).1.val, .int .u8 (({ r with p := (lsr m r.p).2 }, (lsr m r.p).1) : Regs × Int).2]) := by
  obtain ⟨a, x, y, s, p, pc⟩ := r
  obtain ⟨ha, hx, hy, hs, hp, hpc⟩ := hr
  unfold Regs.val
  have Ipair := Lib.hid (@run_insertObj Try.prog 46 9 45 Try.underlying46 Try.underlying9)
  have Kpair := Lib.hid (@look1 Try.prog 46 9 45 Try.underlying46 Try.underlying9 (.agg #[.string ⟨#[]⟩, .string ⟨#[]⟩]) (fun _ => by kernel_rfl))
  have Lpair := Lib.hid (@look2 Try.prog 46 9 45 Try.underlying46 Try.underlying9 (.agg #[.string ⟨#[]⟩, .string ⟨#[]⟩]) (fun _ => by kernel_rfl))
  have If2 := Lib.hid (@run_insertObj Try.prog 60 9 47 Try.underlying60 Try.underlying9)
  have Kf2 := Lib.hid (@look1 Try.prog 60 9 47 Try.underlying60 Try.underlying9 .nilFunc (fun _ => by kernel_rfl))
  have Lf2 := Lib.hid (@look2 Try.prog 60 9 47 Try.underlying60 Try.underlying9 .nilFunc (fun _ => by kernel_rfl))
  have Nf2 := @run_neq_func Try.prog 47 _ _ _ Try.underlying47
  have Mf2 := @run_neq_nilFunc Try.prog 47 _ _ _ Try.underlying47
  go_enter Try.func14, Try.ntmps14
  go_wp2_with (first | (rw [Ipair.out]; rotate_left; simp; simp [findS]; go_simp) | (rw [Kpair.out]; rotate_left; simp; go_simp) | (rw [Lpair.out]; rotate_left; simp; go_simp) | (rw [If2.out]; rotate_left; simp; simp [findS]; go_simp) | (rw [Kf2.out]; rotate_left; simp; go_simp) | (rw [Lf2.out]; rotate_left; simp; go_simp))
  refine (shiftX_LSR _ n q4 q5).mono ?_
  rintro _ _ ⟨rfl, rfl⟩
  go_wp2_with (first | (rw [Ipair.out]; rotate_left; simp; simp [findS]; go_simp) | (rw [Kpair.out]; rotate_left; simp; go_simp) | (rw [Lpair.out]; rotate_left; simp; go_simp) | (rw [If2.out]; rotate_left; simp; simp [findS]; go_simp) | (rw [Kf2.out]; rotate_left; simp; go_simp) | (rw [Lf2.out]; rotate_left; simp; go_simp))
  refine (lsr_any _ m p hm.1 hm.2 hp.1 hp.2).mono ?_
  rintro _ _ ⟨rfl, rfl⟩
  go_wp2_with (first | (rw [Ipair.out]; rotate_left; simp; simp [findS]; go_simp) | (rw [Kpair.out]; rotate_left; simp; go_simp) | (rw [Lpair.out]; rotate_left; simp; go_simp) | (rw [If2.out]; rotate_left; simp; simp [findS]; go_simp) | (rw [Kf2.out]; rotate_left; simp; go_simp) | (rw [Lf2.out]; rotate_left; simp; go_simp))
  go_region
  go_wp2_with fail
  go_returns
  exact ⟨_, rfl, rfl, by repeat (first | with_reducible exact Kept.refl _ _ | with_reducible assumption | with_reducible apply Kept.alloc | with_reducible apply Kept.drew | with_reducible apply Kept.drewN | (with_reducible refine Kept.setCell ?_ (Or.inr (by simp <;> omega)) _))⟩

set_option maxHeartbeats 2000000 in
theorem modifies_ROL (w : World) (n : ByteArray) (r : Regs) (m : Int) (hr : r.Ok) (hm : Byte m) (q0 : (n.toList == [83, 76, 79]) = false) (q1 : (n.toList == [82, 76, 65]) = false) (q2 : (n.toList == [83, 82, 69]) = false) (q3 : (n.toList == [82, 82, 65]) = false) (q4 : (n.toList == [65, 83, 76]) = false) (q5 : (n.toList == [76, 83, 82]) = false) (q6 : (n.toList == [82, 79, 76]) = true) :
    Calls Try.prog 14 #[.string n, r.val, .int .u8 m] w (Post w [] fun v W => v = .tuple #[(({ r with p := (rol m r.p).2 }, (rol m r.p).1) : Regs × Int).1.val, .int .u8 (({ r with p := (rol m r.p).2 }, (rol m r.p).1) : Regs × Int).2]) := by
  obtain ⟨a, x, y, s, p, pc⟩ := r
  obtain ⟨ha, hx, hy, hs, hp, hpc⟩ := hr
  unfold Regs.val
  have Ipair := Lib.hid (@run_insertObj Try.prog 46 9 45 Try.underlying46 Try.underlying9)
  have Kpair := Lib.hid (@look1 Try.prog 46 9 45 Try.underlying46 Try.underlying9 (.agg #[.string ⟨#[]⟩, .string ⟨#[]⟩]) (fun _ => by kernel_rfl))
  have Lpair := Lib.hid (@look2 Try.prog 46 9 45 Try.underlying46 Try.underlying9 (.agg #[.string ⟨#[]⟩, .string ⟨#[]⟩]) (fun _ => by kernel_rfl))
  have If2 := Lib.hid (@run_insertObj Try.prog 60 9 47 Try.underlying60 Try.underlying9)
  have Kf2 := Lib.hid (@look1 Try.prog 60 9 47 Try.underlying60 Try.underlying9 .nilFunc (fun _ => by kernel_rfl))
  have Lf2 := Lib.hid (@look2 Try.prog 60 9 47 Try.underlying60 Try.underlying9 .nilFunc (fun _ => by kernel_rfl))
  have Nf2 := @run_neq_func Try.prog 47 _ _ _ Try.underlying47
  have Mf2 := @run_neq_nilFunc Try.prog 47 _ _ _ Try.underlying47
  go_enter Try.func14, Try.ntmps14
  go_wp2_with (first | (rw [Ipair.out]; rotate_left; simp; simp [findS]; go_simp) | (rw [Kpair.out]; rotate_left; simp; go_simp) | (rw [Lpair.out]; rotate_left; simp; go_simp) | (rw [If2.out]; rotate_left; simp; simp [findS]; go_simp) | (rw [Kf2.out]; rotate_left; simp; go_simp) | (rw [Lf2.out]; rotate_left; simp; go_simp))
  refine (shiftX_ROL _ n q4 q5 q6).mono ?_
  rintro _ _ ⟨rfl, rfl⟩
  go_wp2_with (first | (rw [Ipair.out]; rotate_left; simp; simp [findS]; go_simp) | (rw [Kpair.out]; rotate_left; simp; go_simp) | (rw [Lpair.out]; rotate_left; simp; go_simp) | (rw [If2.out]; rotate_left; simp; simp [findS]; go_simp) | (rw [Kf2.out]; rotate_left; simp; go_simp) | (rw [Lf2.out]; rotate_left; simp; go_simp))
  refine (rol_any _ m p hm.1 hm.2 hp.1 hp.2).mono ?_
  rintro _ _ ⟨rfl, rfl⟩
  go_wp2_with (first | (rw [Ipair.out]; rotate_left; simp; simp [findS]; go_simp) | (rw [Kpair.out]; rotate_left; simp; go_simp) | (rw [Lpair.out]; rotate_left; simp; go_simp) | (rw [If2.out]; rotate_left; simp; simp [findS]; go_simp) | (rw [Kf2.out]; rotate_left; simp; go_simp) | (rw [Lf2.out]; rotate_left; simp; go_simp))
  go_region
  go_wp2_with fail
  go_returns
  exact ⟨_, rfl, rfl, by repeat (first | with_reducible exact Kept.refl _ _ | with_reducible assumption | with_reducible apply Kept.alloc | with_reducible apply Kept.drew | with_reducible apply Kept.drewN | (with_reducible refine Kept.setCell ?_ (Or.inr (by simp <;> omega)) _))⟩

set_option maxHeartbeats 2000000 in
theorem modifies_ROR (w : World) (n : ByteArray) (r : Regs) (m : Int) (hr : r.Ok) (hm : Byte m) (q0 : (n.toList == [83, 76, 79]) = false) (q1 : (n.toList == [82, 76, 65]) = false) (q2 : (n.toList == [83, 82, 69]) = false) (q3 : (n.toList == [82, 82, 65]) = false) (q4 : (n.toList == [65, 83, 76]) = false) (q5 : (n.toList == [76, 83, 82]) = false) (q6 : (n.toList == [82, 79, 76]) = false) (q7 : (n.toList == [82, 79, 82]) = true) :
    Calls Try.prog 14 #[.string n, r.val, .int .u8 m] w (Post w [] fun v W => v = .tuple #[(({ r with p := (ror m r.p).2 }, (ror m r.p).1) : Regs × Int).1.val, .int .u8 (({ r with p := (ror m r.p).2 }, (ror m r.p).1) : Regs × Int).2]) := by
  obtain ⟨a, x, y, s, p, pc⟩ := r
  obtain ⟨ha, hx, hy, hs, hp, hpc⟩ := hr
  unfold Regs.val
  have Ipair := Lib.hid (@run_insertObj Try.prog 46 9 45 Try.underlying46 Try.underlying9)
  have Kpair := Lib.hid (@look1 Try.prog 46 9 45 Try.underlying46 Try.underlying9 (.agg #[.string ⟨#[]⟩, .string ⟨#[]⟩]) (fun _ => by kernel_rfl))
  have Lpair := Lib.hid (@look2 Try.prog 46 9 45 Try.underlying46 Try.underlying9 (.agg #[.string ⟨#[]⟩, .string ⟨#[]⟩]) (fun _ => by kernel_rfl))
  have If2 := Lib.hid (@run_insertObj Try.prog 60 9 47 Try.underlying60 Try.underlying9)
  have Kf2 := Lib.hid (@look1 Try.prog 60 9 47 Try.underlying60 Try.underlying9 .nilFunc (fun _ => by kernel_rfl))
  have Lf2 := Lib.hid (@look2 Try.prog 60 9 47 Try.underlying60 Try.underlying9 .nilFunc (fun _ => by kernel_rfl))
  have Nf2 := @run_neq_func Try.prog 47 _ _ _ Try.underlying47
  have Mf2 := @run_neq_nilFunc Try.prog 47 _ _ _ Try.underlying47
  go_enter Try.func14, Try.ntmps14
  go_wp2_with (first | (rw [Ipair.out]; rotate_left; simp; simp [findS]; go_simp) | (rw [Kpair.out]; rotate_left; simp; go_simp) | (rw [Lpair.out]; rotate_left; simp; go_simp) | (rw [If2.out]; rotate_left; simp; simp [findS]; go_simp) | (rw [Kf2.out]; rotate_left; simp; go_simp) | (rw [Lf2.out]; rotate_left; simp; go_simp))
  refine (shiftX_ROR _ n q4 q5 q6 q7).mono ?_
  rintro _ _ ⟨rfl, rfl⟩
  go_wp2_with (first | (rw [Ipair.out]; rotate_left; simp; simp [findS]; go_simp) | (rw [Kpair.out]; rotate_left; simp; go_simp) | (rw [Lpair.out]; rotate_left; simp; go_simp) | (rw [If2.out]; rotate_left; simp; simp [findS]; go_simp) | (rw [Kf2.out]; rotate_left; simp; go_simp) | (rw [Lf2.out]; rotate_left; simp; go_simp))
  refine (ror_any _ m p hm.1 hm.2 hp.1 hp.2).mono ?_
  rintro _ _ ⟨rfl, rfl⟩
  go_wp2_with (first | (rw [Ipair.out]; rotate_left; simp; simp [findS]; go_simp) | (rw [Kpair.out]; rotate_left; simp; go_simp) | (rw [Lpair.out]; rotate_left; simp; go_simp) | (rw [If2.out]; rotate_left; simp; simp [findS]; go_simp) | (rw [Kf2.out]; rotate_left; simp; go_simp) | (rw [Lf2.out]; rotate_left; simp; go_simp))
  go_region
  go_wp2_with fail
  go_returns
  exact ⟨_, rfl, rfl, by repeat (first | with_reducible exact Kept.refl _ _ | with_reducible assumption | with_reducible apply Kept.alloc | with_reducible apply Kept.drew | with_reducible apply Kept.drewN | (with_reducible refine Kept.setCell ?_ (Or.inr (by simp <;> omega)) _))⟩

set_option maxHeartbeats 2000000 in
theorem modifies_INC (w : World) (n : ByteArray) (r : Regs) (m : Int) (hr : r.Ok) (hm : Byte m) (q0 : (n.toList == [83, 76, 79]) = false) (q1 : (n.toList == [82, 76, 65]) = false) (q2 : (n.toList == [83, 82, 69]) = false) (q3 : (n.toList == [82, 82, 65]) = false) (q4 : (n.toList == [65, 83, 76]) = false) (q5 : (n.toList == [76, 83, 82]) = false) (q6 : (n.toList == [82, 79, 76]) = false) (q7 : (n.toList == [82, 79, 82]) = false) (q8 : (n.toList == [73, 78, 67]) = true) :
    Calls Try.prog 14 #[.string n, r.val, .int .u8 m] w (Post w [] fun v W => v = .tuple #[(({ r with p := nzM r.p ((m + 1) % 256) }, (m + 1) % 256) : Regs × Int).1.val, .int .u8 (({ r with p := nzM r.p ((m + 1) % 256) }, (m + 1) % 256) : Regs × Int).2]) := by
  obtain ⟨a, x, y, s, p, pc⟩ := r
  obtain ⟨ha, hx, hy, hs, hp, hpc⟩ := hr
  unfold Regs.val
  have Ipair := Lib.hid (@run_insertObj Try.prog 46 9 45 Try.underlying46 Try.underlying9)
  have Kpair := Lib.hid (@look1 Try.prog 46 9 45 Try.underlying46 Try.underlying9 (.agg #[.string ⟨#[]⟩, .string ⟨#[]⟩]) (fun _ => by kernel_rfl))
  have Lpair := Lib.hid (@look2 Try.prog 46 9 45 Try.underlying46 Try.underlying9 (.agg #[.string ⟨#[]⟩, .string ⟨#[]⟩]) (fun _ => by kernel_rfl))
  have If2 := Lib.hid (@run_insertObj Try.prog 60 9 47 Try.underlying60 Try.underlying9)
  have Kf2 := Lib.hid (@look1 Try.prog 60 9 47 Try.underlying60 Try.underlying9 .nilFunc (fun _ => by kernel_rfl))
  have Lf2 := Lib.hid (@look2 Try.prog 60 9 47 Try.underlying60 Try.underlying9 .nilFunc (fun _ => by kernel_rfl))
  have Nf2 := @run_neq_func Try.prog 47 _ _ _ Try.underlying47
  have Mf2 := @run_neq_nilFunc Try.prog 47 _ _ _ Try.underlying47
  go_enter Try.func14, Try.ntmps14
  go_wp2_with (first | (rw [Ipair.out]; rotate_left; simp; simp [findS]; go_simp) | (rw [Kpair.out]; rotate_left; simp; go_simp) | (rw [Lpair.out]; rotate_left; simp; go_simp) | (rw [If2.out]; rotate_left; simp; simp [findS]; go_simp) | (rw [Kf2.out]; rotate_left; simp; go_simp) | (rw [Lf2.out]; rotate_left; simp; go_simp))
  refine (shiftX_other _ n q4 q5 q6 q7).mono ?_
  rintro _ _ ⟨rfl, rfl⟩
  go_wp2_with (first | (rw [Ipair.out]; rotate_left; simp; simp [findS]; go_simp) | (rw [Kpair.out]; rotate_left; simp; go_simp) | (rw [Lpair.out]; rotate_left; simp; go_simp) | (rw [If2.out]; rotate_left; simp; simp [findS]; go_simp) | (rw [Kf2.out]; rotate_left; simp; go_simp) | (rw [Lf2.out]; rotate_left; simp; go_simp))
  refine (set_any _ _ _ _ _ _ ((((((Blk.second w _ 5 [.int .u8 m]).alloc _).alloc _).alloc _).alloc shiftObj).cell 0 rfl) (((((((Blk.new w 29 [.int .u8 a, .int .u8 x, .int .u8 y, .int .u8 s, .int .u8 p, .int .u16 pc]).alloc (.cells #[.int .u8 m] 5)).alloc _).alloc _).alloc _).alloc shiftObj).cell 4 rfl) ((((((Blk.second w _ 5 [.int .u8 m]).alloc _).alloc _).alloc _).alloc shiftObj).free 0) (((((((Blk.new w 29 [.int .u8 a, .int .u8 x, .int .u8 y, .int .u8 s, .int .u8 p, .int .u16 pc]).alloc (.cells #[.int .u8 m] 5)).alloc _).alloc _).alloc _).alloc shiftObj).free 4) (by simp) hp.1 hp.2).mono ?_
  rintro _ _ ⟨rfl, rfl⟩
  go_wp2_with (first | (rw [Ipair.out]; rotate_left; simp; simp [findS]; go_simp) | (rw [Kpair.out]; rotate_left; simp; go_simp) | (rw [Lpair.out]; rotate_left; simp; go_simp) | (rw [If2.out]; rotate_left; simp; simp [findS]; go_simp) | (rw [Kf2.out]; rotate_left; simp; go_simp) | (rw [Lf2.out]; rotate_left; simp; go_simp))
  go_region
  go_wp2_with fail
  go_returns
  exact ⟨_, rfl, rfl, by repeat (first | with_reducible exact Kept.refl _ _ | with_reducible assumption | with_reducible apply Kept.alloc | with_reducible apply Kept.drew | with_reducible apply Kept.drewN | (with_reducible refine Kept.setCell ?_ (Or.inr (by simp <;> omega)) _))⟩

set_option maxHeartbeats 2000000 in
theorem modifies_DEC (w : World) (n : ByteArray) (r : Regs) (m : Int) (hr : r.Ok) (hm : Byte m) (q0 : (n.toList == [83, 76, 79]) = false) (q1 : (n.toList == [82, 76, 65]) = false) (q2 : (n.toList == [83, 82, 69]) = false) (q3 : (n.toList == [82, 82, 65]) = false) (q4 : (n.toList == [65, 83, 76]) = false) (q5 : (n.toList == [76, 83, 82]) = false) (q6 : (n.toList == [82, 79, 76]) = false) (q7 : (n.toList == [82, 79, 82]) = false) (q8 : (n.toList == [73, 78, 67]) = false) (q9 : (n.toList == [68, 69, 67]) = true) :
    Calls Try.prog 14 #[.string n, r.val, .int .u8 m] w (Post w [] fun v W => v = .tuple #[(({ r with p := nzM r.p ((m - 1) % 256) }, (m - 1) % 256) : Regs × Int).1.val, .int .u8 (({ r with p := nzM r.p ((m - 1) % 256) }, (m - 1) % 256) : Regs × Int).2]) := by
  obtain ⟨a, x, y, s, p, pc⟩ := r
  obtain ⟨ha, hx, hy, hs, hp, hpc⟩ := hr
  unfold Regs.val
  have Ipair := Lib.hid (@run_insertObj Try.prog 46 9 45 Try.underlying46 Try.underlying9)
  have Kpair := Lib.hid (@look1 Try.prog 46 9 45 Try.underlying46 Try.underlying9 (.agg #[.string ⟨#[]⟩, .string ⟨#[]⟩]) (fun _ => by kernel_rfl))
  have Lpair := Lib.hid (@look2 Try.prog 46 9 45 Try.underlying46 Try.underlying9 (.agg #[.string ⟨#[]⟩, .string ⟨#[]⟩]) (fun _ => by kernel_rfl))
  have If2 := Lib.hid (@run_insertObj Try.prog 60 9 47 Try.underlying60 Try.underlying9)
  have Kf2 := Lib.hid (@look1 Try.prog 60 9 47 Try.underlying60 Try.underlying9 .nilFunc (fun _ => by kernel_rfl))
  have Lf2 := Lib.hid (@look2 Try.prog 60 9 47 Try.underlying60 Try.underlying9 .nilFunc (fun _ => by kernel_rfl))
  have Nf2 := @run_neq_func Try.prog 47 _ _ _ Try.underlying47
  have Mf2 := @run_neq_nilFunc Try.prog 47 _ _ _ Try.underlying47
  go_enter Try.func14, Try.ntmps14
  go_wp2_with (first | (rw [Ipair.out]; rotate_left; simp; simp [findS]; go_simp) | (rw [Kpair.out]; rotate_left; simp; go_simp) | (rw [Lpair.out]; rotate_left; simp; go_simp) | (rw [If2.out]; rotate_left; simp; simp [findS]; go_simp) | (rw [Kf2.out]; rotate_left; simp; go_simp) | (rw [Lf2.out]; rotate_left; simp; go_simp))
  refine (shiftX_other _ n q4 q5 q6 q7).mono ?_
  rintro _ _ ⟨rfl, rfl⟩
  go_wp2_with (first | (rw [Ipair.out]; rotate_left; simp; simp [findS]; go_simp) | (rw [Kpair.out]; rotate_left; simp; go_simp) | (rw [Lpair.out]; rotate_left; simp; go_simp) | (rw [If2.out]; rotate_left; simp; simp [findS]; go_simp) | (rw [Kf2.out]; rotate_left; simp; go_simp) | (rw [Lf2.out]; rotate_left; simp; go_simp))
  refine (set_any _ _ _ _ _ _ ((((((Blk.second w _ 5 [.int .u8 m]).alloc _).alloc _).alloc _).alloc shiftObj).cell 0 rfl) (((((((Blk.new w 29 [.int .u8 a, .int .u8 x, .int .u8 y, .int .u8 s, .int .u8 p, .int .u16 pc]).alloc (.cells #[.int .u8 m] 5)).alloc _).alloc _).alloc _).alloc shiftObj).cell 4 rfl) ((((((Blk.second w _ 5 [.int .u8 m]).alloc _).alloc _).alloc _).alloc shiftObj).free 0) (((((((Blk.new w 29 [.int .u8 a, .int .u8 x, .int .u8 y, .int .u8 s, .int .u8 p, .int .u16 pc]).alloc (.cells #[.int .u8 m] 5)).alloc _).alloc _).alloc _).alloc shiftObj).free 4) (by simp) hp.1 hp.2).mono ?_
  rintro _ _ ⟨rfl, rfl⟩
  go_wp2_with (first | (rw [Ipair.out]; rotate_left; simp; simp [findS]; go_simp) | (rw [Kpair.out]; rotate_left; simp; go_simp) | (rw [Lpair.out]; rotate_left; simp; go_simp) | (rw [If2.out]; rotate_left; simp; simp [findS]; go_simp) | (rw [Kf2.out]; rotate_left; simp; go_simp) | (rw [Lf2.out]; rotate_left; simp; go_simp))
  go_region
  go_wp2_with fail
  go_returns
  exact ⟨_, rfl, rfl, by repeat (first | with_reducible exact Kept.refl _ _ | with_reducible assumption | with_reducible apply Kept.alloc | with_reducible apply Kept.drew | with_reducible apply Kept.drewN | (with_reducible refine Kept.setCell ?_ (Or.inr (by simp <;> omega)) _))⟩

set_option maxHeartbeats 2000000 in
theorem modifies_other (w : World) (n : ByteArray) (r : Regs) (m : Int) (hr : r.Ok) (hm : Byte m) (q0 : (n.toList == [83, 76, 79]) = false) (q1 : (n.toList == [82, 76, 65]) = false) (q2 : (n.toList == [83, 82, 69]) = false) (q3 : (n.toList == [82, 82, 65]) = false) (q4 : (n.toList == [65, 83, 76]) = false) (q5 : (n.toList == [76, 83, 82]) = false) (q6 : (n.toList == [82, 79, 76]) = false) (q7 : (n.toList == [82, 79, 82]) = false) (q8 : (n.toList == [73, 78, 67]) = false) (q9 : (n.toList == [68, 69, 67]) = false) (q10 : (n.toList == [68, 67, 80]) = false) (q11 : (n.toList == [73, 83, 67]) = false) :
    Calls Try.prog 14 #[.string n, r.val, .int .u8 m] w (Post w [] fun v W => v = .tuple #[((r, m) : Regs × Int).1.val, .int .u8 ((r, m) : Regs × Int).2]) := by
  obtain ⟨a, x, y, s, p, pc⟩ := r
  obtain ⟨ha, hx, hy, hs, hp, hpc⟩ := hr
  unfold Regs.val
  have Ipair := Lib.hid (@run_insertObj Try.prog 46 9 45 Try.underlying46 Try.underlying9)
  have Kpair := Lib.hid (@look1 Try.prog 46 9 45 Try.underlying46 Try.underlying9 (.agg #[.string ⟨#[]⟩, .string ⟨#[]⟩]) (fun _ => by kernel_rfl))
  have Lpair := Lib.hid (@look2 Try.prog 46 9 45 Try.underlying46 Try.underlying9 (.agg #[.string ⟨#[]⟩, .string ⟨#[]⟩]) (fun _ => by kernel_rfl))
  have If2 := Lib.hid (@run_insertObj Try.prog 60 9 47 Try.underlying60 Try.underlying9)
  have Kf2 := Lib.hid (@look1 Try.prog 60 9 47 Try.underlying60 Try.underlying9 .nilFunc (fun _ => by kernel_rfl))
  have Lf2 := Lib.hid (@look2 Try.prog 60 9 47 Try.underlying60 Try.underlying9 .nilFunc (fun _ => by kernel_rfl))
  have Nf2 := @run_neq_func Try.prog 47 _ _ _ Try.underlying47
  have Mf2 := @run_neq_nilFunc Try.prog 47 _ _ _ Try.underlying47
  go_enter Try.func14, Try.ntmps14
  go_wp2_with (first | (rw [Ipair.out]; rotate_left; simp; simp [findS]; go_simp) | (rw [Kpair.out]; rotate_left; simp; go_simp) | (rw [Lpair.out]; rotate_left; simp; go_simp) | (rw [If2.out]; rotate_left; simp; simp [findS]; go_simp) | (rw [Kf2.out]; rotate_left; simp; go_simp) | (rw [Lf2.out]; rotate_left; simp; go_simp))
  refine (shiftX_other _ n q4 q5 q6 q7).mono ?_
  rintro _ _ ⟨rfl, rfl⟩
  go_wp2_with (first | (rw [Ipair.out]; rotate_left; simp; simp [findS]; go_simp) | (rw [Kpair.out]; rotate_left; simp; go_simp) | (rw [Lpair.out]; rotate_left; simp; go_simp) | (rw [If2.out]; rotate_left; simp; simp [findS]; go_simp) | (rw [Kf2.out]; rotate_left; simp; go_simp) | (rw [Lf2.out]; rotate_left; simp; go_simp))
  go_region
  go_wp2_with fail
  go_returns
  exact ⟨_, rfl, rfl, by repeat (first | with_reducible exact Kept.refl _ _ | with_reducible assumption | with_reducible apply Kept.alloc | with_reducible apply Kept.drew | with_reducible apply Kept.drewN | (with_reducible refine Kept.setCell ?_ (Or.inr (by simp <;> omega)) _))⟩

end Go.Proofs.Ytmiihcaccejklaa
