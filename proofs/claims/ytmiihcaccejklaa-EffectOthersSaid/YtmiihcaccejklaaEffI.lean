/- PROVED: the contract of effect.Inner at any name. No conditions beyond those that each theorem states. -/
import Derived.Test.YtmiihcaccejklaaEffN
namespace Go.Proofs.Ytmiihcaccejklaa
open Go.RowKit Go.Proofs.YtmiihcaccejklaaLib
set_option linter.unusedSimpArgs false
set_option linter.unusedVariables false
attribute [local go_sem] run_makeMapObj findS

theorem look2e {P : Program} {T K E : TypeId} (hT : P.underlying T = some (.map K E)) (hK : P.underlying K = some .string) (z : Value) (hz : ∀ w : World, (zeroValue E).run P w = .ok z w) (w : World) (b : Nat) (kvs : List (List UInt8 × Value)) (o : Obj) (s : ByteArray) (hb : w.heap.size = b) :
    (Instr.lookup T (.map (some b)) (.string s) false).run P ((w.alloc (mapObj kvs)).alloc o).drew = .ok ((findS s.toList kvs).getD z) ((w.alloc (mapObj kvs)).alloc o).drew :=
  (run_lookupObj hT hK z hz _ b kvs s (by subst hb; exact heap_alloc2_old _ _ _)).2
theorem text_of {n : ByteArray} {L : List UInt8} (h : (n.toList == L) = true) : n = ⟨L.toArray⟩ := by
  have e : n.toList = L := by simpa using h
  rw [ByteArray.toList_eq] at e
  cases n with
  | mk d => simp at e; subst e; simp

set_option maxHeartbeats 2000000 in
theorem inner_ASL (w : World) (n : ByteArray) (r : Regs) (hr : r.Ok) (q0 : (n.toList == [65, 83, 76]) = true) :
    Calls Try.prog 25 #[.string n, r.val] w (Post w [] fun v W => v = ({ r with a := (asl r.a r.p).1, p := (asl r.a r.p).2 } : Regs).val) := by
  obtain ⟨a, x, y, s, p, pc⟩ := r
  obtain ⟨ha, hx, hy, hs, hp, hpc⟩ := hr
  unfold Regs.val
  have Iu8 := Lib.hid (@run_insertObj Try.prog 42 9 5 Try.underlying42 Try.underlying9)
  have Ku8 := Lib.hid (@look1 Try.prog 42 9 5 Try.underlying42 Try.underlying9 (.int .u8 0) (fun _ => by kernel_rfl))
  have Lu8 := Lib.hid (@look2 Try.prog 42 9 5 Try.underlying42 Try.underlying9 (.int .u8 0) (fun _ => by kernel_rfl))
  have If2 := Lib.hid (@run_insertObj Try.prog 60 9 47 Try.underlying60 Try.underlying9)
  have Kf2 := Lib.hid (@look1 Try.prog 60 9 47 Try.underlying60 Try.underlying9 .nilFunc (fun _ => by kernel_rfl))
  have Lf2 := Lib.hid (@look2 Try.prog 60 9 47 Try.underlying60 Try.underlying9 .nilFunc (fun _ => by kernel_rfl))
  have Nf2 := @run_neq_func Try.prog 47 _ _ _ Try.underlying47
  have Mf2 := @run_neq_nilFunc Try.prog 47 _ _ _ Try.underlying47
  go_enter Try.func25, Try.ntmps25
  go_wp2_with (first | (rw [Iu8.out]; rotate_left; simp; simp [findS]; go_simp) | (rw [Ku8.out]; rotate_left; simp; go_simp) | (rw [Lu8.out]; rotate_left; simp; go_simp) | (rw [If2.out]; rotate_left; simp; simp [findS]; go_simp) | (rw [Kf2.out]; rotate_left; simp; go_simp) | (rw [Lf2.out]; rotate_left; simp; go_simp))
  refine (shiftX_ASL _ n q0).mono ?_
  rintro _ _ ⟨rfl, rfl⟩
  go_wp2_with (first | (rw [Iu8.out]; rotate_left; simp; simp [findS]; go_simp) | (rw [Ku8.out]; rotate_left; simp; go_simp) | (rw [Lu8.out]; rotate_left; simp; go_simp) | (rw [If2.out]; rotate_left; simp; simp [findS]; go_simp) | (rw [Kf2.out]; rotate_left; simp; go_simp) | (rw [Lf2.out]; rotate_left; simp; go_simp))
  refine (asl_any _ a p ha.1 ha.2 hp.1 hp.2).mono ?_
  rintro _ _ ⟨rfl, rfl⟩
  go_wp2_with (first | (rw [Iu8.out]; rotate_left; simp; simp [findS]; go_simp) | (rw [Ku8.out]; rotate_left; simp; go_simp) | (rw [Lu8.out]; rotate_left; simp; go_simp) | (rw [If2.out]; rotate_left; simp; simp [findS]; go_simp) | (rw [Kf2.out]; rotate_left; simp; go_simp) | (rw [Lf2.out]; rotate_left; simp; go_simp))
  go_returns
  exact ⟨_, rfl, rfl, by repeat (first | with_reducible exact Kept.refl _ _ | with_reducible assumption | with_reducible apply Kept.alloc | with_reducible apply Kept.drew | with_reducible apply Kept.drewN | (with_reducible refine Kept.setCell ?_ (Or.inr (by simp <;> omega)) _))⟩

set_option maxHeartbeats 2000000 in
theorem inner_LSR (w : World) (n : ByteArray) (r : Regs) (hr : r.Ok) (q0 : (n.toList == [65, 83, 76]) = false) (q1 : (n.toList == [76, 83, 82]) = true) :
    Calls Try.prog 25 #[.string n, r.val] w (Post w [] fun v W => v = ({ r with a := (lsr r.a r.p).1, p := (lsr r.a r.p).2 } : Regs).val) := by
  obtain ⟨a, x, y, s, p, pc⟩ := r
  obtain ⟨ha, hx, hy, hs, hp, hpc⟩ := hr
  unfold Regs.val
  have Iu8 := Lib.hid (@run_insertObj Try.prog 42 9 5 Try.underlying42 Try.underlying9)
  have Ku8 := Lib.hid (@look1 Try.prog 42 9 5 Try.underlying42 Try.underlying9 (.int .u8 0) (fun _ => by kernel_rfl))
  have Lu8 := Lib.hid (@look2 Try.prog 42 9 5 Try.underlying42 Try.underlying9 (.int .u8 0) (fun _ => by kernel_rfl))
  have If2 := Lib.hid (@run_insertObj Try.prog 60 9 47 Try.underlying60 Try.underlying9)
  have Kf2 := Lib.hid (@look1 Try.prog 60 9 47 Try.underlying60 Try.underlying9 .nilFunc (fun _ => by kernel_rfl))
  have Lf2 := Lib.hid (@look2 Try.prog 60 9 47 Try.underlying60 Try.underlying9 .nilFunc (fun _ => by kernel_rfl))
  have Nf2 := @run_neq_func Try.prog 47 _ _ _ Try.underlying47
  have Mf2 := @run_neq_nilFunc Try.prog 47 _ _ _ Try.underlying47
  go_enter Try.func25, Try.ntmps25
  go_wp2_with (first | (rw [Iu8.out]; rotate_left; simp; simp [findS]; go_simp) | (rw [Ku8.out]; rotate_left; simp; go_simp) | (rw [Lu8.out]; rotate_left; simp; go_simp) | (rw [If2.out]; rotate_left; simp; simp [findS]; go_simp) | (rw [Kf2.out]; rotate_left; simp; go_simp) | (rw [Lf2.out]; rotate_left; simp; go_simp))
  refine (shiftX_LSR _ n q0 q1).mono ?_
  rintro _ _ ⟨rfl, rfl⟩
  go_wp2_with (first | (rw [Iu8.out]; rotate_left; simp; simp [findS]; go_simp) | (rw [Ku8.out]; rotate_left; simp; go_simp) | (rw [Lu8.out]; rotate_left; simp; go_simp) | (rw [If2.out]; rotate_left; simp; simp [findS]; go_simp) | (rw [Kf2.out]; rotate_left; simp; go_simp) | (rw [Lf2.out]; rotate_left; simp; go_simp))
  refine (lsr_any _ a p ha.1 ha.2 hp.1 hp.2).mono ?_
  rintro _ _ ⟨rfl, rfl⟩
  go_wp2_with (first | (rw [Iu8.out]; rotate_left; simp; simp [findS]; go_simp) | (rw [Ku8.out]; rotate_left; simp; go_simp) | (rw [Lu8.out]; rotate_left; simp; go_simp) | (rw [If2.out]; rotate_left; simp; simp [findS]; go_simp) | (rw [Kf2.out]; rotate_left; simp; go_simp) | (rw [Lf2.out]; rotate_left; simp; go_simp))
  go_returns
  exact ⟨_, rfl, rfl, by repeat (first | with_reducible exact Kept.refl _ _ | with_reducible assumption | with_reducible apply Kept.alloc | with_reducible apply Kept.drew | with_reducible apply Kept.drewN | (with_reducible refine Kept.setCell ?_ (Or.inr (by simp <;> omega)) _))⟩

set_option maxHeartbeats 2000000 in
theorem inner_ROL (w : World) (n : ByteArray) (r : Regs) (hr : r.Ok) (q0 : (n.toList == [65, 83, 76]) = false) (q1 : (n.toList == [76, 83, 82]) = false) (q2 : (n.toList == [82, 79, 76]) = true) :
    Calls Try.prog 25 #[.string n, r.val] w (Post w [] fun v W => v = ({ r with a := (rol r.a r.p).1, p := (rol r.a r.p).2 } : Regs).val) := by
  obtain ⟨a, x, y, s, p, pc⟩ := r
  obtain ⟨ha, hx, hy, hs, hp, hpc⟩ := hr
  unfold Regs.val
  have Iu8 := Lib.hid (@run_insertObj Try.prog 42 9 5 Try.underlying42 Try.underlying9)
  have Ku8 := Lib.hid (@look1 Try.prog 42 9 5 Try.underlying42 Try.underlying9 (.int .u8 0) (fun _ => by kernel_rfl))
  have Lu8 := Lib.hid (@look2 Try.prog 42 9 5 Try.underlying42 Try.underlying9 (.int .u8 0) (fun _ => by kernel_rfl))
  have If2 := Lib.hid (@run_insertObj Try.prog 60 9 47 Try.underlying60 Try.underlying9)
  have Kf2 := Lib.hid (@look1 Try.prog 60 9 47 Try.underlying60 Try.underlying9 .nilFunc (fun _ => by kernel_rfl))
  have Lf2 := Lib.hid (@look2 Try.prog 60 9 47 Try.underlying60 Try.underlying9 .nilFunc (fun _ => by kernel_rfl))
  have Nf2 := @run_neq_func Try.prog 47 _ _ _ Try.underlying47
  have Mf2 := @run_neq_nilFunc Try.prog 47 _ _ _ Try.underlying47
  go_enter Try.func25, Try.ntmps25
  go_wp2_with (first | (rw [Iu8.out]; rotate_left; simp; simp [findS]; go_simp) | (rw [Ku8.out]; rotate_left; simp; go_simp) | (rw [Lu8.out]; rotate_left; simp; go_simp) | (rw [If2.out]; rotate_left; simp; simp [findS]; go_simp) | (rw [Kf2.out]; rotate_left; simp; go_simp) | (rw [Lf2.out]; rotate_left; simp; go_simp))
  refine (shiftX_ROL _ n q0 q1 q2).mono ?_
  rintro _ _ ⟨rfl, rfl⟩
  go_wp2_with (first | (rw [Iu8.out]; rotate_left; simp; simp [findS]; go_simp) | (rw [Ku8.out]; rotate_left; simp; go_simp) | (rw [Lu8.out]; rotate_left; simp; go_simp) | (rw [If2.out]; rotate_left; simp; simp [findS]; go_simp) | (rw [Kf2.out]; rotate_left; simp; go_simp) | (rw [Lf2.out]; rotate_left; simp; go_simp))
  refine (rol_any _ a p ha.1 ha.2 hp.1 hp.2).mono ?_
  rintro _ _ ⟨rfl, rfl⟩
  go_wp2_with (first | (rw [Iu8.out]; rotate_left; simp; simp [findS]; go_simp) | (rw [Ku8.out]; rotate_left; simp; go_simp) | (rw [Lu8.out]; rotate_left; simp; go_simp) | (rw [If2.out]; rotate_left; simp; simp [findS]; go_simp) | (rw [Kf2.out]; rotate_left; simp; go_simp) | (rw [Lf2.out]; rotate_left; simp; go_simp))
  go_returns
  exact ⟨_, rfl, rfl, by repeat (first | with_reducible exact Kept.refl _ _ | with_reducible assumption | with_reducible apply Kept.alloc | with_reducible apply Kept.drew | with_reducible apply Kept.drewN | (with_reducible refine Kept.setCell ?_ (Or.inr (by simp <;> omega)) _))⟩

set_option maxHeartbeats 2000000 in
theorem inner_ROR (w : World) (n : ByteArray) (r : Regs) (hr : r.Ok) (q0 : (n.toList == [65, 83, 76]) = false) (q1 : (n.toList == [76, 83, 82]) = false) (q2 : (n.toList == [82, 79, 76]) = false) (q3 : (n.toList == [82, 79, 82]) = true) :
    Calls Try.prog 25 #[.string n, r.val] w (Post w [] fun v W => v = ({ r with a := (ror r.a r.p).1, p := (ror r.a r.p).2 } : Regs).val) := by
  obtain ⟨a, x, y, s, p, pc⟩ := r
  obtain ⟨ha, hx, hy, hs, hp, hpc⟩ := hr
  unfold Regs.val
  have Iu8 := Lib.hid (@run_insertObj Try.prog 42 9 5 Try.underlying42 Try.underlying9)
  have Ku8 := Lib.hid (@look1 Try.prog 42 9 5 Try.underlying42 Try.underlying9 (.int .u8 0) (fun _ => by kernel_rfl))
  have Lu8 := Lib.hid (@look2 Try.prog 42 9 5 Try.underlying42 Try.underlying9 (.int .u8 0) (fun _ => by kernel_rfl))
  have If2 := Lib.hid (@run_insertObj Try.prog 60 9 47 Try.underlying60 Try.underlying9)
  have Kf2 := Lib.hid (@look1 Try.prog 60 9 47 Try.underlying60 Try.underlying9 .nilFunc (fun _ => by kernel_rfl))
  have Lf2 := Lib.hid (@look2 Try.prog 60 9 47 Try.underlying60 Try.underlying9 .nilFunc (fun _ => by kernel_rfl))
  have Nf2 := @run_neq_func Try.prog 47 _ _ _ Try.underlying47
  have Mf2 := @run_neq_nilFunc Try.prog 47 _ _ _ Try.underlying47
  go_enter Try.func25, Try.ntmps25
  go_wp2_with (first | (rw [Iu8.out]; rotate_left; simp; simp [findS]; go_simp) | (rw [Ku8.out]; rotate_left; simp; go_simp) | (rw [Lu8.out]; rotate_left; simp; go_simp) | (rw [If2.out]; rotate_left; simp; simp [findS]; go_simp) | (rw [Kf2.out]; rotate_left; simp; go_simp) | (rw [Lf2.out]; rotate_left; simp; go_simp))
  refine (shiftX_ROR _ n q0 q1 q2 q3).mono ?_
  rintro _ _ ⟨rfl, rfl⟩
  go_wp2_with (first | (rw [Iu8.out]; rotate_left; simp; simp [findS]; go_simp) | (rw [Ku8.out]; rotate_left; simp; go_simp) | (rw [Lu8.out]; rotate_left; simp; go_simp) | (rw [If2.out]; rotate_left; simp; simp [findS]; go_simp) | (rw [Kf2.out]; rotate_left; simp; go_simp) | (rw [Lf2.out]; rotate_left; simp; go_simp))
  refine (ror_any _ a p ha.1 ha.2 hp.1 hp.2).mono ?_
  rintro _ _ ⟨rfl, rfl⟩
  go_wp2_with (first | (rw [Iu8.out]; rotate_left; simp; simp [findS]; go_simp) | (rw [Ku8.out]; rotate_left; simp; go_simp) | (rw [Lu8.out]; rotate_left; simp; go_simp) | (rw [If2.out]; rotate_left; simp; simp [findS]; go_simp) | (rw [Kf2.out]; rotate_left; simp; go_simp) | (rw [Lf2.out]; rotate_left; simp; go_simp))
  go_returns
  exact ⟨_, rfl, rfl, by repeat (first | with_reducible exact Kept.refl _ _ | with_reducible assumption | with_reducible apply Kept.alloc | with_reducible apply Kept.drew | with_reducible apply Kept.drewN | (with_reducible refine Kept.setCell ?_ (Or.inr (by simp <;> omega)) _))⟩

set_option maxHeartbeats 2000000 in
theorem inner_CLC (w : World) (r : Regs) (hr : r.Ok)  :
    Calls Try.prog 25 #[.string (⟨#[67, 76, 67]⟩ : ByteArray), r.val] w (Post w [] fun v W => v = ({ r with p := setF r.p 1 false } : Regs).val) := by
  obtain ⟨a, x, y, s, p, pc⟩ := r
  obtain ⟨ha, hx, hy, hs, hp, hpc⟩ := hr
  unfold Regs.val
  have Iu8 := Lib.hid (@run_insertObj Try.prog 42 9 5 Try.underlying42 Try.underlying9)
  have Ku8 := Lib.hid (@look1 Try.prog 42 9 5 Try.underlying42 Try.underlying9 (.int .u8 0) (fun _ => by kernel_rfl))
  have Lu8 := Lib.hid (@look2 Try.prog 42 9 5 Try.underlying42 Try.underlying9 (.int .u8 0) (fun _ => by kernel_rfl))
  have If2 := Lib.hid (@run_insertObj Try.prog 60 9 47 Try.underlying60 Try.underlying9)
  have Kf2 := Lib.hid (@look1 Try.prog 60 9 47 Try.underlying60 Try.underlying9 .nilFunc (fun _ => by kernel_rfl))
  have Lf2 := Lib.hid (@look2 Try.prog 60 9 47 Try.underlying60 Try.underlying9 .nilFunc (fun _ => by kernel_rfl))
  have Nf2 := @run_neq_func Try.prog 47 _ _ _ Try.underlying47
  have Mf2 := @run_neq_nilFunc Try.prog 47 _ _ _ Try.underlying47
  go_enter Try.func25, Try.ntmps25
  go_wp2_with (first | (rw [Iu8.out]; rotate_left; simp; simp [findS]; go_simp) | (rw [Ku8.out]; rotate_left; simp; go_simp) | (rw [Lu8.out]; rotate_left; simp; go_simp) | (rw [If2.out]; rotate_left; simp; simp [findS]; go_simp) | (rw [Kf2.out]; rotate_left; simp; go_simp) | (rw [Lf2.out]; rotate_left; simp; go_simp))
  have e1 := andNot_flag 1 (by simp [IsFlag]) p hp.1 hp.2
  have x1 : ((⟨#[67, 76, 67]⟩ : ByteArray).extract 2 3).toList = [67] := by rw [ByteArray.toList_eq]; rfl
  refine (shiftX_other _ _ (by rw [ByteArray.toList_eq]; rfl) (by rw [ByteArray.toList_eq]; rfl) (by rw [ByteArray.toList_eq]; rfl) (by rw [ByteArray.toList_eq]; rfl)).mono ?_
  rintro _ _ ⟨rfl, rfl⟩
  go_wp2_with (first | (rw [Iu8.out]; rotate_left; simp; simp [findS]; go_simp) | (rw [Ku8.out]; rotate_left; simp; go_simp) | (rw [Lu8.out]; rotate_left; simp; go_simp) | (rw [If2.out]; rotate_left; simp; simp [findS]; go_simp) | (rw [Kf2.out]; rotate_left; simp; go_simp) | (rw [Lf2.out]; rotate_left; simp; go_simp))
  have E8 := @look2e Try.prog 42 9 5 Try.underlying42 Try.underlying9 (.int .u8 0) (fun _ => by kernel_rfl)
  go_region
  go_wp2_with fail
  go_returns
  exact ⟨_, rfl, rfl, by repeat (first | with_reducible exact Kept.refl _ _ | with_reducible assumption | with_reducible apply Kept.alloc | with_reducible apply Kept.drew | with_reducible apply Kept.drewN | (with_reducible refine Kept.setCell ?_ (Or.inr (by simp <;> omega)) _))⟩

set_option maxHeartbeats 2000000 in
theorem inner_CLD (w : World) (r : Regs) (hr : r.Ok)  :
    Calls Try.prog 25 #[.string (⟨#[67, 76, 68]⟩ : ByteArray), r.val] w (Post w [] fun v W => v = ({ r with p := setF r.p 8 false } : Regs).val) := by
  obtain ⟨a, x, y, s, p, pc⟩ := r
  obtain ⟨ha, hx, hy, hs, hp, hpc⟩ := hr
  unfold Regs.val
  have Iu8 := Lib.hid (@run_insertObj Try.prog 42 9 5 Try.underlying42 Try.underlying9)
  have Ku8 := Lib.hid (@look1 Try.prog 42 9 5 Try.underlying42 Try.underlying9 (.int .u8 0) (fun _ => by kernel_rfl))
  have Lu8 := Lib.hid (@look2 Try.prog 42 9 5 Try.underlying42 Try.underlying9 (.int .u8 0) (fun _ => by kernel_rfl))
  have If2 := Lib.hid (@run_insertObj Try.prog 60 9 47 Try.underlying60 Try.underlying9)
  have Kf2 := Lib.hid (@look1 Try.prog 60 9 47 Try.underlying60 Try.underlying9 .nilFunc (fun _ => by kernel_rfl))
  have Lf2 := Lib.hid (@look2 Try.prog 60 9 47 Try.underlying60 Try.underlying9 .nilFunc (fun _ => by kernel_rfl))
  have Nf2 := @run_neq_func Try.prog 47 _ _ _ Try.underlying47
  have Mf2 := @run_neq_nilFunc Try.prog 47 _ _ _ Try.underlying47
  go_enter Try.func25, Try.ntmps25
  go_wp2_with (first | (rw [Iu8.out]; rotate_left; simp; simp [findS]; go_simp) | (rw [Ku8.out]; rotate_left; simp; go_simp) | (rw [Lu8.out]; rotate_left; simp; go_simp) | (rw [If2.out]; rotate_left; simp; simp [findS]; go_simp) | (rw [Kf2.out]; rotate_left; simp; go_simp) | (rw [Lf2.out]; rotate_left; simp; go_simp))
  have e1 := andNot_flag 8 (by simp [IsFlag]) p hp.1 hp.2
  have x1 : ((⟨#[67, 76, 68]⟩ : ByteArray).extract 2 3).toList = [68] := by rw [ByteArray.toList_eq]; rfl
  refine (shiftX_other _ _ (by rw [ByteArray.toList_eq]; rfl) (by rw [ByteArray.toList_eq]; rfl) (by rw [ByteArray.toList_eq]; rfl) (by rw [ByteArray.toList_eq]; rfl)).mono ?_
  rintro _ _ ⟨rfl, rfl⟩
  go_wp2_with (first | (rw [Iu8.out]; rotate_left; simp; simp [findS]; go_simp) | (rw [Ku8.out]; rotate_left; simp; go_simp) | (rw [Lu8.out]; rotate_left; simp; go_simp) | (rw [If2.out]; rotate_left; simp; simp [findS]; go_simp) | (rw [Kf2.out]; rotate_left; simp; go_simp) | (rw [Lf2.out]; rotate_left; simp; go_simp))
  have E8 := @look2e Try.prog 42 9 5 Try.underlying42 Try.underlying9 (.int .u8 0) (fun _ => by kernel_rfl)
  go_region
  go_wp2_with fail
  go_returns
  exact ⟨_, rfl, rfl, by repeat (first | with_reducible exact Kept.refl _ _ | with_reducible assumption | with_reducible apply Kept.alloc | with_reducible apply Kept.drew | with_reducible apply Kept.drewN | (with_reducible refine Kept.setCell ?_ (Or.inr (by simp <;> omega)) _))⟩

set_option maxHeartbeats 2000000 in
theorem inner_CLI (w : World) (r : Regs) (hr : r.Ok)  :
    Calls Try.prog 25 #[.string (⟨#[67, 76, 73]⟩ : ByteArray), r.val] w (Post w [] fun v W => v = ({ r with p := setF r.p 4 false } : Regs).val) := by
  obtain ⟨a, x, y, s, p, pc⟩ := r
  obtain ⟨ha, hx, hy, hs, hp, hpc⟩ := hr
  unfold Regs.val
  have Iu8 := Lib.hid (@run_insertObj Try.prog 42 9 5 Try.underlying42 Try.underlying9)
  have Ku8 := Lib.hid (@look1 Try.prog 42 9 5 Try.underlying42 Try.underlying9 (.int .u8 0) (fun _ => by kernel_rfl))
  have Lu8 := Lib.hid (@look2 Try.prog 42 9 5 Try.underlying42 Try.underlying9 (.int .u8 0) (fun _ => by kernel_rfl))
  have If2 := Lib.hid (@run_insertObj Try.prog 60 9 47 Try.underlying60 Try.underlying9)
  have Kf2 := Lib.hid (@look1 Try.prog 60 9 47 Try.underlying60 Try.underlying9 .nilFunc (fun _ => by kernel_rfl))
  have Lf2 := Lib.hid (@look2 Try.prog 60 9 47 Try.underlying60 Try.underlying9 .nilFunc (fun _ => by kernel_rfl))
  have Nf2 := @run_neq_func Try.prog 47 _ _ _ Try.underlying47
  have Mf2 := @run_neq_nilFunc Try.prog 47 _ _ _ Try.underlying47
  go_enter Try.func25, Try.ntmps25
  go_wp2_with (first | (rw [Iu8.out]; rotate_left; simp; simp [findS]; go_simp) | (rw [Ku8.out]; rotate_left; simp; go_simp) | (rw [Lu8.out]; rotate_left; simp; go_simp) | (rw [If2.out]; rotate_left; simp; simp [findS]; go_simp) | (rw [Kf2.out]; rotate_left; simp; go_simp) | (rw [Lf2.out]; rotate_left; simp; go_simp))
  have e1 := andNot_flag 4 (by simp [IsFlag]) p hp.1 hp.2
  have x1 : ((⟨#[67, 76, 73]⟩ : ByteArray).extract 2 3).toList = [73] := by rw [ByteArray.toList_eq]; rfl
  refine (shiftX_other _ _ (by rw [ByteArray.toList_eq]; rfl) (by rw [ByteArray.toList_eq]; rfl) (by rw [ByteArray.toList_eq]; rfl) (by rw [ByteArray.toList_eq]; rfl)).mono ?_
  rintro _ _ ⟨rfl, rfl⟩
  go_wp2_with (first | (rw [Iu8.out]; rotate_left; simp; simp [findS]; go_simp) | (rw [Ku8.out]; rotate_left; simp; go_simp) | (rw [Lu8.out]; rotate_left; simp; go_simp) | (rw [If2.out]; rotate_left; simp; simp [findS]; go_simp) | (rw [Kf2.out]; rotate_left; simp; go_simp) | (rw [Lf2.out]; rotate_left; simp; go_simp))
  have E8 := @look2e Try.prog 42 9 5 Try.underlying42 Try.underlying9 (.int .u8 0) (fun _ => by kernel_rfl)
  go_region
  go_wp2_with fail
  go_returns
  exact ⟨_, rfl, rfl, by repeat (first | with_reducible exact Kept.refl _ _ | with_reducible assumption | with_reducible apply Kept.alloc | with_reducible apply Kept.drew | with_reducible apply Kept.drewN | (with_reducible refine Kept.setCell ?_ (Or.inr (by simp <;> omega)) _))⟩

set_option maxHeartbeats 2000000 in
theorem inner_CLV (w : World) (r : Regs) (hr : r.Ok)  :
    Calls Try.prog 25 #[.string (⟨#[67, 76, 86]⟩ : ByteArray), r.val] w (Post w [] fun v W => v = ({ r with p := setF r.p 64 false } : Regs).val) := by
  obtain ⟨a, x, y, s, p, pc⟩ := r
  obtain ⟨ha, hx, hy, hs, hp, hpc⟩ := hr
  unfold Regs.val
  have Iu8 := Lib.hid (@run_insertObj Try.prog 42 9 5 Try.underlying42 Try.underlying9)
  have Ku8 := Lib.hid (@look1 Try.prog 42 9 5 Try.underlying42 Try.underlying9 (.int .u8 0) (fun _ => by kernel_rfl))
  have Lu8 := Lib.hid (@look2 Try.prog 42 9 5 Try.underlying42 Try.underlying9 (.int .u8 0) (fun _ => by kernel_rfl))
  have If2 := Lib.hid (@run_insertObj Try.prog 60 9 47 Try.underlying60 Try.underlying9)
  have Kf2 := Lib.hid (@look1 Try.prog 60 9 47 Try.underlying60 Try.underlying9 .nilFunc (fun _ => by kernel_rfl))
  have Lf2 := Lib.hid (@look2 Try.prog 60 9 47 Try.underlying60 Try.underlying9 .nilFunc (fun _ => by kernel_rfl))
  have Nf2 := @run_neq_func Try.prog 47 _ _ _ Try.underlying47
  have Mf2 := @run_neq_nilFunc Try.prog 47 _ _ _ Try.underlying47
  go_enter Try.func25, Try.ntmps25
  go_wp2_with (first | (rw [Iu8.out]; rotate_left; simp; simp [findS]; go_simp) | (rw [Ku8.out]; rotate_left; simp; go_simp) | (rw [Lu8.out]; rotate_left; simp; go_simp) | (rw [If2.out]; rotate_left; simp; simp [findS]; go_simp) | (rw [Kf2.out]; rotate_left; simp; go_simp) | (rw [Lf2.out]; rotate_left; simp; go_simp))
  have e1 := andNot_flag 64 (by simp [IsFlag]) p hp.1 hp.2
  have x1 : ((⟨#[67, 76, 86]⟩ : ByteArray).extract 2 3).toList = [86] := by rw [ByteArray.toList_eq]; rfl
  refine (shiftX_other _ _ (by rw [ByteArray.toList_eq]; rfl) (by rw [ByteArray.toList_eq]; rfl) (by rw [ByteArray.toList_eq]; rfl) (by rw [ByteArray.toList_eq]; rfl)).mono ?_
  rintro _ _ ⟨rfl, rfl⟩
  go_wp2_with (first | (rw [Iu8.out]; rotate_left; simp; simp [findS]; go_simp) | (rw [Ku8.out]; rotate_left; simp; go_simp) | (rw [Lu8.out]; rotate_left; simp; go_simp) | (rw [If2.out]; rotate_left; simp; simp [findS]; go_simp) | (rw [Kf2.out]; rotate_left; simp; go_simp) | (rw [Lf2.out]; rotate_left; simp; go_simp))
  have E8 := @look2e Try.prog 42 9 5 Try.underlying42 Try.underlying9 (.int .u8 0) (fun _ => by kernel_rfl)
  go_region
  go_wp2_with fail
  go_returns
  exact ⟨_, rfl, rfl, by repeat (first | with_reducible exact Kept.refl _ _ | with_reducible assumption | with_reducible apply Kept.alloc | with_reducible apply Kept.drew | with_reducible apply Kept.drewN | (with_reducible refine Kept.setCell ?_ (Or.inr (by simp <;> omega)) _))⟩

set_option maxHeartbeats 2000000 in
theorem inner_SEC (w : World) (r : Regs) (hr : r.Ok)  :
    Calls Try.prog 25 #[.string (⟨#[83, 69, 67]⟩ : ByteArray), r.val] w (Post w [] fun v W => v = ({ r with p := setF r.p 1 true } : Regs).val) := by
  obtain ⟨a, x, y, s, p, pc⟩ := r
  obtain ⟨ha, hx, hy, hs, hp, hpc⟩ := hr
  unfold Regs.val
  have Iu8 := Lib.hid (@run_insertObj Try.prog 42 9 5 Try.underlying42 Try.underlying9)
  have Ku8 := Lib.hid (@look1 Try.prog 42 9 5 Try.underlying42 Try.underlying9 (.int .u8 0) (fun _ => by kernel_rfl))
  have Lu8 := Lib.hid (@look2 Try.prog 42 9 5 Try.underlying42 Try.underlying9 (.int .u8 0) (fun _ => by kernel_rfl))
  have If2 := Lib.hid (@run_insertObj Try.prog 60 9 47 Try.underlying60 Try.underlying9)
  have Kf2 := Lib.hid (@look1 Try.prog 60 9 47 Try.underlying60 Try.underlying9 .nilFunc (fun _ => by kernel_rfl))
  have Lf2 := Lib.hid (@look2 Try.prog 60 9 47 Try.underlying60 Try.underlying9 .nilFunc (fun _ => by kernel_rfl))
  have Nf2 := @run_neq_func Try.prog 47 _ _ _ Try.underlying47
  have Mf2 := @run_neq_nilFunc Try.prog 47 _ _ _ Try.underlying47
  go_enter Try.func25, Try.ntmps25
  go_wp2_with (first | (rw [Iu8.out]; rotate_left; simp; simp [findS]; go_simp) | (rw [Ku8.out]; rotate_left; simp; go_simp) | (rw [Lu8.out]; rotate_left; simp; go_simp) | (rw [If2.out]; rotate_left; simp; simp [findS]; go_simp) | (rw [Kf2.out]; rotate_left; simp; go_simp) | (rw [Lf2.out]; rotate_left; simp; go_simp))
  have e1 := or_flag 1 (by simp [IsFlag]) p hp.1 hp.2
  have x1 : ((⟨#[83, 69, 67]⟩ : ByteArray).extract 2 3).toList = [67] := by rw [ByteArray.toList_eq]; rfl
  refine (shiftX_other _ _ (by rw [ByteArray.toList_eq]; rfl) (by rw [ByteArray.toList_eq]; rfl) (by rw [ByteArray.toList_eq]; rfl) (by rw [ByteArray.toList_eq]; rfl)).mono ?_
  rintro _ _ ⟨rfl, rfl⟩
  go_wp2_with (first | (rw [Iu8.out]; rotate_left; simp; simp [findS]; go_simp) | (rw [Ku8.out]; rotate_left; simp; go_simp) | (rw [Lu8.out]; rotate_left; simp; go_simp) | (rw [If2.out]; rotate_left; simp; simp [findS]; go_simp) | (rw [Kf2.out]; rotate_left; simp; go_simp) | (rw [Lf2.out]; rotate_left; simp; go_simp))
  have E8 := @look2e Try.prog 42 9 5 Try.underlying42 Try.underlying9 (.int .u8 0) (fun _ => by kernel_rfl)
  go_region
  go_wp2_with fail
  go_returns
  exact ⟨_, rfl, rfl, by repeat (first | with_reducible exact Kept.refl _ _ | with_reducible assumption | with_reducible apply Kept.alloc | with_reducible apply Kept.drew | with_reducible apply Kept.drewN | (with_reducible refine Kept.setCell ?_ (Or.inr (by simp <;> omega)) _))⟩

set_option maxHeartbeats 2000000 in
theorem inner_SED (w : World) (r : Regs) (hr : r.Ok)  :
    Calls Try.prog 25 #[.string (⟨#[83, 69, 68]⟩ : ByteArray), r.val] w (Post w [] fun v W => v = ({ r with p := setF r.p 8 true } : Regs).val) := by
  obtain ⟨a, x, y, s, p, pc⟩ := r
  obtain ⟨ha, hx, hy, hs, hp, hpc⟩ := hr
  unfold Regs.val
  have Iu8 := Lib.hid (@run_insertObj Try.prog 42 9 5 Try.underlying42 Try.underlying9)
  have Ku8 := Lib.hid (@look1 Try.prog 42 9 5 Try.underlying42 Try.underlying9 (.int .u8 0) (fun _ => by kernel_rfl))
  have Lu8 := Lib.hid (@look2 Try.prog 42 9 5 Try.underlying42 Try.underlying9 (.int .u8 0) (fun _ => by kernel_rfl))
  have If2 := Lib.hid (@run_insertObj Try.prog 60 9 47 Try.underlying60 Try.underlying9)
  have Kf2 := Lib.hid (@look1 Try.prog 60 9 47 Try.underlying60 Try.underlying9 .nilFunc (fun _ => by kernel_rfl))
  have Lf2 := Lib.hid (@look2 Try.prog 60 9 47 Try.underlying60 Try.underlying9 .nilFunc (fun _ => by kernel_rfl))
  have Nf2 := @run_neq_func Try.prog 47 _ _ _ Try.underlying47
  have Mf2 := @run_neq_nilFunc Try.prog 47 _ _ _ Try.underlying47
  go_enter Try.func25, Try.ntmps25
  go_wp2_with (first | (rw [Iu8.out]; rotate_left; simp; simp [findS]; go_simp) | (rw [Ku8.out]; rotate_left; simp; go_simp) | (rw [Lu8.out]; rotate_left; simp; go_simp) | (rw [If2.out]; rotate_left; simp; simp [findS]; go_simp) | (rw [Kf2.out]; rotate_left; simp; go_simp) | (rw [Lf2.out]; rotate_left; simp; go_simp))
  have e1 := or_flag 8 (by simp [IsFlag]) p hp.1 hp.2
  have x1 : ((⟨#[83, 69, 68]⟩ : ByteArray).extract 2 3).toList = [68] := by rw [ByteArray.toList_eq]; rfl
  refine (shiftX_other _ _ (by rw [ByteArray.toList_eq]; rfl) (by rw [ByteArray.toList_eq]; rfl) (by rw [ByteArray.toList_eq]; rfl) (by rw [ByteArray.toList_eq]; rfl)).mono ?_
  rintro _ _ ⟨rfl, rfl⟩
  go_wp2_with (first | (rw [Iu8.out]; rotate_left; simp; simp [findS]; go_simp) | (rw [Ku8.out]; rotate_left; simp; go_simp) | (rw [Lu8.out]; rotate_left; simp; go_simp) | (rw [If2.out]; rotate_left; simp; simp [findS]; go_simp) | (rw [Kf2.out]; rotate_left; simp; go_simp) | (rw [Lf2.out]; rotate_left; simp; go_simp))
  have E8 := @look2e Try.prog 42 9 5 Try.underlying42 Try.underlying9 (.int .u8 0) (fun _ => by kernel_rfl)
  go_region
  go_wp2_with fail
  go_returns
  exact ⟨_, rfl, rfl, by repeat (first | with_reducible exact Kept.refl _ _ | with_reducible assumption | with_reducible apply Kept.alloc | with_reducible apply Kept.drew | with_reducible apply Kept.drewN | (with_reducible refine Kept.setCell ?_ (Or.inr (by simp <;> omega)) _))⟩

set_option maxHeartbeats 2000000 in
theorem inner_SEI (w : World) (r : Regs) (hr : r.Ok)  :
    Calls Try.prog 25 #[.string (⟨#[83, 69, 73]⟩ : ByteArray), r.val] w (Post w [] fun v W => v = ({ r with p := setF r.p 4 true } : Regs).val) := by
  obtain ⟨a, x, y, s, p, pc⟩ := r
  obtain ⟨ha, hx, hy, hs, hp, hpc⟩ := hr
  unfold Regs.val
  have Iu8 := Lib.hid (@run_insertObj Try.prog 42 9 5 Try.underlying42 Try.underlying9)
  have Ku8 := Lib.hid (@look1 Try.prog 42 9 5 Try.underlying42 Try.underlying9 (.int .u8 0) (fun _ => by kernel_rfl))
  have Lu8 := Lib.hid (@look2 Try.prog 42 9 5 Try.underlying42 Try.underlying9 (.int .u8 0) (fun _ => by kernel_rfl))
  have If2 := Lib.hid (@run_insertObj Try.prog 60 9 47 Try.underlying60 Try.underlying9)
  have Kf2 := Lib.hid (@look1 Try.prog 60 9 47 Try.underlying60 Try.underlying9 .nilFunc (fun _ => by kernel_rfl))
  have Lf2 := Lib.hid (@look2 Try.prog 60 9 47 Try.underlying60 Try.underlying9 .nilFunc (fun _ => by kernel_rfl))
  have Nf2 := @run_neq_func Try.prog 47 _ _ _ Try.underlying47
  have Mf2 := @run_neq_nilFunc Try.prog 47 _ _ _ Try.underlying47
  go_enter Try.func25, Try.ntmps25
  go_wp2_with (first | (rw [Iu8.out]; rotate_left; simp; simp [findS]; go_simp) | (rw [Ku8.out]; rotate_left; simp; go_simp) | (rw [Lu8.out]; rotate_left; simp; go_simp) | (rw [If2.out]; rotate_left; simp; simp [findS]; go_simp) | (rw [Kf2.out]; rotate_left; simp; go_simp) | (rw [Lf2.out]; rotate_left; simp; go_simp))
  have e1 := or_flag 4 (by simp [IsFlag]) p hp.1 hp.2
  have x1 : ((⟨#[83, 69, 73]⟩ : ByteArray).extract 2 3).toList = [73] := by rw [ByteArray.toList_eq]; rfl
  refine (shiftX_other _ _ (by rw [ByteArray.toList_eq]; rfl) (by rw [ByteArray.toList_eq]; rfl) (by rw [ByteArray.toList_eq]; rfl) (by rw [ByteArray.toList_eq]; rfl)).mono ?_
  rintro _ _ ⟨rfl, rfl⟩
  go_wp2_with (first | (rw [Iu8.out]; rotate_left; simp; simp [findS]; go_simp) | (rw [Ku8.out]; rotate_left; simp; go_simp) | (rw [Lu8.out]; rotate_left; simp; go_simp) | (rw [If2.out]; rotate_left; simp; simp [findS]; go_simp) | (rw [Kf2.out]; rotate_left; simp; go_simp) | (rw [Lf2.out]; rotate_left; simp; go_simp))
  have E8 := @look2e Try.prog 42 9 5 Try.underlying42 Try.underlying9 (.int .u8 0) (fun _ => by kernel_rfl)
  go_region
  go_wp2_with fail
  go_returns
  exact ⟨_, rfl, rfl, by repeat (first | with_reducible exact Kept.refl _ _ | with_reducible assumption | with_reducible apply Kept.alloc | with_reducible apply Kept.drew | with_reducible apply Kept.drewN | (with_reducible refine Kept.setCell ?_ (Or.inr (by simp <;> omega)) _))⟩

set_option maxHeartbeats 2000000 in
theorem inner_TAX (w : World) (n : ByteArray) (r : Regs) (hr : r.Ok) (q0 : (n.toList == [65, 83, 76]) = false) (q1 : (n.toList == [76, 83, 82]) = false) (q2 : (n.toList == [82, 79, 76]) = false) (q3 : (n.toList == [82, 79, 82]) = false) (q4 : (n.toList == [67, 76, 67]) = false) (q5 : (n.toList == [67, 76, 68]) = false) (q6 : (n.toList == [67, 76, 73]) = false) (q7 : (n.toList == [67, 76, 86]) = false) (q8 : (n.toList == [83, 69, 67]) = false) (q9 : (n.toList == [83, 69, 68]) = false) (q10 : (n.toList == [83, 69, 73]) = false) (q11 : (n.toList == [84, 65, 88]) = true) :
    Calls Try.prog 25 #[.string n, r.val] w (Post w [] fun v W => v = ({ r with x := r.a, p := nzM r.p (r.a) } : Regs).val) := by
  obtain ⟨a, x, y, s, p, pc⟩ := r
  obtain ⟨ha, hx, hy, hs, hp, hpc⟩ := hr
  unfold Regs.val
  have Iu8 := Lib.hid (@run_insertObj Try.prog 42 9 5 Try.underlying42 Try.underlying9)
  have Ku8 := Lib.hid (@look1 Try.prog 42 9 5 Try.underlying42 Try.underlying9 (.int .u8 0) (fun _ => by kernel_rfl))
  have Lu8 := Lib.hid (@look2 Try.prog 42 9 5 Try.underlying42 Try.underlying9 (.int .u8 0) (fun _ => by kernel_rfl))
  have If2 := Lib.hid (@run_insertObj Try.prog 60 9 47 Try.underlying60 Try.underlying9)
  have Kf2 := Lib.hid (@look1 Try.prog 60 9 47 Try.underlying60 Try.underlying9 .nilFunc (fun _ => by kernel_rfl))
  have Lf2 := Lib.hid (@look2 Try.prog 60 9 47 Try.underlying60 Try.underlying9 .nilFunc (fun _ => by kernel_rfl))
  have Nf2 := @run_neq_func Try.prog 47 _ _ _ Try.underlying47
  have Mf2 := @run_neq_nilFunc Try.prog 47 _ _ _ Try.underlying47
  go_enter Try.func25, Try.ntmps25
  go_wp2_with (first | (rw [Iu8.out]; rotate_left; simp; simp [findS]; go_simp) | (rw [Ku8.out]; rotate_left; simp; go_simp) | (rw [Lu8.out]; rotate_left; simp; go_simp) | (rw [If2.out]; rotate_left; simp; simp [findS]; go_simp) | (rw [Kf2.out]; rotate_left; simp; go_simp) | (rw [Lf2.out]; rotate_left; simp; go_simp))
  refine (shiftX_other _ n q0 q1 q2 q3).mono ?_
  rintro _ _ ⟨rfl, rfl⟩
  go_wp2_with (first | (rw [Iu8.out]; rotate_left; simp; simp [findS]; go_simp) | (rw [Ku8.out]; rotate_left; simp; go_simp) | (rw [Lu8.out]; rotate_left; simp; go_simp) | (rw [If2.out]; rotate_left; simp; simp [findS]; go_simp) | (rw [Kf2.out]; rotate_left; simp; go_simp) | (rw [Lf2.out]; rotate_left; simp; go_simp))
  refine (set_any _ _ _ _ _ _ (((((Blk.new w 29 [.int .u8 a, .int .u8 x, .int .u8 y, .int .u8 s, .int .u8 p, .int .u16 pc]).alloc _).alloc _).alloc _).cell 1 rfl) (((((Blk.new w 29 [.int .u8 a, .int .u8 x, .int .u8 y, .int .u8 s, .int .u8 p, .int .u16 pc]).alloc _).alloc _).alloc _).cell 4 rfl) (((((Blk.new w 29 [.int .u8 a, .int .u8 x, .int .u8 y, .int .u8 s, .int .u8 p, .int .u16 pc]).alloc _).alloc _).alloc _).free 1) (((((Blk.new w 29 [.int .u8 a, .int .u8 x, .int .u8 y, .int .u8 s, .int .u8 p, .int .u16 pc]).alloc _).alloc _).alloc _).free 4) (by simp) hp.1 hp.2).mono ?_
  rintro _ _ ⟨rfl, rfl⟩
  go_wp2_with (first | (rw [Iu8.out]; rotate_left; simp; simp [findS]; go_simp) | (rw [Ku8.out]; rotate_left; simp; go_simp) | (rw [Lu8.out]; rotate_left; simp; go_simp) | (rw [If2.out]; rotate_left; simp; simp [findS]; go_simp) | (rw [Kf2.out]; rotate_left; simp; go_simp) | (rw [Lf2.out]; rotate_left; simp; go_simp))
  go_returns
  exact ⟨_, rfl, rfl, by repeat (first | with_reducible exact Kept.refl _ _ | with_reducible assumption | with_reducible apply Kept.alloc | with_reducible apply Kept.drew | with_reducible apply Kept.drewN | (with_reducible refine Kept.setCell ?_ (Or.inr (by simp <;> omega)) _))⟩

set_option maxHeartbeats 2000000 in
theorem inner_TAY (w : World) (n : ByteArray) (r : Regs) (hr : r.Ok) (q0 : (n.toList == [65, 83, 76]) = false) (q1 : (n.toList == [76, 83, 82]) = false) (q2 : (n.toList == [82, 79, 76]) = false) (q3 : (n.toList == [82, 79, 82]) = false) (q4 : (n.toList == [67, 76, 67]) = false) (q5 : (n.toList == [67, 76, 68]) = false) (q6 : (n.toList == [67, 76, 73]) = false) (q7 : (n.toList == [67, 76, 86]) = false) (q8 : (n.toList == [83, 69, 67]) = false) (q9 : (n.toList == [83, 69, 68]) = false) (q10 : (n.toList == [83, 69, 73]) = false) (q11 : (n.toList == [84, 65, 88]) = false) (q12 : (n.toList == [84, 65, 89]) = true) :
    Calls Try.prog 25 #[.string n, r.val] w (Post w [] fun v W => v = ({ r with y := r.a, p := nzM r.p (r.a) } : Regs).val) := by
  obtain ⟨a, x, y, s, p, pc⟩ := r
  obtain ⟨ha, hx, hy, hs, hp, hpc⟩ := hr
  unfold Regs.val
  have Iu8 := Lib.hid (@run_insertObj Try.prog 42 9 5 Try.underlying42 Try.underlying9)
  have Ku8 := Lib.hid (@look1 Try.prog 42 9 5 Try.underlying42 Try.underlying9 (.int .u8 0) (fun _ => by kernel_rfl))
  have Lu8 := Lib.hid (@look2 Try.prog 42 9 5 Try.underlying42 Try.underlying9 (.int .u8 0) (fun _ => by kernel_rfl))
  have If2 := Lib.hid (@run_insertObj Try.prog 60 9 47 Try.underlying60 Try.underlying9)
  have Kf2 := Lib.hid (@look1 Try.prog 60 9 47 Try.underlying60 Try.underlying9 .nilFunc (fun _ => by kernel_rfl))
  have Lf2 := Lib.hid (@look2 Try.prog 60 9 47 Try.underlying60 Try.underlying9 .nilFunc (fun _ => by kernel_rfl))
  have Nf2 := @run_neq_func Try.prog 47 _ _ _ Try.underlying47
  have Mf2 := @run_neq_nilFunc Try.prog 47 _ _ _ Try.underlying47
  go_enter Try.func25, Try.ntmps25
  go_wp2_with (first | (rw [Iu8.out]; rotate_left; simp; simp [findS]; go_simp) | (rw [Ku8.out]; rotate_left; simp; go_simp) | (rw [Lu8.out]; rotate_left; simp; go_simp) | (rw [If2.out]; rotate_left; simp; simp [findS]; go_simp) | (rw [Kf2.out]; rotate_left; simp; go_simp) | (rw [Lf2.out]; rotate_left; simp; go_simp))
  refine (shiftX_other _ n q0 q1 q2 q3).mono ?_
  rintro _ _ ⟨rfl, rfl⟩
  go_wp2_with (first | (rw [Iu8.out]; rotate_left; simp; simp [findS]; go_simp) | (rw [Ku8.out]; rotate_left; simp; go_simp) | (rw [Lu8.out]; rotate_left; simp; go_simp) | (rw [If2.out]; rotate_left; simp; simp [findS]; go_simp) | (rw [Kf2.out]; rotate_left; simp; go_simp) | (rw [Lf2.out]; rotate_left; simp; go_simp))
  refine (set_any _ _ _ _ _ _ (((((Blk.new w 29 [.int .u8 a, .int .u8 x, .int .u8 y, .int .u8 s, .int .u8 p, .int .u16 pc]).alloc _).alloc _).alloc _).cell 2 rfl) (((((Blk.new w 29 [.int .u8 a, .int .u8 x, .int .u8 y, .int .u8 s, .int .u8 p, .int .u16 pc]).alloc _).alloc _).alloc _).cell 4 rfl) (((((Blk.new w 29 [.int .u8 a, .int .u8 x, .int .u8 y, .int .u8 s, .int .u8 p, .int .u16 pc]).alloc _).alloc _).alloc _).free 2) (((((Blk.new w 29 [.int .u8 a, .int .u8 x, .int .u8 y, .int .u8 s, .int .u8 p, .int .u16 pc]).alloc _).alloc _).alloc _).free 4) (by simp) hp.1 hp.2).mono ?_
  rintro _ _ ⟨rfl, rfl⟩
  go_wp2_with (first | (rw [Iu8.out]; rotate_left; simp; simp [findS]; go_simp) | (rw [Ku8.out]; rotate_left; simp; go_simp) | (rw [Lu8.out]; rotate_left; simp; go_simp) | (rw [If2.out]; rotate_left; simp; simp [findS]; go_simp) | (rw [Kf2.out]; rotate_left; simp; go_simp) | (rw [Lf2.out]; rotate_left; simp; go_simp))
  go_returns
  exact ⟨_, rfl, rfl, by repeat (first | with_reducible exact Kept.refl _ _ | with_reducible assumption | with_reducible apply Kept.alloc | with_reducible apply Kept.drew | with_reducible apply Kept.drewN | (with_reducible refine Kept.setCell ?_ (Or.inr (by simp <;> omega)) _))⟩

set_option maxHeartbeats 2000000 in
theorem inner_TXA (w : World) (n : ByteArray) (r : Regs) (hr : r.Ok) (q0 : (n.toList == [65, 83, 76]) = false) (q1 : (n.toList == [76, 83, 82]) = false) (q2 : (n.toList == [82, 79, 76]) = false) (q3 : (n.toList == [82, 79, 82]) = false) (q4 : (n.toList == [67, 76, 67]) = false) (q5 : (n.toList == [67, 76, 68]) = false) (q6 : (n.toList == [67, 76, 73]) = false) (q7 : (n.toList == [67, 76, 86]) = false) (q8 : (n.toList == [83, 69, 67]) = false) (q9 : (n.toList == [83, 69, 68]) = false) (q10 : (n.toList == [83, 69, 73]) = false) (q11 : (n.toList == [84, 65, 88]) = false) (q12 : (n.toList == [84, 65, 89]) = false) (q13 : (n.toList == [84, 88, 65]) = true) :
    Calls Try.prog 25 #[.string n, r.val] w (Post w [] fun v W => v = ({ r with a := r.x, p := nzM r.p (r.x) } : Regs).val) := by
  obtain ⟨a, x, y, s, p, pc⟩ := r
  obtain ⟨ha, hx, hy, hs, hp, hpc⟩ := hr
  unfold Regs.val
  have Iu8 := Lib.hid (@run_insertObj Try.prog 42 9 5 Try.underlying42 Try.underlying9)
  have Ku8 := Lib.hid (@look1 Try.prog 42 9 5 Try.underlying42 Try.underlying9 (.int .u8 0) (fun _ => by kernel_rfl))
  have Lu8 := Lib.hid (@look2 Try.prog 42 9 5 Try.underlying42 Try.underlying9 (.int .u8 0) (fun _ => by kernel_rfl))
  have If2 := Lib.hid (@run_insertObj Try.prog 60 9 47 Try.underlying60 Try.underlying9)
  have Kf2 := Lib.hid (@look1 Try.prog 60 9 47 Try.underlying60 Try.underlying9 .nilFunc (fun _ => by kernel_rfl))
  have Lf2 := Lib.hid (@look2 Try.prog 60 9 47 Try.underlying60 Try.underlying9 .nilFunc (fun _ => by kernel_rfl))
  have Nf2 := @run_neq_func Try.prog 47 _ _ _ Try.underlying47
  have Mf2 := @run_neq_nilFunc Try.prog 47 _ _ _ Try.underlying47
  go_enter Try.func25, Try.ntmps25
  go_wp2_with (first | (rw [Iu8.out]; rotate_left; simp; simp [findS]; go_simp) | (rw [Ku8.out]; rotate_left; simp; go_simp) | (rw [Lu8.out]; rotate_left; simp; go_simp) | (rw [If2.out]; rotate_left; simp; simp [findS]; go_simp) | (rw [Kf2.out]; rotate_left; simp; go_simp) | (rw [Lf2.out]; rotate_left; simp; go_simp))
  refine (shiftX_other _ n q0 q1 q2 q3).mono ?_
  rintro _ _ ⟨rfl, rfl⟩
  go_wp2_with (first | (rw [Iu8.out]; rotate_left; simp; simp [findS]; go_simp) | (rw [Ku8.out]; rotate_left; simp; go_simp) | (rw [Lu8.out]; rotate_left; simp; go_simp) | (rw [If2.out]; rotate_left; simp; simp [findS]; go_simp) | (rw [Kf2.out]; rotate_left; simp; go_simp) | (rw [Lf2.out]; rotate_left; simp; go_simp))
  refine (set_any _ _ _ _ _ _ (((((Blk.new w 29 [.int .u8 a, .int .u8 x, .int .u8 y, .int .u8 s, .int .u8 p, .int .u16 pc]).alloc _).alloc _).alloc _).cell 0 rfl) (((((Blk.new w 29 [.int .u8 a, .int .u8 x, .int .u8 y, .int .u8 s, .int .u8 p, .int .u16 pc]).alloc _).alloc _).alloc _).cell 4 rfl) (((((Blk.new w 29 [.int .u8 a, .int .u8 x, .int .u8 y, .int .u8 s, .int .u8 p, .int .u16 pc]).alloc _).alloc _).alloc _).free 0) (((((Blk.new w 29 [.int .u8 a, .int .u8 x, .int .u8 y, .int .u8 s, .int .u8 p, .int .u16 pc]).alloc _).alloc _).alloc _).free 4) (by simp) hp.1 hp.2).mono ?_
  rintro _ _ ⟨rfl, rfl⟩
  go_wp2_with (first | (rw [Iu8.out]; rotate_left; simp; simp [findS]; go_simp) | (rw [Ku8.out]; rotate_left; simp; go_simp) | (rw [Lu8.out]; rotate_left; simp; go_simp) | (rw [If2.out]; rotate_left; simp; simp [findS]; go_simp) | (rw [Kf2.out]; rotate_left; simp; go_simp) | (rw [Lf2.out]; rotate_left; simp; go_simp))
  go_returns
  exact ⟨_, rfl, rfl, by repeat (first | with_reducible exact Kept.refl _ _ | with_reducible assumption | with_reducible apply Kept.alloc | with_reducible apply Kept.drew | with_reducible apply Kept.drewN | (with_reducible refine Kept.setCell ?_ (Or.inr (by simp <;> omega)) _))⟩

set_option maxHeartbeats 2000000 in
theorem inner_TYA (w : World) (n : ByteArray) (r : Regs) (hr : r.Ok) (q0 : (n.toList == [65, 83, 76]) = false) (q1 : (n.toList == [76, 83, 82]) = false) (q2 : (n.toList == [82, 79, 76]) = false) (q3 : (n.toList == [82, 79, 82]) = false) (q4 : (n.toList == [67, 76, 67]) = false) (q5 : (n.toList == [67, 76, 68]) = false) (q6 : (n.toList == [67, 76, 73]) = false) (q7 : (n.toList == [67, 76, 86]) = false) (q8 : (n.toList == [83, 69, 67]) = false) (q9 : (n.toList == [83, 69, 68]) = false) (q10 : (n.toList == [83, 69, 73]) = false) (q11 : (n.toList == [84, 65, 88]) = false) (q12 : (n.toList == [84, 65, 89]) = false) (q13 : (n.toList == [84, 88, 65]) = false) (q14 : (n.toList == [84, 89, 65]) = true) :
    Calls Try.prog 25 #[.string n, r.val] w (Post w [] fun v W => v = ({ r with a := r.y, p := nzM r.p (r.y) } : Regs).val) := by
  obtain ⟨a, x, y, s, p, pc⟩ := r
  obtain ⟨ha, hx, hy, hs, hp, hpc⟩ := hr
  unfold Regs.val
  have Iu8 := Lib.hid (@run_insertObj Try.prog 42 9 5 Try.underlying42 Try.underlying9)
  have Ku8 := Lib.hid (@look1 Try.prog 42 9 5 Try.underlying42 Try.underlying9 (.int .u8 0) (fun _ => by kernel_rfl))
  have Lu8 := Lib.hid (@look2 Try.prog 42 9 5 Try.underlying42 Try.underlying9 (.int .u8 0) (fun _ => by kernel_rfl))
  have If2 := Lib.hid (@run_insertObj Try.prog 60 9 47 Try.underlying60 Try.underlying9)
  have Kf2 := Lib.hid (@look1 Try.prog 60 9 47 Try.underlying60 Try.underlying9 .nilFunc (fun _ => by kernel_rfl))
  have Lf2 := Lib.hid (@look2 Try.prog 60 9 47 Try.underlying60 Try.underlying9 .nilFunc (fun _ => by kernel_rfl))
  have Nf2 := @run_neq_func Try.prog 47 _ _ _ Try.underlying47
  have Mf2 := @run_neq_nilFunc Try.prog 47 _ _ _ Try.underlying47
  go_enter Try.func25, Try.ntmps25
  go_wp2_with (first | (rw [Iu8.out]; rotate_left; simp; simp [findS]; go_simp) | (rw [Ku8.out]; rotate_left; simp; go_simp) | (rw [Lu8.out]; rotate_left; simp; go_simp) | (rw [If2.out]; rotate_left; simp; simp [findS]; go_simp) | (rw [Kf2.out]; rotate_left; simp; go_simp) | (rw [Lf2.out]; rotate_left; simp; go_simp))
  refine (shiftX_other _ n q0 q1 q2 q3).mono ?_
  rintro _ _ ⟨rfl, rfl⟩
  go_wp2_with (first | (rw [Iu8.out]; rotate_left; simp; simp [findS]; go_simp) | (rw [Ku8.out]; rotate_left; simp; go_simp) | (rw [Lu8.out]; rotate_left; simp; go_simp) | (rw [If2.out]; rotate_left; simp; simp [findS]; go_simp) | (rw [Kf2.out]; rotate_left; simp; go_simp) | (rw [Lf2.out]; rotate_left; simp; go_simp))
  refine (set_any _ _ _ _ _ _ (((((Blk.new w 29 [.int .u8 a, .int .u8 x, .int .u8 y, .int .u8 s, .int .u8 p, .int .u16 pc]).alloc _).alloc _).alloc _).cell 0 rfl) (((((Blk.new w 29 [.int .u8 a, .int .u8 x, .int .u8 y, .int .u8 s, .int .u8 p, .int .u16 pc]).alloc _).alloc _).alloc _).cell 4 rfl) (((((Blk.new w 29 [.int .u8 a, .int .u8 x, .int .u8 y, .int .u8 s, .int .u8 p, .int .u16 pc]).alloc _).alloc _).alloc _).free 0) (((((Blk.new w 29 [.int .u8 a, .int .u8 x, .int .u8 y, .int .u8 s, .int .u8 p, .int .u16 pc]).alloc _).alloc _).alloc _).free 4) (by simp) hp.1 hp.2).mono ?_
  rintro _ _ ⟨rfl, rfl⟩
  go_wp2_with (first | (rw [Iu8.out]; rotate_left; simp; simp [findS]; go_simp) | (rw [Ku8.out]; rotate_left; simp; go_simp) | (rw [Lu8.out]; rotate_left; simp; go_simp) | (rw [If2.out]; rotate_left; simp; simp [findS]; go_simp) | (rw [Kf2.out]; rotate_left; simp; go_simp) | (rw [Lf2.out]; rotate_left; simp; go_simp))
  go_returns
  exact ⟨_, rfl, rfl, by repeat (first | with_reducible exact Kept.refl _ _ | with_reducible assumption | with_reducible apply Kept.alloc | with_reducible apply Kept.drew | with_reducible apply Kept.drewN | (with_reducible refine Kept.setCell ?_ (Or.inr (by simp <;> omega)) _))⟩

set_option maxHeartbeats 2000000 in
theorem inner_TSX (w : World) (n : ByteArray) (r : Regs) (hr : r.Ok) (q0 : (n.toList == [65, 83, 76]) = false) (q1 : (n.toList == [76, 83, 82]) = false) (q2 : (n.toList == [82, 79, 76]) = false) (q3 : (n.toList == [82, 79, 82]) = false) (q4 : (n.toList == [67, 76, 67]) = false) (q5 : (n.toList == [67, 76, 68]) = false) (q6 : (n.toList == [67, 76, 73]) = false) (q7 : (n.toList == [67, 76, 86]) = false) (q8 : (n.toList == [83, 69, 67]) = false) (q9 : (n.toList == [83, 69, 68]) = false) (q10 : (n.toList == [83, 69, 73]) = false) (q11 : (n.toList == [84, 65, 88]) = false) (q12 : (n.toList == [84, 65, 89]) = false) (q13 : (n.toList == [84, 88, 65]) = false) (q14 : (n.toList == [84, 89, 65]) = false) (q15 : (n.toList == [84, 83, 88]) = true) :
    Calls Try.prog 25 #[.string n, r.val] w (Post w [] fun v W => v = ({ r with x := r.s, p := nzM r.p (r.s) } : Regs).val) := by
  obtain ⟨a, x, y, s, p, pc⟩ := r
  obtain ⟨ha, hx, hy, hs, hp, hpc⟩ := hr
  unfold Regs.val
  have Iu8 := Lib.hid (@run_insertObj Try.prog 42 9 5 Try.underlying42 Try.underlying9)
  have Ku8 := Lib.hid (@look1 Try.prog 42 9 5 Try.underlying42 Try.underlying9 (.int .u8 0) (fun _ => by kernel_rfl))
  have Lu8 := Lib.hid (@look2 Try.prog 42 9 5 Try.underlying42 Try.underlying9 (.int .u8 0) (fun _ => by kernel_rfl))
  have If2 := Lib.hid (@run_insertObj Try.prog 60 9 47 Try.underlying60 Try.underlying9)
  have Kf2 := Lib.hid (@look1 Try.prog 60 9 47 Try.underlying60 Try.underlying9 .nilFunc (fun _ => by kernel_rfl))
  have Lf2 := Lib.hid (@look2 Try.prog 60 9 47 Try.underlying60 Try.underlying9 .nilFunc (fun _ => by kernel_rfl))
  have Nf2 := @run_neq_func Try.prog 47 _ _ _ Try.underlying47
  have Mf2 := @run_neq_nilFunc Try.prog 47 _ _ _ Try.underlying47
  go_enter Try.func25, Try.ntmps25
  go_wp2_with (first | (rw [Iu8.out]; rotate_left; simp; simp [findS]; go_simp) | (rw [Ku8.out]; rotate_left; simp; go_simp) | (rw [Lu8.out]; rotate_left; simp; go_simp) | (rw [If2.out]; rotate_left; simp; simp [findS]; go_simp) | (rw [Kf2.out]; rotate_left; simp; go_simp) | (rw [Lf2.out]; rotate_left; simp; go_simp))
  refine (shiftX_other _ n q0 q1 q2 q3).mono ?_
  rintro _ _ ⟨rfl, rfl⟩
  go_wp2_with (first | (rw [Iu8.out]; rotate_left; simp; simp [findS]; go_simp) | (rw [Ku8.out]; rotate_left; simp; go_simp) | (rw [Lu8.out]; rotate_left; simp; go_simp) | (rw [If2.out]; rotate_left; simp; simp [findS]; go_simp) | (rw [Kf2.out]; rotate_left; simp; go_simp) | (rw [Lf2.out]; rotate_left; simp; go_simp))
  refine (set_any _ _ _ _ _ _ (((((Blk.new w 29 [.int .u8 a, .int .u8 x, .int .u8 y, .int .u8 s, .int .u8 p, .int .u16 pc]).alloc _).alloc _).alloc _).cell 1 rfl) (((((Blk.new w 29 [.int .u8 a, .int .u8 x, .int .u8 y, .int .u8 s, .int .u8 p, .int .u16 pc]).alloc _).alloc _).alloc _).cell 4 rfl) (((((Blk.new w 29 [.int .u8 a, .int .u8 x, .int .u8 y, .int .u8 s, .int .u8 p, .int .u16 pc]).alloc _).alloc _).alloc _).free 1) (((((Blk.new w 29 [.int .u8 a, .int .u8 x, .int .u8 y, .int .u8 s, .int .u8 p, .int .u16 pc]).alloc _).alloc _).alloc _).free 4) (by simp) hp.1 hp.2).mono ?_
  rintro _ _ ⟨rfl, rfl⟩
  go_wp2_with (first | (rw [Iu8.out]; rotate_left; simp; simp [findS]; go_simp) | (rw [Ku8.out]; rotate_left; simp; go_simp) | (rw [Lu8.out]; rotate_left; simp; go_simp) | (rw [If2.out]; rotate_left; simp; simp [findS]; go_simp) | (rw [Kf2.out]; rotate_left; simp; go_simp) | (rw [Lf2.out]; rotate_left; simp; go_simp))
  go_returns
  exact ⟨_, rfl, rfl, by repeat (first | with_reducible exact Kept.refl _ _ | with_reducible assumption | with_reducible apply Kept.alloc | with_reducible apply Kept.drew | with_reducible apply Kept.drewN | (with_reducible refine Kept.setCell ?_ (Or.inr (by simp <;> omega)) _))⟩

set_option maxHeartbeats 2000000 in
theorem inner_TXS (w : World) (n : ByteArray) (r : Regs) (hr : r.Ok) (q0 : (n.toList == [65, 83, 76]) = false) (q1 : (n.toList == [76, 83, 82]) = false) (q2 : (n.toList == [82, 79, 76]) = false) (q3 : (n.toList == [82, 79, 82]) = false) (q4 : (n.toList == [67, 76, 67]) = false) (q5 : (n.toList == [67, 76, 68]) = false) (q6 : (n.toList == [67, 76, 73]) = false) (q7 : (n.toList == [67, 76, 86]) = false) (q8 : (n.toList == [83, 69, 67]) = false) (q9 : (n.toList == [83, 69, 68]) = false) (q10 : (n.toList == [83, 69, 73]) = false) (q11 : (n.toList == [84, 65, 88]) = false) (q12 : (n.toList == [84, 65, 89]) = false) (q13 : (n.toList == [84, 88, 65]) = false) (q14 : (n.toList == [84, 89, 65]) = false) (q15 : (n.toList == [84, 83, 88]) = false) (q16 : (n.toList == [84, 88, 83]) = true) :
    Calls Try.prog 25 #[.string n, r.val] w (Post w [] fun v W => v = ({ r with s := r.x } : Regs).val) := by
  obtain ⟨a, x, y, s, p, pc⟩ := r
  obtain ⟨ha, hx, hy, hs, hp, hpc⟩ := hr
  unfold Regs.val
  have Iu8 := Lib.hid (@run_insertObj Try.prog 42 9 5 Try.underlying42 Try.underlying9)
  have Ku8 := Lib.hid (@look1 Try.prog 42 9 5 Try.underlying42 Try.underlying9 (.int .u8 0) (fun _ => by kernel_rfl))
  have Lu8 := Lib.hid (@look2 Try.prog 42 9 5 Try.underlying42 Try.underlying9 (.int .u8 0) (fun _ => by kernel_rfl))
  have If2 := Lib.hid (@run_insertObj Try.prog 60 9 47 Try.underlying60 Try.underlying9)
  have Kf2 := Lib.hid (@look1 Try.prog 60 9 47 Try.underlying60 Try.underlying9 .nilFunc (fun _ => by kernel_rfl))
  have Lf2 := Lib.hid (@look2 Try.prog 60 9 47 Try.underlying60 Try.underlying9 .nilFunc (fun _ => by kernel_rfl))
  have Nf2 := @run_neq_func Try.prog 47 _ _ _ Try.underlying47
  have Mf2 := @run_neq_nilFunc Try.prog 47 _ _ _ Try.underlying47
  go_enter Try.func25, Try.ntmps25
  go_wp2_with (first | (rw [Iu8.out]; rotate_left; simp; simp [findS]; go_simp) | (rw [Ku8.out]; rotate_left; simp; go_simp) | (rw [Lu8.out]; rotate_left; simp; go_simp) | (rw [If2.out]; rotate_left; simp; simp [findS]; go_simp) | (rw [Kf2.out]; rotate_left; simp; go_simp) | (rw [Lf2.out]; rotate_left; simp; go_simp))
  refine (shiftX_other _ n q0 q1 q2 q3).mono ?_
  rintro _ _ ⟨rfl, rfl⟩
  go_wp2_with (first | (rw [Iu8.out]; rotate_left; simp; simp [findS]; go_simp) | (rw [Ku8.out]; rotate_left; simp; go_simp) | (rw [Lu8.out]; rotate_left; simp; go_simp) | (rw [If2.out]; rotate_left; simp; simp [findS]; go_simp) | (rw [Kf2.out]; rotate_left; simp; go_simp) | (rw [Lf2.out]; rotate_left; simp; go_simp))
  go_returns
  exact ⟨_, rfl, rfl, by repeat (first | with_reducible exact Kept.refl _ _ | with_reducible assumption | with_reducible apply Kept.alloc | with_reducible apply Kept.drew | with_reducible apply Kept.drewN | (with_reducible refine Kept.setCell ?_ (Or.inr (by simp <;> omega)) _))⟩

set_option maxHeartbeats 2000000 in
theorem inner_INX (w : World) (n : ByteArray) (r : Regs) (hr : r.Ok) (q0 : (n.toList == [65, 83, 76]) = false) (q1 : (n.toList == [76, 83, 82]) = false) (q2 : (n.toList == [82, 79, 76]) = false) (q3 : (n.toList == [82, 79, 82]) = false) (q4 : (n.toList == [67, 76, 67]) = false) (q5 : (n.toList == [67, 76, 68]) = false) (q6 : (n.toList == [67, 76, 73]) = false) (q7 : (n.toList == [67, 76, 86]) = false) (q8 : (n.toList == [83, 69, 67]) = false) (q9 : (n.toList == [83, 69, 68]) = false) (q10 : (n.toList == [83, 69, 73]) = false) (q11 : (n.toList == [84, 65, 88]) = false) (q12 : (n.toList == [84, 65, 89]) = false) (q13 : (n.toList == [84, 88, 65]) = false) (q14 : (n.toList == [84, 89, 65]) = false) (q15 : (n.toList == [84, 83, 88]) = false) (q16 : (n.toList == [84, 88, 83]) = false) (q17 : (n.toList == [73, 78, 88]) = true) :
    Calls Try.prog 25 #[.string n, r.val] w (Post w [] fun v W => v = ({ r with x := (r.x + 1) % 256, p := nzM r.p ((r.x + 1) % 256) } : Regs).val) := by
  obtain ⟨a, x, y, s, p, pc⟩ := r
  obtain ⟨ha, hx, hy, hs, hp, hpc⟩ := hr
  unfold Regs.val
  have Iu8 := Lib.hid (@run_insertObj Try.prog 42 9 5 Try.underlying42 Try.underlying9)
  have Ku8 := Lib.hid (@look1 Try.prog 42 9 5 Try.underlying42 Try.underlying9 (.int .u8 0) (fun _ => by kernel_rfl))
  have Lu8 := Lib.hid (@look2 Try.prog 42 9 5 Try.underlying42 Try.underlying9 (.int .u8 0) (fun _ => by kernel_rfl))
  have If2 := Lib.hid (@run_insertObj Try.prog 60 9 47 Try.underlying60 Try.underlying9)
  have Kf2 := Lib.hid (@look1 Try.prog 60 9 47 Try.underlying60 Try.underlying9 .nilFunc (fun _ => by kernel_rfl))
  have Lf2 := Lib.hid (@look2 Try.prog 60 9 47 Try.underlying60 Try.underlying9 .nilFunc (fun _ => by kernel_rfl))
  have Nf2 := @run_neq_func Try.prog 47 _ _ _ Try.underlying47
  have Mf2 := @run_neq_nilFunc Try.prog 47 _ _ _ Try.underlying47
  go_enter Try.func25, Try.ntmps25
  go_wp2_with (first | (rw [Iu8.out]; rotate_left; simp; simp [findS]; go_simp) | (rw [Ku8.out]; rotate_left; simp; go_simp) | (rw [Lu8.out]; rotate_left; simp; go_simp) | (rw [If2.out]; rotate_left; simp; simp [findS]; go_simp) | (rw [Kf2.out]; rotate_left; simp; go_simp) | (rw [Lf2.out]; rotate_left; simp; go_simp))
  refine (shiftX_other _ n q0 q1 q2 q3).mono ?_
  rintro _ _ ⟨rfl, rfl⟩
  go_wp2_with (first | (rw [Iu8.out]; rotate_left; simp; simp [findS]; go_simp) | (rw [Ku8.out]; rotate_left; simp; go_simp) | (rw [Lu8.out]; rotate_left; simp; go_simp) | (rw [If2.out]; rotate_left; simp; simp [findS]; go_simp) | (rw [Kf2.out]; rotate_left; simp; go_simp) | (rw [Lf2.out]; rotate_left; simp; go_simp))
  refine (set_any _ _ _ _ _ _ (((((Blk.new w 29 [.int .u8 a, .int .u8 x, .int .u8 y, .int .u8 s, .int .u8 p, .int .u16 pc]).alloc _).alloc _).alloc _).cell 1 rfl) (((((Blk.new w 29 [.int .u8 a, .int .u8 x, .int .u8 y, .int .u8 s, .int .u8 p, .int .u16 pc]).alloc _).alloc _).alloc _).cell 4 rfl) (((((Blk.new w 29 [.int .u8 a, .int .u8 x, .int .u8 y, .int .u8 s, .int .u8 p, .int .u16 pc]).alloc _).alloc _).alloc _).free 1) (((((Blk.new w 29 [.int .u8 a, .int .u8 x, .int .u8 y, .int .u8 s, .int .u8 p, .int .u16 pc]).alloc _).alloc _).alloc _).free 4) (by simp) hp.1 hp.2).mono ?_
  rintro _ _ ⟨rfl, rfl⟩
  go_wp2_with (first | (rw [Iu8.out]; rotate_left; simp; simp [findS]; go_simp) | (rw [Ku8.out]; rotate_left; simp; go_simp) | (rw [Lu8.out]; rotate_left; simp; go_simp) | (rw [If2.out]; rotate_left; simp; simp [findS]; go_simp) | (rw [Kf2.out]; rotate_left; simp; go_simp) | (rw [Lf2.out]; rotate_left; simp; go_simp))
  go_returns
  exact ⟨_, rfl, rfl, by repeat (first | with_reducible exact Kept.refl _ _ | with_reducible assumption | with_reducible apply Kept.alloc | with_reducible apply Kept.drew | with_reducible apply Kept.drewN | (with_reducible refine Kept.setCell ?_ (Or.inr (by simp <;> omega)) _))⟩

set_option maxHeartbeats 2000000 in
theorem inner_INY (w : World) (n : ByteArray) (r : Regs) (hr : r.Ok) (q0 : (n.toList == [65, 83, 76]) = false) (q1 : (n.toList == [76, 83, 82]) = false) (q2 : (n.toList == [82, 79, 76]) = false) (q3 : (n.toList == [82, 79, 82]) = false) (q4 : (n.toList == [67, 76, 67]) = false) (q5 : (n.toList == [67, 76, 68]) = false) (q6 : (n.toList == [67, 76, 73]) = false) (q7 : (n.toList == [67, 76, 86]) = false) (q8 : (n.toList == [83, 69, 67]) = false) (q9 : (n.toList == [83, 69, 68]) = false) (q10 : (n.toList == [83, 69, 73]) = false) (q11 : (n.toList == [84, 65, 88]) = false) (q12 : (n.toList == [84, 65, 89]) = false) (q13 : (n.toList == [84, 88, 65]) = false) (q14 : (n.toList == [84, 89, 65]) = false) (q15 : (n.toList == [84, 83, 88]) = false) (q16 : (n.toList == [84, 88, 83]) = false) (q17 : (n.toList == [73, 78, 88]) = false) (q18 : (n.toList == [73, 78, 89]) = true) :
    Calls Try.prog 25 #[.string n, r.val] w (Post w [] fun v W => v = ({ r with y := (r.y + 1) % 256, p := nzM r.p ((r.y + 1) % 256) } : Regs).val) := by
  obtain ⟨a, x, y, s, p, pc⟩ := r
  obtain ⟨ha, hx, hy, hs, hp, hpc⟩ := hr
  unfold Regs.val
  have Iu8 := Lib.hid (@run_insertObj Try.prog 42 9 5 Try.underlying42 Try.underlying9)
  have Ku8 := Lib.hid (@look1 Try.prog 42 9 5 Try.underlying42 Try.underlying9 (.int .u8 0) (fun _ => by kernel_rfl))
  have Lu8 := Lib.hid (@look2 Try.prog 42 9 5 Try.underlying42 Try.underlying9 (.int .u8 0) (fun _ => by kernel_rfl))
  have If2 := Lib.hid (@run_insertObj Try.prog 60 9 47 Try.underlying60 Try.underlying9)
  have Kf2 := Lib.hid (@look1 Try.prog 60 9 47 Try.underlying60 Try.underlying9 .nilFunc (fun _ => by kernel_rfl))
  have Lf2 := Lib.hid (@look2 Try.prog 60 9 47 Try.underlying60 Try.underlying9 .nilFunc (fun _ => by kernel_rfl))
  have Nf2 := @run_neq_func Try.prog 47 _ _ _ Try.underlying47
  have Mf2 := @run_neq_nilFunc Try.prog 47 _ _ _ Try.underlying47
  go_enter Try.func25, Try.ntmps25
  go_wp2_with (first | (rw [Iu8.out]; rotate_left; simp; simp [findS]; go_simp) | (rw [Ku8.out]; rotate_left; simp; go_simp) | (rw [Lu8.out]; rotate_left; simp; go_simp) | (rw [If2.out]; rotate_left; simp; simp [findS]; go_simp) | (rw [Kf2.out]; rotate_left; simp; go_simp) | (rw [Lf2.out]; rotate_left; simp; go_simp))
  refine (shiftX_other _ n q0 q1 q2 q3).mono ?_
  rintro _ _ ⟨rfl, rfl⟩
  go_wp2_with (first | (rw [Iu8.out]; rotate_left; simp; simp [findS]; go_simp) | (rw [Ku8.out]; rotate_left; simp; go_simp) | (rw [Lu8.out]; rotate_left; simp; go_simp) | (rw [If2.out]; rotate_left; simp; simp [findS]; go_simp) | (rw [Kf2.out]; rotate_left; simp; go_simp) | (rw [Lf2.out]; rotate_left; simp; go_simp))
  refine (set_any _ _ _ _ _ _ (((((Blk.new w 29 [.int .u8 a, .int .u8 x, .int .u8 y, .int .u8 s, .int .u8 p, .int .u16 pc]).alloc _).alloc _).alloc _).cell 2 rfl) (((((Blk.new w 29 [.int .u8 a, .int .u8 x, .int .u8 y, .int .u8 s, .int .u8 p, .int .u16 pc]).alloc _).alloc _).alloc _).cell 4 rfl) (((((Blk.new w 29 [.int .u8 a, .int .u8 x, .int .u8 y, .int .u8 s, .int .u8 p, .int .u16 pc]).alloc _).alloc _).alloc _).free 2) (((((Blk.new w 29 [.int .u8 a, .int .u8 x, .int .u8 y, .int .u8 s, .int .u8 p, .int .u16 pc]).alloc _).alloc _).alloc _).free 4) (by simp) hp.1 hp.2).mono ?_
  rintro _ _ ⟨rfl, rfl⟩
  go_wp2_with (first | (rw [Iu8.out]; rotate_left; simp; simp [findS]; go_simp) | (rw [Ku8.out]; rotate_left; simp; go_simp) | (rw [Lu8.out]; rotate_left; simp; go_simp) | (rw [If2.out]; rotate_left; simp; simp [findS]; go_simp) | (rw [Kf2.out]; rotate_left; simp; go_simp) | (rw [Lf2.out]; rotate_left; simp; go_simp))
  go_returns
  exact ⟨_, rfl, rfl, by repeat (first | with_reducible exact Kept.refl _ _ | with_reducible assumption | with_reducible apply Kept.alloc | with_reducible apply Kept.drew | with_reducible apply Kept.drewN | (with_reducible refine Kept.setCell ?_ (Or.inr (by simp <;> omega)) _))⟩

set_option maxHeartbeats 2000000 in
theorem inner_DEX (w : World) (n : ByteArray) (r : Regs) (hr : r.Ok) (q0 : (n.toList == [65, 83, 76]) = false) (q1 : (n.toList == [76, 83, 82]) = false) (q2 : (n.toList == [82, 79, 76]) = false) (q3 : (n.toList == [82, 79, 82]) = false) (q4 : (n.toList == [67, 76, 67]) = false) (q5 : (n.toList == [67, 76, 68]) = false) (q6 : (n.toList == [67, 76, 73]) = false) (q7 : (n.toList == [67, 76, 86]) = false) (q8 : (n.toList == [83, 69, 67]) = false) (q9 : (n.toList == [83, 69, 68]) = false) (q10 : (n.toList == [83, 69, 73]) = false) (q11 : (n.toList == [84, 65, 88]) = false) (q12 : (n.toList == [84, 65, 89]) = false) (q13 : (n.toList == [84, 88, 65]) = false) (q14 : (n.toList == [84, 89, 65]) = false) (q15 : (n.toList == [84, 83, 88]) = false) (q16 : (n.toList == [84, 88, 83]) = false) (q17 : (n.toList == [73, 78, 88]) = false) (q18 : (n.toList == [73, 78, 89]) = false) (q19 : (n.toList == [68, 69, 88]) = true) :
    Calls Try.prog 25 #[.string n, r.val] w (Post w [] fun v W => v = ({ r with x := (r.x - 1) % 256, p := nzM r.p ((r.x - 1) % 256) } : Regs).val) := by
  obtain ⟨a, x, y, s, p, pc⟩ := r
  obtain ⟨ha, hx, hy, hs, hp, hpc⟩ := hr
  unfold Regs.val
  have Iu8 := Lib.hid (@run_insertObj Try.prog 42 9 5 Try.underlying42 Try.underlying9)
  have Ku8 := Lib.hid (@look1 Try.prog 42 9 5 Try.underlying42 Try.underlying9 (.int .u8 0) (fun _ => by kernel_rfl))
  have Lu8 := Lib.hid (@look2 Try.prog 42 9 5 Try.underlying42 Try.underlying9 (.int .u8 0) (fun _ => by kernel_rfl))
  have If2 := Lib.hid (@run_insertObj Try.prog 60 9 47 Try.underlying60 Try.underlying9)
  have Kf2 := Lib.hid (@look1 Try.prog 60 9 47 Try.underlying60 Try.underlying9 .nilFunc (fun _ => by kernel_rfl))
  have Lf2 := Lib.hid (@look2 Try.prog 60 9 47 Try.underlying60 Try.underlying9 .nilFunc (fun _ => by kernel_rfl))
  have Nf2 := @run_neq_func Try.prog 47 _ _ _ Try.underlying47
  have Mf2 := @run_neq_nilFunc Try.prog 47 _ _ _ Try.underlying47
  go_enter Try.func25, Try.ntmps25
  go_wp2_with (first | (rw [Iu8.out]; rotate_left; simp; simp [findS]; go_simp) | (rw [Ku8.out]; rotate_left; simp; go_simp) | (rw [Lu8.out]; rotate_left; simp; go_simp) | (rw [If2.out]; rotate_left; simp; simp [findS]; go_simp) | (rw [Kf2.out]; rotate_left; simp; go_simp) | (rw [Lf2.out]; rotate_left; simp; go_simp))
  refine (shiftX_other _ n q0 q1 q2 q3).mono ?_
  rintro _ _ ⟨rfl, rfl⟩
  go_wp2_with (first | (rw [Iu8.out]; rotate_left; simp; simp [findS]; go_simp) | (rw [Ku8.out]; rotate_left; simp; go_simp) | (rw [Lu8.out]; rotate_left; simp; go_simp) | (rw [If2.out]; rotate_left; simp; simp [findS]; go_simp) | (rw [Kf2.out]; rotate_left; simp; go_simp) | (rw [Lf2.out]; rotate_left; simp; go_simp))
  refine (set_any _ _ _ _ _ _ (((((Blk.new w 29 [.int .u8 a, .int .u8 x, .int .u8 y, .int .u8 s, .int .u8 p, .int .u16 pc]).alloc _).alloc _).alloc _).cell 1 rfl) (((((Blk.new w 29 [.int .u8 a, .int .u8 x, .int .u8 y, .int .u8 s, .int .u8 p, .int .u16 pc]).alloc _).alloc _).alloc _).cell 4 rfl) (((((Blk.new w 29 [.int .u8 a, .int .u8 x, .int .u8 y, .int .u8 s, .int .u8 p, .int .u16 pc]).alloc _).alloc _).alloc _).free 1) (((((Blk.new w 29 [.int .u8 a, .int .u8 x, .int .u8 y, .int .u8 s, .int .u8 p, .int .u16 pc]).alloc _).alloc _).alloc _).free 4) (by simp) hp.1 hp.2).mono ?_
  rintro _ _ ⟨rfl, rfl⟩
  go_wp2_with (first | (rw [Iu8.out]; rotate_left; simp; simp [findS]; go_simp) | (rw [Ku8.out]; rotate_left; simp; go_simp) | (rw [Lu8.out]; rotate_left; simp; go_simp) | (rw [If2.out]; rotate_left; simp; simp [findS]; go_simp) | (rw [Kf2.out]; rotate_left; simp; go_simp) | (rw [Lf2.out]; rotate_left; simp; go_simp))
  go_returns
  exact ⟨_, rfl, rfl, by repeat (first | with_reducible exact Kept.refl _ _ | with_reducible assumption | with_reducible apply Kept.alloc | with_reducible apply Kept.drew | with_reducible apply Kept.drewN | (with_reducible refine Kept.setCell ?_ (Or.inr (by simp <;> omega)) _))⟩

set_option maxHeartbeats 2000000 in
theorem inner_DEY (w : World) (n : ByteArray) (r : Regs) (hr : r.Ok) (q0 : (n.toList == [65, 83, 76]) = false) (q1 : (n.toList == [76, 83, 82]) = false) (q2 : (n.toList == [82, 79, 76]) = false) (q3 : (n.toList == [82, 79, 82]) = false) (q4 : (n.toList == [67, 76, 67]) = false) (q5 : (n.toList == [67, 76, 68]) = false) (q6 : (n.toList == [67, 76, 73]) = false) (q7 : (n.toList == [67, 76, 86]) = false) (q8 : (n.toList == [83, 69, 67]) = false) (q9 : (n.toList == [83, 69, 68]) = false) (q10 : (n.toList == [83, 69, 73]) = false) (q11 : (n.toList == [84, 65, 88]) = false) (q12 : (n.toList == [84, 65, 89]) = false) (q13 : (n.toList == [84, 88, 65]) = false) (q14 : (n.toList == [84, 89, 65]) = false) (q15 : (n.toList == [84, 83, 88]) = false) (q16 : (n.toList == [84, 88, 83]) = false) (q17 : (n.toList == [73, 78, 88]) = false) (q18 : (n.toList == [73, 78, 89]) = false) (q19 : (n.toList == [68, 69, 88]) = false) (q20 : (n.toList == [68, 69, 89]) = true) :
    Calls Try.prog 25 #[.string n, r.val] w (Post w [] fun v W => v = ({ r with y := (r.y - 1) % 256, p := nzM r.p ((r.y - 1) % 256) } : Regs).val) := by
  obtain ⟨a, x, y, s, p, pc⟩ := r
  obtain ⟨ha, hx, hy, hs, hp, hpc⟩ := hr
  unfold Regs.val
  have Iu8 := Lib.hid (@run_insertObj Try.prog 42 9 5 Try.underlying42 Try.underlying9)
  have Ku8 := Lib.hid (@look1 Try.prog 42 9 5 Try.underlying42 Try.underlying9 (.int .u8 0) (fun _ => by kernel_rfl))
  have Lu8 := Lib.hid (@look2 Try.prog 42 9 5 Try.underlying42 Try.underlying9 (.int .u8 0) (fun _ => by kernel_rfl))
  have If2 := Lib.hid (@run_insertObj Try.prog 60 9 47 Try.underlying60 Try.underlying9)
  have Kf2 := Lib.hid (@look1 Try.prog 60 9 47 Try.underlying60 Try.underlying9 .nilFunc (fun _ => by kernel_rfl))
  have Lf2 := Lib.hid (@look2 Try.prog 60 9 47 Try.underlying60 Try.underlying9 .nilFunc (fun _ => by kernel_rfl))
  have Nf2 := @run_neq_func Try.prog 47 _ _ _ Try.underlying47
  have Mf2 := @run_neq_nilFunc Try.prog 47 _ _ _ Try.underlying47
  go_enter Try.func25, Try.ntmps25
  go_wp2_with (first | (rw [Iu8.out]; rotate_left; simp; simp [findS]; go_simp) | (rw [Ku8.out]; rotate_left; simp; go_simp) | (rw [Lu8.out]; rotate_left; simp; go_simp) | (rw [If2.out]; rotate_left; simp; simp [findS]; go_simp) | (rw [Kf2.out]; rotate_left; simp; go_simp) | (rw [Lf2.out]; rotate_left; simp; go_simp))
  refine (shiftX_other _ n q0 q1 q2 q3).mono ?_
  rintro _ _ ⟨rfl, rfl⟩
  go_wp2_with (first | (rw [Iu8.out]; rotate_left; simp; simp [findS]; go_simp) | (rw [Ku8.out]; rotate_left; simp; go_simp) | (rw [Lu8.out]; rotate_left; simp; go_simp) | (rw [If2.out]; rotate_left; simp; simp [findS]; go_simp) | (rw [Kf2.out]; rotate_left; simp; go_simp) | (rw [Lf2.out]; rotate_left; simp; go_simp))
  refine (set_any _ _ _ _ _ _ (((((Blk.new w 29 [.int .u8 a, .int .u8 x, .int .u8 y, .int .u8 s, .int .u8 p, .int .u16 pc]).alloc _).alloc _).alloc _).cell 2 rfl) (((((Blk.new w 29 [.int .u8 a, .int .u8 x, .int .u8 y, .int .u8 s, .int .u8 p, .int .u16 pc]).alloc _).alloc _).alloc _).cell 4 rfl) (((((Blk.new w 29 [.int .u8 a, .int .u8 x, .int .u8 y, .int .u8 s, .int .u8 p, .int .u16 pc]).alloc _).alloc _).alloc _).free 2) (((((Blk.new w 29 [.int .u8 a, .int .u8 x, .int .u8 y, .int .u8 s, .int .u8 p, .int .u16 pc]).alloc _).alloc _).alloc _).free 4) (by simp) hp.1 hp.2).mono ?_
  rintro _ _ ⟨rfl, rfl⟩
  go_wp2_with (first | (rw [Iu8.out]; rotate_left; simp; simp [findS]; go_simp) | (rw [Ku8.out]; rotate_left; simp; go_simp) | (rw [Lu8.out]; rotate_left; simp; go_simp) | (rw [If2.out]; rotate_left; simp; simp [findS]; go_simp) | (rw [Kf2.out]; rotate_left; simp; go_simp) | (rw [Lf2.out]; rotate_left; simp; go_simp))
  go_returns
  exact ⟨_, rfl, rfl, by repeat (first | with_reducible exact Kept.refl _ _ | with_reducible assumption | with_reducible apply Kept.alloc | with_reducible apply Kept.drew | with_reducible apply Kept.drewN | (with_reducible refine Kept.setCell ?_ (Or.inr (by simp <;> omega)) _))⟩

set_option maxHeartbeats 2000000 in
theorem inner_other (w : World) (n : ByteArray) (r : Regs) (hr : r.Ok) (q0 : (n.toList == [65, 83, 76]) = false) (q1 : (n.toList == [76, 83, 82]) = false) (q2 : (n.toList == [82, 79, 76]) = false) (q3 : (n.toList == [82, 79, 82]) = false) (q4 : (n.toList == [67, 76, 67]) = false) (q5 : (n.toList == [67, 76, 68]) = false) (q6 : (n.toList == [67, 76, 73]) = false) (q7 : (n.toList == [67, 76, 86]) = false) (q8 : (n.toList == [83, 69, 67]) = false) (q9 : (n.toList == [83, 69, 68]) = false) (q10 : (n.toList == [83, 69, 73]) = false) (q11 : (n.toList == [84, 65, 88]) = false) (q12 : (n.toList == [84, 65, 89]) = false) (q13 : (n.toList == [84, 88, 65]) = false) (q14 : (n.toList == [84, 89, 65]) = false) (q15 : (n.toList == [84, 83, 88]) = false) (q16 : (n.toList == [84, 88, 83]) = false) (q17 : (n.toList == [73, 78, 88]) = false) (q18 : (n.toList == [73, 78, 89]) = false) (q19 : (n.toList == [68, 69, 88]) = false) (q20 : (n.toList == [68, 69, 89]) = false) :
    Calls Try.prog 25 #[.string n, r.val] w (Post w [] fun v W => v = (r : Regs).val) := by
  obtain ⟨a, x, y, s, p, pc⟩ := r
  obtain ⟨ha, hx, hy, hs, hp, hpc⟩ := hr
  unfold Regs.val
  have Iu8 := Lib.hid (@run_insertObj Try.prog 42 9 5 Try.underlying42 Try.underlying9)
  have Ku8 := Lib.hid (@look1 Try.prog 42 9 5 Try.underlying42 Try.underlying9 (.int .u8 0) (fun _ => by kernel_rfl))
  have Lu8 := Lib.hid (@look2 Try.prog 42 9 5 Try.underlying42 Try.underlying9 (.int .u8 0) (fun _ => by kernel_rfl))
  have If2 := Lib.hid (@run_insertObj Try.prog 60 9 47 Try.underlying60 Try.underlying9)
  have Kf2 := Lib.hid (@look1 Try.prog 60 9 47 Try.underlying60 Try.underlying9 .nilFunc (fun _ => by kernel_rfl))
  have Lf2 := Lib.hid (@look2 Try.prog 60 9 47 Try.underlying60 Try.underlying9 .nilFunc (fun _ => by kernel_rfl))
  have Nf2 := @run_neq_func Try.prog 47 _ _ _ Try.underlying47
  have Mf2 := @run_neq_nilFunc Try.prog 47 _ _ _ Try.underlying47
  go_enter Try.func25, Try.ntmps25
  go_wp2_with (first | (rw [Iu8.out]; rotate_left; simp; simp [findS]; go_simp) | (rw [Ku8.out]; rotate_left; simp; go_simp) | (rw [Lu8.out]; rotate_left; simp; go_simp) | (rw [If2.out]; rotate_left; simp; simp [findS]; go_simp) | (rw [Kf2.out]; rotate_left; simp; go_simp) | (rw [Lf2.out]; rotate_left; simp; go_simp))
  refine (shiftX_other _ n q0 q1 q2 q3).mono ?_
  rintro _ _ ⟨rfl, rfl⟩
  go_wp2_with (first | (rw [Iu8.out]; rotate_left; simp; simp [findS]; go_simp) | (rw [Ku8.out]; rotate_left; simp; go_simp) | (rw [Lu8.out]; rotate_left; simp; go_simp) | (rw [If2.out]; rotate_left; simp; simp [findS]; go_simp) | (rw [Kf2.out]; rotate_left; simp; go_simp) | (rw [Lf2.out]; rotate_left; simp; go_simp))
  go_returns
  exact ⟨_, rfl, rfl, by repeat (first | with_reducible exact Kept.refl _ _ | with_reducible assumption | with_reducible apply Kept.alloc | with_reducible apply Kept.drew | with_reducible apply Kept.drewN | (with_reducible refine Kept.setCell ?_ (Or.inr (by simp <;> omega)) _))⟩

def innerM (n : List UInt8) (r : Regs) : Regs :=
  if (n == [65, 83, 76]) = true then { r with a := (asl r.a r.p).1, p := (asl r.a r.p).2 } else
  if (n == [76, 83, 82]) = true then { r with a := (lsr r.a r.p).1, p := (lsr r.a r.p).2 } else
  if (n == [82, 79, 76]) = true then { r with a := (rol r.a r.p).1, p := (rol r.a r.p).2 } else
  if (n == [82, 79, 82]) = true then { r with a := (ror r.a r.p).1, p := (ror r.a r.p).2 } else
  if (n == [67, 76, 67]) = true then { r with p := setF r.p 1 false } else
  if (n == [67, 76, 68]) = true then { r with p := setF r.p 8 false } else
  if (n == [67, 76, 73]) = true then { r with p := setF r.p 4 false } else
  if (n == [67, 76, 86]) = true then { r with p := setF r.p 64 false } else
  if (n == [83, 69, 67]) = true then { r with p := setF r.p 1 true } else
  if (n == [83, 69, 68]) = true then { r with p := setF r.p 8 true } else
  if (n == [83, 69, 73]) = true then { r with p := setF r.p 4 true } else
  if (n == [84, 65, 88]) = true then { r with x := r.a, p := nzM r.p (r.a) } else
  if (n == [84, 65, 89]) = true then { r with y := r.a, p := nzM r.p (r.a) } else
  if (n == [84, 88, 65]) = true then { r with a := r.x, p := nzM r.p (r.x) } else
  if (n == [84, 89, 65]) = true then { r with a := r.y, p := nzM r.p (r.y) } else
  if (n == [84, 83, 88]) = true then { r with x := r.s, p := nzM r.p (r.s) } else
  if (n == [84, 88, 83]) = true then { r with s := r.x } else
  if (n == [73, 78, 88]) = true then { r with x := (r.x + 1) % 256, p := nzM r.p ((r.x + 1) % 256) } else
  if (n == [73, 78, 89]) = true then { r with y := (r.y + 1) % 256, p := nzM r.p ((r.y + 1) % 256) } else
  if (n == [68, 69, 88]) = true then { r with x := (r.x - 1) % 256, p := nzM r.p ((r.x - 1) % 256) } else
  if (n == [68, 69, 89]) = true then { r with y := (r.y - 1) % 256, p := nzM r.p ((r.y - 1) % 256) } else
  r
theorem inner_any (w : World) (n : ByteArray) (r : Regs) (hr : r.Ok) :
    Calls Try.prog 25 #[.string n, r.val] w (Post w [] fun v W => v = (innerM n.toList r).val) := by
  unfold innerM
  by_cases q0 : (n.toList == [65, 83, 76]) = true
  · rw [if_pos q0]
    exact inner_ASL w n r hr  q0
  rw [if_neg q0]
  have q0 : (n.toList == [65, 83, 76]) = false := by simpa using q0
  by_cases q1 : (n.toList == [76, 83, 82]) = true
  · rw [if_pos q1]
    exact inner_LSR w n r hr q0 q1
  rw [if_neg q1]
  have q1 : (n.toList == [76, 83, 82]) = false := by simpa using q1
  by_cases q2 : (n.toList == [82, 79, 76]) = true
  · rw [if_pos q2]
    exact inner_ROL w n r hr q0 q1 q2
  rw [if_neg q2]
  have q2 : (n.toList == [82, 79, 76]) = false := by simpa using q2
  by_cases q3 : (n.toList == [82, 79, 82]) = true
  · rw [if_pos q3]
    exact inner_ROR w n r hr q0 q1 q2 q3
  rw [if_neg q3]
  have q3 : (n.toList == [82, 79, 82]) = false := by simpa using q3
  by_cases q4 : (n.toList == [67, 76, 67]) = true
  · rw [if_pos q4]
    rw [text_of q4]
    exact inner_CLC w r hr
  rw [if_neg q4]
  have q4 : (n.toList == [67, 76, 67]) = false := by simpa using q4
  by_cases q5 : (n.toList == [67, 76, 68]) = true
  · rw [if_pos q5]
    rw [text_of q5]
    exact inner_CLD w r hr
  rw [if_neg q5]
  have q5 : (n.toList == [67, 76, 68]) = false := by simpa using q5
  by_cases q6 : (n.toList == [67, 76, 73]) = true
  · rw [if_pos q6]
    rw [text_of q6]
    exact inner_CLI w r hr
  rw [if_neg q6]
  have q6 : (n.toList == [67, 76, 73]) = false := by simpa using q6
  by_cases q7 : (n.toList == [67, 76, 86]) = true
  · rw [if_pos q7]
    rw [text_of q7]
    exact inner_CLV w r hr
  rw [if_neg q7]
  have q7 : (n.toList == [67, 76, 86]) = false := by simpa using q7
  by_cases q8 : (n.toList == [83, 69, 67]) = true
  · rw [if_pos q8]
    rw [text_of q8]
    exact inner_SEC w r hr
  rw [if_neg q8]
  have q8 : (n.toList == [83, 69, 67]) = false := by simpa using q8
  by_cases q9 : (n.toList == [83, 69, 68]) = true
  · rw [if_pos q9]
    rw [text_of q9]
    exact inner_SED w r hr
  rw [if_neg q9]
  have q9 : (n.toList == [83, 69, 68]) = false := by simpa using q9
  by_cases q10 : (n.toList == [83, 69, 73]) = true
  · rw [if_pos q10]
    rw [text_of q10]
    exact inner_SEI w r hr
  rw [if_neg q10]
  have q10 : (n.toList == [83, 69, 73]) = false := by simpa using q10
  by_cases q11 : (n.toList == [84, 65, 88]) = true
  · rw [if_pos q11]
    exact inner_TAX w n r hr q0 q1 q2 q3 q4 q5 q6 q7 q8 q9 q10 q11
  rw [if_neg q11]
  have q11 : (n.toList == [84, 65, 88]) = false := by simpa using q11
  by_cases q12 : (n.toList == [84, 65, 89]) = true
  · rw [if_pos q12]
    exact inner_TAY w n r hr q0 q1 q2 q3 q4 q5 q6 q7 q8 q9 q10 q11 q12
  rw [if_neg q12]
  have q12 : (n.toList == [84, 65, 89]) = false := by simpa using q12
  by_cases q13 : (n.toList == [84, 88, 65]) = true
  · rw [if_pos q13]
    exact inner_TXA w n r hr q0 q1 q2 q3 q4 q5 q6 q7 q8 q9 q10 q11 q12 q13
  rw [if_neg q13]
  have q13 : (n.toList == [84, 88, 65]) = false := by simpa using q13
  by_cases q14 : (n.toList == [84, 89, 65]) = true
  · rw [if_pos q14]
    exact inner_TYA w n r hr q0 q1 q2 q3 q4 q5 q6 q7 q8 q9 q10 q11 q12 q13 q14
  rw [if_neg q14]
  have q14 : (n.toList == [84, 89, 65]) = false := by simpa using q14
  by_cases q15 : (n.toList == [84, 83, 88]) = true
  · rw [if_pos q15]
    exact inner_TSX w n r hr q0 q1 q2 q3 q4 q5 q6 q7 q8 q9 q10 q11 q12 q13 q14 q15
  rw [if_neg q15]
  have q15 : (n.toList == [84, 83, 88]) = false := by simpa using q15
  by_cases q16 : (n.toList == [84, 88, 83]) = true
  · rw [if_pos q16]
    exact inner_TXS w n r hr q0 q1 q2 q3 q4 q5 q6 q7 q8 q9 q10 q11 q12 q13 q14 q15 q16
  rw [if_neg q16]
  have q16 : (n.toList == [84, 88, 83]) = false := by simpa using q16
  by_cases q17 : (n.toList == [73, 78, 88]) = true
  · rw [if_pos q17]
    exact inner_INX w n r hr q0 q1 q2 q3 q4 q5 q6 q7 q8 q9 q10 q11 q12 q13 q14 q15 q16 q17
  rw [if_neg q17]
  have q17 : (n.toList == [73, 78, 88]) = false := by simpa using q17
  by_cases q18 : (n.toList == [73, 78, 89]) = true
  · rw [if_pos q18]
    exact inner_INY w n r hr q0 q1 q2 q3 q4 q5 q6 q7 q8 q9 q10 q11 q12 q13 q14 q15 q16 q17 q18
  rw [if_neg q18]
  have q18 : (n.toList == [73, 78, 89]) = false := by simpa using q18
  by_cases q19 : (n.toList == [68, 69, 88]) = true
  · rw [if_pos q19]
    exact inner_DEX w n r hr q0 q1 q2 q3 q4 q5 q6 q7 q8 q9 q10 q11 q12 q13 q14 q15 q16 q17 q18 q19
  rw [if_neg q19]
  have q19 : (n.toList == [68, 69, 88]) = false := by simpa using q19
  by_cases q20 : (n.toList == [68, 69, 89]) = true
  · rw [if_pos q20]
    exact inner_DEY w n r hr q0 q1 q2 q3 q4 q5 q6 q7 q8 q9 q10 q11 q12 q13 q14 q15 q16 q17 q18 q19 q20
  rw [if_neg q20]
  have q20 : (n.toList == [68, 69, 89]) = false := by simpa using q20
  exact inner_other w n r hr q0 q1 q2 q3 q4 q5 q6 q7 q8 q9 q10 q11 q12 q13 q14 q15 q16 q17 q18 q19 q20

end Go.Proofs.Ytmiihcaccejklaa
