/- PROVED: the contract of effect.Modifies at any name. No conditions beyond those that each theorem states. -/
import Derived.Test.YtmiihcaccejklaaEffM
import Derived.Laws.Rows
import Derived.Deep.RegionWith
import Derived.Deep.RegionHeld3
namespace Go.Proofs.Ytmiihcaccejklaa
open Go.RowKit Go.Proofs.YtmiihcaccejklaaLib
set_option linter.unusedSimpArgs false
set_option linter.unusedVariables false
attribute [local go_sem] run_makeMapObj findS

theorem Blk.third (w : World) (o o' : Obj) (T : Nat) (L : List Value) : Blk (((w.alloc o).alloc o').alloc (.cells L.toArray T (0, 0))) (w.heap.size + 1 + 1) T L := by
  have h := Blk.second (w.alloc o) o' T L
  rwa [World.size_alloc] at h
theorem Blk.top (w : World) (b : Nat) (hb : w.heap.size = b) (T : Nat) (L : List Value) : Blk (w.alloc (.cells L.toArray T (0, 0))) b T L := hb ▸ Blk.new w T L
theorem open_world {P : Program} {C : Code} {Q : Exit → Act → World → Prop} {a : Act} {W : World} (R : World → Prop) (h : R W) (k : ∀ w, R w → C.wp P Q a w) : C.wp P Q a W := k W h
theorem open_calls {P : Program} {f : FuncId} {args : Array Value} {Q : Ending → World → Prop} {W : World} (R : World → Prop) (h : R W) (k : ∀ w, R w → Calls P f args w Q) : Calls P f args W Q := k W h
theorem results_pair_row {P : Program} {fn : Func} {p q : Tmp} {ty : TypeId} (h : fn.results = #[.cell p ty, .tmp q]) (tmps : Array Value) (w : World) (g : Nat) (t : TypeId) (cs : Array Value) (fr : Nat × Nat) (d : TypeDesc) (u : Value)
    (hp : tmps.getD p undef = .pointer (some ⟨g, 0, none⟩)) (hq : tmps.getD q undef = u) (hg : w.heap[g]? = some (.cells cs t fr))
    (hu : P.underlying ty = some d) (hd : (match d with | .struct _ | .array _ _ => true | _ => false) = true) (hi : (P.info? ty).map (·.size) = some cs.size) :
    (results fn tmps).run P w = .ok (.tuple #[.agg cs, u]) w := by
  have hp' : tmps[p]?.getD undef = .pointer (some ⟨g, 0, none⟩) := by simpa using hp
  have hq' : tmps[q]?.getD undef = u := by simpa using hq
  simp [results, h, hp', hq', asAddr, run_loadVar_row w g t ty cs fr d hg hu hd hi]

set_option maxHeartbeats 2000000 in
theorem modifies_DCP (w : World) (n : ByteArray) (r : Regs) (m : Int) (hr : r.Ok) (hm : Byte m) (q0 : (n.toList == [83, 76, 79]) = false) (q1 : (n.toList == [82, 76, 65]) = false) (q2 : (n.toList == [83, 82, 69]) = false) (q3 : (n.toList == [82, 82, 65]) = false) (q4 : (n.toList == [65, 83, 76]) = false) (q5 : (n.toList == [76, 83, 82]) = false) (q6 : (n.toList == [82, 79, 76]) = false) (q7 : (n.toList == [82, 79, 82]) = false) (q8 : (n.toList == [73, 78, 67]) = false) (q9 : (n.toList == [68, 69, 67]) = false) (q10 : (n.toList == [68, 67, 80]) = true) :
    Calls Try.prog 14 #[.string n, r.val, .int .u8 m] w (Post w [] fun v W => v = .tuple #[((readsM [67, 77, 80] r ((m - 1) % 256), (m - 1) % 256) : Regs × Int).1.val, .int .u8 ((readsM [67, 77, 80] r ((m - 1) % 256), (m - 1) % 256) : Regs × Int).2]) := by
  obtain ⟨a, x, y, s, p, pc⟩ := r
  obtain ⟨ha, hx, hy, hs, hp, hpc⟩ := hr
  unfold Regs.val
  have Ipair := Lib.hid (@run_insertObj Try.prog 46 9 45 Try.underlying46 Try.underlying9)
  have Kpair := Lib.hid (@look1 Try.prog 46 9 45 Try.underlying46 Try.underlying9 (.agg #[.string ⟨#[]⟩, .string ⟨#[]⟩]) (fun _ => by kernel_rfl))
  have Lpair := Lib.hid (@look2 Try.prog 46 9 45 Try.underlying46 Try.underlying9 (.agg #[.string ⟨#[]⟩, .string ⟨#[]⟩]) (fun _ => by kernel_rfl))
  have If2 := Lib.hid (@run_insertObj Try.prog 60 9 47 Try.underlying60 Try.underlying9)
  have Kf2 := Lib.hid (@look1 Try.prog 60 9 47 Try.underlying60 Try.underlying9 .nilFunc (fun _ => by kernel_rfl))
  have Lf2 := Lib.hid (@look2 Try.prog 60 9 47 Try.underlying60 Try.underlying9 .nilFunc (fun _ => by kernel_rfl))
  have Nf2 := @run_neq_func Try.prog 47 _ _ _ Try.underlying47
  have Mf2 := @run_neq_nilFunc Try.prog 47 _ _ _ Try.underlying47
  go_enter Try.func14, Try.ntmps14
  go_wp2_with (first | (rw [Ipair.out]; rotate_left; simp; simp [findS]; go_simp) | (rw [Kpair.out]; rotate_left; simp; go_simp) | (rw [Lpair.out]; rotate_left; simp; go_simp) | (rw [If2.out]; rotate_left; simp; simp [findS]; go_simp) | (rw [Kf2.out]; rotate_left; simp; go_simp) | (rw [Lf2.out]; rotate_left; simp; go_simp))
  refine (shiftX_other _ n q4 q5 q6 q7).mono ?_
  rintro _ _ ⟨rfl, rfl⟩
  go_wp2_with (first | (rw [Ipair.out]; rotate_left; simp; simp [findS]; go_simp) | (rw [Kpair.out]; rotate_left; simp; go_simp) | (rw [Lpair.out]; rotate_left; simp; go_simp) | (rw [If2.out]; rotate_left; simp; simp [findS]; go_simp) | (rw [Kf2.out]; rotate_left; simp; go_simp) | (rw [Lf2.out]; rotate_left; simp; go_simp))
  refine open_world (fun W => Blk W w.heap.size 29 [.int .u8 a, .int .u8 x, .int .u8 y, .int .u8 s, .int .u8 p, .int .u16 pc] ∧ Blk W (w.heap.size + 1) 5 [.int .u8 ((m - 1) % 256)] ∧ Blk W (w.heap.size + 1 + 1) 29 [.int .u8 0, .int .u8 0, .int .u8 0, .int .u8 0, .int .u8 0, .int .u16 0] ∧ Kept w W [])
    ⟨(((((Blk.new _ _ _).alloc _).alloc _).alloc _).alloc _).alloc _, ((((Blk.second _ _ _ _).alloc _).alloc _).alloc _).alloc _, (((Blk.third _ _ _ _ _).alloc _).alloc _).alloc _, (((((((Kept.refl _ _).alloc _).alloc _).alloc _).alloc _).alloc _).alloc _)⟩ ?_
  rintro w5 ⟨hbr, hbm, hbz, hkk⟩
  have c0 := hbr.cell 0 rfl
  have cf0 := hbr.free 0
  have c1 := hbr.cell 1 rfl
  have cf1 := hbr.free 1
  have c2 := hbr.cell 2 rfl
  have cf2 := hbr.free 2
  have c3 := hbr.cell 3 rfl
  have cf3 := hbr.free 3
  have c4 := hbr.cell 4 rfl
  have cf4 := hbr.free 4
  have c5 := hbr.cell 5 rfl
  have cf5 := hbr.free 5
  have e0 := hbm.cell 0 rfl
  have ef0 := hbm.free 0
  replace hbm := Lib.hid hbm
  replace hbz := Lib.hid hbz
  replace hbr := Lib.hid hbr
  go_region_held3 (fun W => W.cell? ⟨w.heap.size, 0, none⟩ = some (.int .u8 a) ∧ W.cell? ⟨w.heap.size, 1, none⟩ = some (.int .u8 x) ∧ W.cell? ⟨w.heap.size, 2, none⟩ = some (.int .u8 y) ∧ W.cell? ⟨w.heap.size, 3, none⟩ = some (.int .u8 s) ∧ W.cell? ⟨w.heap.size, 4, none⟩ = some (.int .u8 p) ∧ W.cell? ⟨w.heap.size, 5, none⟩ = some (.int .u16 pc) ∧ W.cell? ⟨w.heap.size + 1, 0, none⟩ = some (.int .u8 ((m - 1) % 256))) (first | (with_reducible exact ⟨n0, n1, n2, n3, n4, n5, m1⟩) | (simp (disch := (show (_ : Nat) ≠ _; dsimp only; omega)) only [World.cell?_setCell_far]; with_reducible exact ⟨n0, n1, n2, n3, n4, n5, m1⟩) | go_keep) (first | (
       go_at_call 23
       refine (reads_any _ ⟨#[67, 77, 80]⟩ ⟨a, x, y, s, p, pc⟩ ((m - 1) % 256) ⟨ha, hx, hy, hs, hp, hpc⟩ (mod_b _)).mono ?_
       rintro _ w1 ⟨_, rfl, rfl, k1⟩
       rw [ByteArray.toList_eq]
       have m1 := (hbm.out.drew.kept k1 (by simp)).cell 0 rfl
       have hz1 := hbz.out.drew.kept k1 (by simp)
       have hr1 := hbr.out.drew.kept k1 (by simp)
       have z0 := hz1.cell 0 rfl
       have zf0 := hz1.free 0
       have z1 := hz1.cell 1 rfl
       have zf1 := hz1.free 1
       have z2 := hz1.cell 2 rfl
       have zf2 := hz1.free 2
       have z3 := hz1.cell 3 rfl
       have zf3 := hz1.free 3
       have z4 := hz1.cell 4 rfl
       have zf4 := hz1.free 4
       have z5 := hz1.cell 5 rfl
       have zf5 := hz1.free 5
       have n0 := hr1.cell 0 rfl
       have n1 := hr1.cell 1 rfl
       have n2 := hr1.cell 2 rfl
       have n3 := hr1.cell 3 rfl
       have n4 := hr1.cell 4 rfl
       have n5 := hr1.cell 5 rfl
       clear hr1
       replace hz1 := Lib.hid hz1
       have kk1 := (hkk.drew).trans k1 (by simp)
       clear k1
       generalize hg1 : readsM _ _ _ = r3
       obtain ⟨ga, gx, gy, gs, gp, gc⟩ := r3
       unfold Regs.val
       simp only []))
  all_goals (
    go_wp2_with fail
    replace hz1 := hz1.out
    have hz := (((((hz1.set 0 (.int .u8 ga)).set 1 (.int .u8 gx)).set 2 (.int .u8 gy)).set 3 (.int .u8 gs)).set 4 (.int .u8 gp)).set 5 (.int .u16 gc)
    simp only [List.set] at hz
    refine bodyPost_ret (results_pair_row Try.results14 _ _ _ _ _ _ _ _ (by simp [go_sem]) (by simp [go_sem]; rfl) hz Try.underlying29 rfl rfl) rfl ?_
    exact ⟨_, rfl, by simp only [hg1], by repeat (first | with_reducible exact Kept.refl _ _ | with_reducible assumption | with_reducible apply Kept.alloc | with_reducible apply Kept.drew | with_reducible apply Kept.drewN | (with_reducible refine Kept.setCell ?_ (Or.inr (by simp <;> omega)) _))⟩)

set_option maxHeartbeats 2000000 in
theorem modifies_ISC (w : World) (n : ByteArray) (r : Regs) (m : Int) (hr : r.Ok) (hm : Byte m) (q0 : (n.toList == [83, 76, 79]) = false) (q1 : (n.toList == [82, 76, 65]) = false) (q2 : (n.toList == [83, 82, 69]) = false) (q3 : (n.toList == [82, 82, 65]) = false) (q4 : (n.toList == [65, 83, 76]) = false) (q5 : (n.toList == [76, 83, 82]) = false) (q6 : (n.toList == [82, 79, 76]) = false) (q7 : (n.toList == [82, 79, 82]) = false) (q8 : (n.toList == [73, 78, 67]) = false) (q9 : (n.toList == [68, 69, 67]) = false) (q10 : (n.toList == [68, 67, 80]) = false) (q11 : (n.toList == [73, 83, 67]) = true) :
    Calls Try.prog 14 #[.string n, r.val, .int .u8 m] w (Post w [] fun v W => v = .tuple #[((readsM [83, 66, 67] r ((m + 1) % 256), (m + 1) % 256) : Regs × Int).1.val, .int .u8 ((readsM [83, 66, 67] r ((m + 1) % 256), (m + 1) % 256) : Regs × Int).2]) := by
  obtain ⟨a, x, y, s, p, pc⟩ := r
  obtain ⟨ha, hx, hy, hs, hp, hpc⟩ := hr
  unfold Regs.val
  have Ipair := Lib.hid (@run_insertObj Try.prog 46 9 45 Try.underlying46 Try.underlying9)
  have Kpair := Lib.hid (@look1 Try.prog 46 9 45 Try.underlying46 Try.underlying9 (.agg #[.string ⟨#[]⟩, .string ⟨#[]⟩]) (fun _ => by kernel_rfl))
  have Lpair := Lib.hid (@look2 Try.prog 46 9 45 Try.underlying46 Try.underlying9 (.agg #[.string ⟨#[]⟩, .string ⟨#[]⟩]) (fun _ => by kernel_rfl))
  have If2 := Lib.hid (@run_insertObj Try.prog 60 9 47 Try.underlying60 Try.underlying9)
  have Kf2 := Lib.hid (@look1 Try.prog 60 9 47 Try.underlying60 Try.underlying9 .nilFunc (fun _ => by kernel_rfl))
  have Lf2 := Lib.hid (@look2 Try.prog 60 9 47 Try.underlying60 Try.underlying9 .nilFunc (fun _ => by kernel_rfl))
  have Nf2 := @run_neq_func Try.prog 47 _ _ _ Try.underlying47
  have Mf2 := @run_neq_nilFunc Try.prog 47 _ _ _ Try.underlying47
  go_enter Try.func14, Try.ntmps14
  go_wp2_with (first | (rw [Ipair.out]; rotate_left; simp; simp [findS]; go_simp) | (rw [Kpair.out]; rotate_left; simp; go_simp) | (rw [Lpair.out]; rotate_left; simp; go_simp) | (rw [If2.out]; rotate_left; simp; simp [findS]; go_simp) | (rw [Kf2.out]; rotate_left; simp; go_simp) | (rw [Lf2.out]; rotate_left; simp; go_simp))
  refine (shiftX_other _ n q4 q5 q6 q7).mono ?_
  rintro _ _ ⟨rfl, rfl⟩
  go_wp2_with (first | (rw [Ipair.out]; rotate_left; simp; simp [findS]; go_simp) | (rw [Kpair.out]; rotate_left; simp; go_simp) | (rw [Lpair.out]; rotate_left; simp; go_simp) | (rw [If2.out]; rotate_left; simp; simp [findS]; go_simp) | (rw [Kf2.out]; rotate_left; simp; go_simp) | (rw [Lf2.out]; rotate_left; simp; go_simp))
  refine open_world (fun W => Blk W w.heap.size 29 [.int .u8 a, .int .u8 x, .int .u8 y, .int .u8 s, .int .u8 p, .int .u16 pc] ∧ Blk W (w.heap.size + 1) 5 [.int .u8 ((m + 1) % 256)] ∧ Blk W (w.heap.size + 1 + 1) 29 [.int .u8 0, .int .u8 0, .int .u8 0, .int .u8 0, .int .u8 0, .int .u16 0] ∧ Kept w W [])
    ⟨(((((Blk.new _ _ _).alloc _).alloc _).alloc _).alloc _).alloc _, ((((Blk.second _ _ _ _).alloc _).alloc _).alloc _).alloc _, (((Blk.third _ _ _ _ _).alloc _).alloc _).alloc _, (((((((Kept.refl _ _).alloc _).alloc _).alloc _).alloc _).alloc _).alloc _)⟩ ?_
  rintro w5 ⟨hbr, hbm, hbz, hkk⟩
  have c0 := hbr.cell 0 rfl
  have cf0 := hbr.free 0
  have c1 := hbr.cell 1 rfl
  have cf1 := hbr.free 1
  have c2 := hbr.cell 2 rfl
  have cf2 := hbr.free 2
  have c3 := hbr.cell 3 rfl
  have cf3 := hbr.free 3
  have c4 := hbr.cell 4 rfl
  have cf4 := hbr.free 4
  have c5 := hbr.cell 5 rfl
  have cf5 := hbr.free 5
  have e0 := hbm.cell 0 rfl
  have ef0 := hbm.free 0
  replace hbm := Lib.hid hbm
  replace hbz := Lib.hid hbz
  replace hbr := Lib.hid hbr
  go_region_held3 (fun W => W.cell? ⟨w.heap.size, 0, none⟩ = some (.int .u8 a) ∧ W.cell? ⟨w.heap.size, 1, none⟩ = some (.int .u8 x) ∧ W.cell? ⟨w.heap.size, 2, none⟩ = some (.int .u8 y) ∧ W.cell? ⟨w.heap.size, 3, none⟩ = some (.int .u8 s) ∧ W.cell? ⟨w.heap.size, 4, none⟩ = some (.int .u8 p) ∧ W.cell? ⟨w.heap.size, 5, none⟩ = some (.int .u16 pc) ∧ W.cell? ⟨w.heap.size + 1, 0, none⟩ = some (.int .u8 ((m + 1) % 256))) (first | (with_reducible exact ⟨n0, n1, n2, n3, n4, n5, m1⟩) | (simp (disch := (show (_ : Nat) ≠ _; dsimp only; omega)) only [World.cell?_setCell_far]; with_reducible exact ⟨n0, n1, n2, n3, n4, n5, m1⟩) | go_keep) (first | (
       go_at_call 23
       refine (reads_any _ ⟨#[83, 66, 67]⟩ ⟨a, x, y, s, p, pc⟩ ((m + 1) % 256) ⟨ha, hx, hy, hs, hp, hpc⟩ (mod_b _)).mono ?_
       rintro _ w1 ⟨_, rfl, rfl, k1⟩
       rw [ByteArray.toList_eq]
       have m1 := (hbm.out.drew.kept k1 (by simp)).cell 0 rfl
       have hz1 := hbz.out.drew.kept k1 (by simp)
       have hr1 := hbr.out.drew.kept k1 (by simp)
       have z0 := hz1.cell 0 rfl
       have zf0 := hz1.free 0
       have z1 := hz1.cell 1 rfl
       have zf1 := hz1.free 1
       have z2 := hz1.cell 2 rfl
       have zf2 := hz1.free 2
       have z3 := hz1.cell 3 rfl
       have zf3 := hz1.free 3
       have z4 := hz1.cell 4 rfl
       have zf4 := hz1.free 4
       have z5 := hz1.cell 5 rfl
       have zf5 := hz1.free 5
       have n0 := hr1.cell 0 rfl
       have n1 := hr1.cell 1 rfl
       have n2 := hr1.cell 2 rfl
       have n3 := hr1.cell 3 rfl
       have n4 := hr1.cell 4 rfl
       have n5 := hr1.cell 5 rfl
       clear hr1
       replace hz1 := Lib.hid hz1
       have kk1 := (hkk.drew).trans k1 (by simp)
       clear k1
       generalize hg1 : readsM _ _ _ = r3
       obtain ⟨ga, gx, gy, gs, gp, gc⟩ := r3
       unfold Regs.val
       simp only []))
  all_goals (
    go_wp2_with fail
    replace hz1 := hz1.out
    have hz := (((((hz1.set 0 (.int .u8 ga)).set 1 (.int .u8 gx)).set 2 (.int .u8 gy)).set 3 (.int .u8 gs)).set 4 (.int .u8 gp)).set 5 (.int .u16 gc)
    simp only [List.set] at hz
    refine bodyPost_ret (results_pair_row Try.results14 _ _ _ _ _ _ _ _ (by simp [go_sem]) (by simp [go_sem]; rfl) hz Try.underlying29 rfl rfl) rfl ?_
    exact ⟨_, rfl, by simp only [hg1], by repeat (first | with_reducible exact Kept.refl _ _ | with_reducible assumption | with_reducible apply Kept.alloc | with_reducible apply Kept.drew | with_reducible apply Kept.drewN | (with_reducible refine Kept.setCell ?_ (Or.inr (by simp <;> omega)) _))⟩)

set_option maxHeartbeats 2000000 in
theorem modifies_SLO (w : World) (n : ByteArray) (r : Regs) (m : Int) (hr : r.Ok) (hm : Byte m) (q0 : (n.toList == [83, 76, 79]) = true) :
    Calls Try.prog 14 #[.string n, r.val, .int .u8 m] w (Post w [] fun v W => v = .tuple #[((readsM [79, 82, 65] { r with p := (asl m r.p).2 } (asl m r.p).1, (asl m r.p).1) : Regs × Int).1.val, .int .u8 ((readsM [79, 82, 65] { r with p := (asl m r.p).2 } (asl m r.p).1, (asl m r.p).1) : Regs × Int).2]) := by
  obtain ⟨a, x, y, s, p, pc⟩ := r
  obtain ⟨ha, hx, hy, hs, hp, hpc⟩ := hr
  unfold Regs.val
  have Ipair := Lib.hid (@run_insertObj Try.prog 46 9 45 Try.underlying46 Try.underlying9)
  have Kpair := Lib.hid (@look1 Try.prog 46 9 45 Try.underlying46 Try.underlying9 (.agg #[.string ⟨#[]⟩, .string ⟨#[]⟩]) (fun _ => by kernel_rfl))
  have Lpair := Lib.hid (@look2 Try.prog 46 9 45 Try.underlying46 Try.underlying9 (.agg #[.string ⟨#[]⟩, .string ⟨#[]⟩]) (fun _ => by kernel_rfl))
  have If2 := Lib.hid (@run_insertObj Try.prog 60 9 47 Try.underlying60 Try.underlying9)
  have Kf2 := Lib.hid (@look1 Try.prog 60 9 47 Try.underlying60 Try.underlying9 .nilFunc (fun _ => by kernel_rfl))
  have Lf2 := Lib.hid (@look2 Try.prog 60 9 47 Try.underlying60 Try.underlying9 .nilFunc (fun _ => by kernel_rfl))
  have Nf2 := @run_neq_func Try.prog 47 _ _ _ Try.underlying47
  have Mf2 := @run_neq_nilFunc Try.prog 47 _ _ _ Try.underlying47
  go_enter Try.func14, Try.ntmps14
  go_wp2_with (first | (rw [Ipair.out]; rotate_left; simp; simp [findS]; go_simp) | (rw [Kpair.out]; rotate_left; simp; go_simp) | (rw [Lpair.out]; rotate_left; simp; go_simp) | (rw [If2.out]; rotate_left; simp; simp [findS]; go_simp) | (rw [Kf2.out]; rotate_left; simp; go_simp) | (rw [Lf2.out]; rotate_left; simp; go_simp))
  refine open_calls (fun W => Blk W w.heap.size 29 [.int .u8 a, .int .u8 x, .int .u8 y, .int .u8 s, .int .u8 p, .int .u16 pc] ∧ Blk W (w.heap.size + 1) 5 [.int .u8 m] ∧ Blk W (w.heap.size + 1 + 1) 29 [.int .u8 0, .int .u8 0, .int .u8 0, .int .u8 0, .int .u8 0, .int .u16 0] ∧ Blk W (w.heap.size + 1 + 1 + 1 + 1) 45 [.string ⟨#[65, 83, 76]⟩, .string ⟨#[79, 82, 65]⟩] ∧ Kept w W [] ∧ w.heap.size + 5 ≤ W.heap.size) ⟨((((Blk.new _ _ _).alloc _).alloc _).alloc _).alloc _, (((Blk.second _ _ _ _).alloc _).alloc _).alloc _, ((Blk.third _ _ _ _ _).alloc _).alloc _, Blk.top _ _ (by simp) _ _, ((((((Kept.refl _ _).alloc _).alloc _).alloc _).alloc _).alloc _), by simp⟩ ?_
  rintro w5 ⟨hbr, hbm, hbz, hbp, hkk, hsz⟩
  refine (modifies_ASL _ ⟨#[65, 83, 76]⟩ ⟨a, x, y, s, p, pc⟩ m ⟨ha, hx, hy, hs, hp, hpc⟩ hm (by rw [ByteArray.toList_eq]; rfl) (by rw [ByteArray.toList_eq]; rfl) (by rw [ByteArray.toList_eq]; rfl) (by rw [ByteArray.toList_eq]; rfl) (by rw [ByteArray.toList_eq]; rfl)).mono ?_
  rintro _ w6 ⟨_, rfl, rfl, k6⟩
  replace hbr := hbr.kept k6 (by simp)
  replace hbm := hbm.kept k6 (by simp)
  replace hbz := hbz.kept k6 (by simp)
  replace hbp := hbp.kept k6 (by simp)
  replace hkk := hkk.trans k6 (by simp)
  replace hsz := Nat.le_trans hsz k6.size
  clear k6 w5
  have c0 := hbr.cell 0 rfl
  have cf0 := hbr.free 0
  have c1 := hbr.cell 1 rfl
  have cf1 := hbr.free 1
  have c2 := hbr.cell 2 rfl
  have cf2 := hbr.free 2
  have c3 := hbr.cell 3 rfl
  have cf3 := hbr.free 3
  have c4 := hbr.cell 4 rfl
  have cf4 := hbr.free 4
  have c5 := hbr.cell 5 rfl
  have cf5 := hbr.free 5
  have e0 := hbm.cell 0 rfl
  have ef0 := hbm.free 0
  have d0 := hbp.cell 0 rfl
  have df0 := hbp.free 0
  have d1 := hbp.cell 1 rfl
  have df1 := hbp.free 1
  replace hbm := Lib.hid hbm
  replace hbz := Lib.hid hbz
  replace hbr := Lib.hid hbr
  replace hbp := Lib.hid hbp
  unfold Regs.val
  go_wp2_with (first | (rw [Ipair.out]; rotate_left; simp; simp [findS]; go_simp) | (rw [Kpair.out]; rotate_left; simp; go_simp) | (rw [Lpair.out]; rotate_left; simp; go_simp) | (rw [If2.out]; rotate_left; simp; simp [findS]; go_simp) | (rw [Kf2.out]; rotate_left; simp; go_simp) | (rw [Lf2.out]; rotate_left; simp; go_simp))
  refine open_world (fun W => Blk W w.heap.size 29 [.int .u8 a, .int .u8 x, .int .u8 y, .int .u8 s, .int .u8 ((asl m p).2), .int .u16 pc] ∧ Blk W (w.heap.size + 1) 5 [.int .u8 ((asl m p).1)] ∧ Blk W (w.heap.size + 1 + 1) 29 [.int .u8 0, .int .u8 0, .int .u8 0, .int .u8 0, .int .u8 0, .int .u16 0] ∧ Blk W (w.heap.size + 1 + 1 + 1 + 1) 45 [.string ⟨#[65, 83, 76]⟩, .string ⟨#[79, 82, 65]⟩] ∧ Kept w W [] ∧ w.heap.size + 5 ≤ W.heap.size) ⟨((((((((hbr.out.set 0 (.int .u8 a)).set 1 (.int .u8 x)).set 2 (.int .u8 y)).set 3 (.int .u8 s)).set 4 (.int .u8 ((asl m p).2))).set 5 (.int .u16 pc)).far (by simp <;> omega) _).to rfl), ((((((((hbm.out.far (by simp <;> omega) _).far (by simp <;> omega) _).far (by simp <;> omega) _).far (by simp <;> omega) _).far (by simp <;> omega) _).far (by simp <;> omega) _).set 0 (.int .u8 ((asl m p).1))).to rfl), (((((((hbz.out.far (by simp <;> omega) _).far (by simp <;> omega) _).far (by simp <;> omega) _).far (by simp <;> omega) _).far (by simp <;> omega) _).far (by simp <;> omega) _).far (by simp <;> omega) _), (((((((hbp.out.far (by simp <;> omega) _).far (by simp <;> omega) _).far (by simp <;> omega) _).far (by simp <;> omega) _).far (by simp <;> omega) _).far (by simp <;> omega) _).far (by simp <;> omega) _), (Kept.setCell (Kept.setCell (Kept.setCell (Kept.setCell (Kept.setCell (Kept.setCell (Kept.setCell hkk (Or.inr (by simp <;> omega)) _) (Or.inr (by simp <;> omega)) _) (Or.inr (by simp <;> omega)) _) (Or.inr (by simp <;> omega)) _) (Or.inr (by simp <;> omega)) _) (Or.inr (by simp <;> omega)) _) (Or.inr (by simp <;> omega)) _), by simpa using hsz⟩ ?_
  clear hbr hbm hbz hbp hkk hsz c0 cf0 c1 cf1 c2 cf2 c3 cf3 c4 cf4 c5 cf5 e0 ef0 d0 df0 d1 df1 w6
  rintro w5 ⟨hbr, hbm, hbz, hbp, hkk, hsz⟩
  have c0 := hbr.cell 0 rfl
  have cf0 := hbr.free 0
  have c1 := hbr.cell 1 rfl
  have cf1 := hbr.free 1
  have c2 := hbr.cell 2 rfl
  have cf2 := hbr.free 2
  have c3 := hbr.cell 3 rfl
  have cf3 := hbr.free 3
  have c4 := hbr.cell 4 rfl
  have cf4 := hbr.free 4
  have c5 := hbr.cell 5 rfl
  have cf5 := hbr.free 5
  have e0 := hbm.cell 0 rfl
  have ef0 := hbm.free 0
  have d0 := hbp.cell 0 rfl
  have df0 := hbp.free 0
  have d1 := hbp.cell 1 rfl
  have df1 := hbp.free 1
  replace hbm := Lib.hid hbm
  replace hbz := Lib.hid hbz
  replace hbr := Lib.hid hbr
  replace hbp := Lib.hid hbp
  have sb := (shift_b hm hp).1
  go_region_held3 (fun W => W.cell? ⟨w.heap.size, 0, none⟩ = some (.int .u8 a) ∧ W.cell? ⟨w.heap.size, 1, none⟩ = some (.int .u8 x) ∧ W.cell? ⟨w.heap.size, 2, none⟩ = some (.int .u8 y) ∧ W.cell? ⟨w.heap.size, 3, none⟩ = some (.int .u8 s) ∧ W.cell? ⟨w.heap.size, 4, none⟩ = some (.int .u8 ((asl m p).2)) ∧ W.cell? ⟨w.heap.size, 5, none⟩ = some (.int .u16 pc) ∧ W.cell? ⟨w.heap.size + 1, 0, none⟩ = some (.int .u8 ((asl m p).1)) ∧ W.cell? ⟨w.heap.size + 1 + 1 + 1 + 1, 1, none⟩ = some (.string ⟨#[79, 82, 65]⟩)) (first | (with_reducible exact ⟨n0, n1, n2, n3, n4, n5, m1, n6⟩) | (simp (disch := (show (_ : Nat) ≠ _; dsimp only; omega)) only [World.cell?_setCell_far]; with_reducible exact ⟨n0, n1, n2, n3, n4, n5, m1, n6⟩) | go_keep) (first | (
       go_at_call 23
       refine (reads_any _ ⟨#[79, 82, 65]⟩ ⟨a, x, y, s, ((asl m p).2), pc⟩ ((asl m p).1) (ok_mk ha hx hy hs sb.2 hpc) sb.1).mono ?_
       rintro _ w1 ⟨_, rfl, rfl, k1⟩
       rw [ByteArray.toList_eq]
       have m1 := (hbm.out.drew.kept k1 (by simp)).cell 0 rfl
       have hz1 := hbz.out.drew.kept k1 (by simp)
       have hr1 := hbr.out.drew.kept k1 (by simp)
       have z0 := hz1.cell 0 rfl
       have zf0 := hz1.free 0
       have z1 := hz1.cell 1 rfl
       have zf1 := hz1.free 1
       have z2 := hz1.cell 2 rfl
       have zf2 := hz1.free 2
       have z3 := hz1.cell 3 rfl
       have zf3 := hz1.free 3
       have z4 := hz1.cell 4 rfl
       have zf4 := hz1.free 4
       have z5 := hz1.cell 5 rfl
       have zf5 := hz1.free 5
       have n0 := hr1.cell 0 rfl
       have n1 := hr1.cell 1 rfl
       have n2 := hr1.cell 2 rfl
       have n3 := hr1.cell 3 rfl
       have n4 := hr1.cell 4 rfl
       have n5 := hr1.cell 5 rfl
       clear hr1
       have n6 := (hbp.out.drew.kept k1 (by simp)).cell 1 rfl
       replace hz1 := Lib.hid hz1
       have kk1 := (hkk.drew).trans k1 (by simp)
       clear k1
       generalize hg1 : readsM _ _ _ = r3
       obtain ⟨ga, gx, gy, gs, gp, gc⟩ := r3
       unfold Regs.val
       simp only []))
  all_goals (
    go_wp2_with fail
    replace hz1 := hz1.out
    have hz := (((((hz1.set 0 (.int .u8 ga)).set 1 (.int .u8 gx)).set 2 (.int .u8 gy)).set 3 (.int .u8 gs)).set 4 (.int .u8 gp)).set 5 (.int .u16 gc)
    simp only [List.set] at hz
    refine bodyPost_ret (results_pair_row Try.results14 _ _ _ _ _ _ _ _ (by simp [go_sem]) (by simp [go_sem]; rfl) hz Try.underlying29 rfl rfl) rfl ?_
    exact ⟨_, rfl, by simp only [hg1], by repeat (first | with_reducible exact Kept.refl _ _ | with_reducible assumption | with_reducible apply Kept.alloc | with_reducible apply Kept.drew | with_reducible apply Kept.drewN | (with_reducible refine Kept.setCell ?_ (Or.inr (by simp <;> omega)) _))⟩)

set_option maxHeartbeats 2000000 in
theorem modifies_RLA (w : World) (n : ByteArray) (r : Regs) (m : Int) (hr : r.Ok) (hm : Byte m) (q0 : (n.toList == [83, 76, 79]) = false) (q1 : (n.toList == [82, 76, 65]) = true) :
    Calls Try.prog 14 #[.string n, r.val, .int .u8 m] w (Post w [] fun v W => v = .tuple #[((readsM [65, 78, 68] { r with p := (rol m r.p).2 } (rol m r.p).1, (rol m r.p).1) : Regs × Int).1.val, .int .u8 ((readsM [65, 78, 68] { r with p := (rol m r.p).2 } (rol m r.p).1, (rol m r.p).1) : Regs × Int).2]) := by
  obtain ⟨a, x, y, s, p, pc⟩ := r
  obtain ⟨ha, hx, hy, hs, hp, hpc⟩ := hr
  unfold Regs.val
  have Ipair := Lib.hid (@run_insertObj Try.prog 46 9 45 Try.underlying46 Try.underlying9)
  have Kpair := Lib.hid (@look1 Try.prog 46 9 45 Try.underlying46 Try.underlying9 (.agg #[.string ⟨#[]⟩, .string ⟨#[]⟩]) (fun _ => by kernel_rfl))
  have Lpair := Lib.hid (@look2 Try.prog 46 9 45 Try.underlying46 Try.underlying9 (.agg #[.string ⟨#[]⟩, .string ⟨#[]⟩]) (fun _ => by kernel_rfl))
  have If2 := Lib.hid (@run_insertObj Try.prog 60 9 47 Try.underlying60 Try.underlying9)
  have Kf2 := Lib.hid (@look1 Try.prog 60 9 47 Try.underlying60 Try.underlying9 .nilFunc (fun _ => by kernel_rfl))
  have Lf2 := Lib.hid (@look2 Try.prog 60 9 47 Try.underlying60 Try.underlying9 .nilFunc (fun _ => by kernel_rfl))
  have Nf2 := @run_neq_func Try.prog 47 _ _ _ Try.underlying47
  have Mf2 := @run_neq_nilFunc Try.prog 47 _ _ _ Try.underlying47
  go_enter Try.func14, Try.ntmps14
  go_wp2_with (first | (rw [Ipair.out]; rotate_left; simp; simp [findS]; go_simp) | (rw [Kpair.out]; rotate_left; simp; go_simp) | (rw [Lpair.out]; rotate_left; simp; go_simp) | (rw [If2.out]; rotate_left; simp; simp [findS]; go_simp) | (rw [Kf2.out]; rotate_left; simp; go_simp) | (rw [Lf2.out]; rotate_left; simp; go_simp))
  refine open_calls (fun W => Blk W w.heap.size 29 [.int .u8 a, .int .u8 x, .int .u8 y, .int .u8 s, .int .u8 p, .int .u16 pc] ∧ Blk W (w.heap.size + 1) 5 [.int .u8 m] ∧ Blk W (w.heap.size + 1 + 1) 29 [.int .u8 0, .int .u8 0, .int .u8 0, .int .u8 0, .int .u8 0, .int .u16 0] ∧ Blk W (w.heap.size + 1 + 1 + 1 + 1) 45 [.string ⟨#[82, 79, 76]⟩, .string ⟨#[65, 78, 68]⟩] ∧ Kept w W [] ∧ w.heap.size + 5 ≤ W.heap.size) ⟨((((Blk.new _ _ _).alloc _).alloc _).alloc _).alloc _, (((Blk.second _ _ _ _).alloc _).alloc _).alloc _, ((Blk.third _ _ _ _ _).alloc _).alloc _, Blk.top _ _ (by simp) _ _, ((((((Kept.refl _ _).alloc _).alloc _).alloc _).alloc _).alloc _), by simp⟩ ?_
  rintro w5 ⟨hbr, hbm, hbz, hbp, hkk, hsz⟩
  refine (modifies_ROL _ ⟨#[82, 79, 76]⟩ ⟨a, x, y, s, p, pc⟩ m ⟨ha, hx, hy, hs, hp, hpc⟩ hm (by rw [ByteArray.toList_eq]; rfl) (by rw [ByteArray.toList_eq]; rfl) (by rw [ByteArray.toList_eq]; rfl) (by rw [ByteArray.toList_eq]; rfl) (by rw [ByteArray.toList_eq]; rfl) (by rw [ByteArray.toList_eq]; rfl) (by rw [ByteArray.toList_eq]; rfl)).mono ?_
  rintro _ w6 ⟨_, rfl, rfl, k6⟩
  replace hbr := hbr.kept k6 (by simp)
  replace hbm := hbm.kept k6 (by simp)
  replace hbz := hbz.kept k6 (by simp)
  replace hbp := hbp.kept k6 (by simp)
  replace hkk := hkk.trans k6 (by simp)
  replace hsz := Nat.le_trans hsz k6.size
  clear k6 w5
  have c0 := hbr.cell 0 rfl
  have cf0 := hbr.free 0
  have c1 := hbr.cell 1 rfl
  have cf1 := hbr.free 1
  have c2 := hbr.cell 2 rfl
  have cf2 := hbr.free 2
  have c3 := hbr.cell 3 rfl
  have cf3 := hbr.free 3
  have c4 := hbr.cell 4 rfl
  have cf4 := hbr.free 4
  have c5 := hbr.cell 5 rfl
  have cf5 := hbr.free 5
  have e0 := hbm.cell 0 rfl
  have ef0 := hbm.free 0
  have d0 := hbp.cell 0 rfl
  have df0 := hbp.free 0
  have d1 := hbp.cell 1 rfl
  have df1 := hbp.free 1
  replace hbm := Lib.hid hbm
  replace hbz := Lib.hid hbz
  replace hbr := Lib.hid hbr
  replace hbp := Lib.hid hbp
  unfold Regs.val
  go_wp2_with (first | (rw [Ipair.out]; rotate_left; simp; simp [findS]; go_simp) | (rw [Kpair.out]; rotate_left; simp; go_simp) | (rw [Lpair.out]; rotate_left; simp; go_simp) | (rw [If2.out]; rotate_left; simp; simp [findS]; go_simp) | (rw [Kf2.out]; rotate_left; simp; go_simp) | (rw [Lf2.out]; rotate_left; simp; go_simp))
  refine open_world (fun W => Blk W w.heap.size 29 [.int .u8 a, .int .u8 x, .int .u8 y, .int .u8 s, .int .u8 ((rol m p).2), .int .u16 pc] ∧ Blk W (w.heap.size + 1) 5 [.int .u8 ((rol m p).1)] ∧ Blk W (w.heap.size + 1 + 1) 29 [.int .u8 0, .int .u8 0, .int .u8 0, .int .u8 0, .int .u8 0, .int .u16 0] ∧ Blk W (w.heap.size + 1 + 1 + 1 + 1) 45 [.string ⟨#[82, 79, 76]⟩, .string ⟨#[65, 78, 68]⟩] ∧ Kept w W [] ∧ w.heap.size + 5 ≤ W.heap.size) ⟨((((((((hbr.out.set 0 (.int .u8 a)).set 1 (.int .u8 x)).set 2 (.int .u8 y)).set 3 (.int .u8 s)).set 4 (.int .u8 ((rol m p).2))).set 5 (.int .u16 pc)).far (by simp <;> omega) _).to rfl), ((((((((hbm.out.far (by simp <;> omega) _).far (by simp <;> omega) _).far (by simp <;> omega) _).far (by simp <;> omega) _).far (by simp <;> omega) _).far (by simp <;> omega) _).set 0 (.int .u8 ((rol m p).1))).to rfl), (((((((hbz.out.far (by simp <;> omega) _).far (by simp <;> omega) _).far (by simp <;> omega) _).far (by simp <;> omega) _).far (by simp <;> omega) _).far (by simp <;> omega) _).far (by simp <;> omega) _), (((((((hbp.out.far (by simp <;> omega) _).far (by simp <;> omega) _).far (by simp <;> omega) _).far (by simp <;> omega) _).far (by simp <;> omega) _).far (by simp <;> omega) _).far (by simp <;> omega) _), (Kept.setCell (Kept.setCell (Kept.setCell (Kept.setCell (Kept.setCell (Kept.setCell (Kept.setCell hkk (Or.inr (by simp <;> omega)) _) (Or.inr (by simp <;> omega)) _) (Or.inr (by simp <;> omega)) _) (Or.inr (by simp <;> omega)) _) (Or.inr (by simp <;> omega)) _) (Or.inr (by simp <;> omega)) _) (Or.inr (by simp <;> omega)) _), by simpa using hsz⟩ ?_
  clear hbr hbm hbz hbp hkk hsz c0 cf0 c1 cf1 c2 cf2 c3 cf3 c4 cf4 c5 cf5 e0 ef0 d0 df0 d1 df1 w6
  rintro w5 ⟨hbr, hbm, hbz, hbp, hkk, hsz⟩
  have c0 := hbr.cell 0 rfl
  have cf0 := hbr.free 0
  have c1 := hbr.cell 1 rfl
  have cf1 := hbr.free 1
  have c2 := hbr.cell 2 rfl
  have cf2 := hbr.free 2
  have c3 := hbr.cell 3 rfl
  have cf3 := hbr.free 3
  have c4 := hbr.cell 4 rfl
  have cf4 := hbr.free 4
  have c5 := hbr.cell 5 rfl
  have cf5 := hbr.free 5
  have e0 := hbm.cell 0 rfl
  have ef0 := hbm.free 0
  have d0 := hbp.cell 0 rfl
  have df0 := hbp.free 0
  have d1 := hbp.cell 1 rfl
  have df1 := hbp.free 1
  replace hbm := Lib.hid hbm
  replace hbz := Lib.hid hbz
  replace hbr := Lib.hid hbr
  replace hbp := Lib.hid hbp
  have sb := (shift_b hm hp).2.2.1
  go_region_held3 (fun W => W.cell? ⟨w.heap.size, 0, none⟩ = some (.int .u8 a) ∧ W.cell? ⟨w.heap.size, 1, none⟩ = some (.int .u8 x) ∧ W.cell? ⟨w.heap.size, 2, none⟩ = some (.int .u8 y) ∧ W.cell? ⟨w.heap.size, 3, none⟩ = some (.int .u8 s) ∧ W.cell? ⟨w.heap.size, 4, none⟩ = some (.int .u8 ((rol m p).2)) ∧ W.cell? ⟨w.heap.size, 5, none⟩ = some (.int .u16 pc) ∧ W.cell? ⟨w.heap.size + 1, 0, none⟩ = some (.int .u8 ((rol m p).1)) ∧ W.cell? ⟨w.heap.size + 1 + 1 + 1 + 1, 1, none⟩ = some (.string ⟨#[65, 78, 68]⟩)) (first | (with_reducible exact ⟨n0, n1, n2, n3, n4, n5, m1, n6⟩) | (simp (disch := (show (_ : Nat) ≠ _; dsimp only; omega)) only [World.cell?_setCell_far]; with_reducible exact ⟨n0, n1, n2, n3, n4, n5, m1, n6⟩) | go_keep) (first | (
       go_at_call 23
       refine (reads_any _ ⟨#[65, 78, 68]⟩ ⟨a, x, y, s, ((rol m p).2), pc⟩ ((rol m p).1) (ok_mk ha hx hy hs sb.2 hpc) sb.1).mono ?_
       rintro _ w1 ⟨_, rfl, rfl, k1⟩
       rw [ByteArray.toList_eq]
       have m1 := (hbm.out.drew.kept k1 (by simp)).cell 0 rfl
       have hz1 := hbz.out.drew.kept k1 (by simp)
       have hr1 := hbr.out.drew.kept k1 (by simp)
       have z0 := hz1.cell 0 rfl
       have zf0 := hz1.free 0
       have z1 := hz1.cell 1 rfl
       have zf1 := hz1.free 1
       have z2 := hz1.cell 2 rfl
       have zf2 := hz1.free 2
       have z3 := hz1.cell 3 rfl
       have zf3 := hz1.free 3
       have z4 := hz1.cell 4 rfl
       have zf4 := hz1.free 4
       have z5 := hz1.cell 5 rfl
       have zf5 := hz1.free 5
       have n0 := hr1.cell 0 rfl
       have n1 := hr1.cell 1 rfl
       have n2 := hr1.cell 2 rfl
       have n3 := hr1.cell 3 rfl
       have n4 := hr1.cell 4 rfl
       have n5 := hr1.cell 5 rfl
       clear hr1
       have n6 := (hbp.out.drew.kept k1 (by simp)).cell 1 rfl
       replace hz1 := Lib.hid hz1
       have kk1 := (hkk.drew).trans k1 (by simp)
       clear k1
       generalize hg1 : readsM _ _ _ = r3
       obtain ⟨ga, gx, gy, gs, gp, gc⟩ := r3
       unfold Regs.val
       simp only []))
  all_goals (
    go_wp2_with fail
    replace hz1 := hz1.out
    have hz := (((((hz1.set 0 (.int .u8 ga)).set 1 (.int .u8 gx)).set 2 (.int .u8 gy)).set 3 (.int .u8 gs)).set 4 (.int .u8 gp)).set 5 (.int .u16 gc)
    simp only [List.set] at hz
    refine bodyPost_ret (results_pair_row Try.results14 _ _ _ _ _ _ _ _ (by simp [go_sem]) (by simp [go_sem]; rfl) hz Try.underlying29 rfl rfl) rfl ?_
    exact ⟨_, rfl, by simp only [hg1], by repeat (first | with_reducible exact Kept.refl _ _ | with_reducible assumption | with_reducible apply Kept.alloc | with_reducible apply Kept.drew | with_reducible apply Kept.drewN | (with_reducible refine Kept.setCell ?_ (Or.inr (by simp <;> omega)) _))⟩)

set_option maxHeartbeats 2000000 in
theorem modifies_SRE (w : World) (n : ByteArray) (r : Regs) (m : Int) (hr : r.Ok) (hm : Byte m) (q0 : (n.toList == [83, 76, 79]) = false) (q1 : (n.toList == [82, 76, 65]) = false) (q2 : (n.toList == [83, 82, 69]) = true) :
    Calls Try.prog 14 #[.string n, r.val, .int .u8 m] w (Post w [] fun v W => v = .tuple #[((readsM [69, 79, 82] { r with p := (lsr m r.p).2 } (lsr m r.p).1, (lsr m r.p).1) : Regs × Int).1.val, .int .u8 ((readsM [69, 79, 82] { r with p := (lsr m r.p).2 } (lsr m r.p).1, (lsr m r.p).1) : Regs × Int).2]) := by
  obtain ⟨a, x, y, s, p, pc⟩ := r
  obtain ⟨ha, hx, hy, hs, hp, hpc⟩ := hr
  unfold Regs.val
  have Ipair := Lib.hid (@run_insertObj Try.prog 46 9 45 Try.underlying46 Try.underlying9)
  have Kpair := Lib.hid (@look1 Try.prog 46 9 45 Try.underlying46 Try.underlying9 (.agg #[.string ⟨#[]⟩, .string ⟨#[]⟩]) (fun _ => by kernel_rfl))
  have Lpair := Lib.hid (@look2 Try.prog 46 9 45 Try.underlying46 Try.underlying9 (.agg #[.string ⟨#[]⟩, .string ⟨#[]⟩]) (fun _ => by kernel_rfl))
  have If2 := Lib.hid (@run_insertObj Try.prog 60 9 47 Try.underlying60 Try.underlying9)
  have Kf2 := Lib.hid (@look1 Try.prog 60 9 47 Try.underlying60 Try.underlying9 .nilFunc (fun _ => by kernel_rfl))
  have Lf2 := Lib.hid (@look2 Try.prog 60 9 47 Try.underlying60 Try.underlying9 .nilFunc (fun _ => by kernel_rfl))
  have Nf2 := @run_neq_func Try.prog 47 _ _ _ Try.underlying47
  have Mf2 := @run_neq_nilFunc Try.prog 47 _ _ _ Try.underlying47
  go_enter Try.func14, Try.ntmps14
  go_wp2_with (first | (rw [Ipair.out]; rotate_left; simp; simp [findS]; go_simp) | (rw [Kpair.out]; rotate_left; simp; go_simp) | (rw [Lpair.out]; rotate_left; simp; go_simp) | (rw [If2.out]; rotate_left; simp; simp [findS]; go_simp) | (rw [Kf2.out]; rotate_left; simp; go_simp) | (rw [Lf2.out]; rotate_left; simp; go_simp))
  refine open_calls (fun W => Blk W w.heap.size 29 [.int .u8 a, .int .u8 x, .int .u8 y, .int .u8 s, .int .u8 p, .int .u16 pc] ∧ Blk W (w.heap.size + 1) 5 [.int .u8 m] ∧ Blk W (w.heap.size + 1 + 1) 29 [.int .u8 0, .int .u8 0, .int .u8 0, .int .u8 0, .int .u8 0, .int .u16 0] ∧ Blk W (w.heap.size + 1 + 1 + 1 + 1) 45 [.string ⟨#[76, 83, 82]⟩, .string ⟨#[69, 79, 82]⟩] ∧ Kept w W [] ∧ w.heap.size + 5 ≤ W.heap.size) ⟨((((Blk.new _ _ _).alloc _).alloc _).alloc _).alloc _, (((Blk.second _ _ _ _).alloc _).alloc _).alloc _, ((Blk.third _ _ _ _ _).alloc _).alloc _, Blk.top _ _ (by simp) _ _, ((((((Kept.refl _ _).alloc _).alloc _).alloc _).alloc _).alloc _), by simp⟩ ?_
  rintro w5 ⟨hbr, hbm, hbz, hbp, hkk, hsz⟩
  refine (modifies_LSR _ ⟨#[76, 83, 82]⟩ ⟨a, x, y, s, p, pc⟩ m ⟨ha, hx, hy, hs, hp, hpc⟩ hm (by rw [ByteArray.toList_eq]; rfl) (by rw [ByteArray.toList_eq]; rfl) (by rw [ByteArray.toList_eq]; rfl) (by rw [ByteArray.toList_eq]; rfl) (by rw [ByteArray.toList_eq]; rfl) (by rw [ByteArray.toList_eq]; rfl)).mono ?_
  rintro _ w6 ⟨_, rfl, rfl, k6⟩
  replace hbr := hbr.kept k6 (by simp)
  replace hbm := hbm.kept k6 (by simp)
  replace hbz := hbz.kept k6 (by simp)
  replace hbp := hbp.kept k6 (by simp)
  replace hkk := hkk.trans k6 (by simp)
  replace hsz := Nat.le_trans hsz k6.size
  clear k6 w5
  have c0 := hbr.cell 0 rfl
  have cf0 := hbr.free 0
  have c1 := hbr.cell 1 rfl
  have cf1 := hbr.free 1
  have c2 := hbr.cell 2 rfl
  have cf2 := hbr.free 2
  have c3 := hbr.cell 3 rfl
  have cf3 := hbr.free 3
  have c4 := hbr.cell 4 rfl
  have cf4 := hbr.free 4
  have c5 := hbr.cell 5 rfl
  have cf5 := hbr.free 5
  have e0 := hbm.cell 0 rfl
  have ef0 := hbm.free 0
  have d0 := hbp.cell 0 rfl
  have df0 := hbp.free 0
  have d1 := hbp.cell 1 rfl
  have df1 := hbp.free 1
  replace hbm := Lib.hid hbm
  replace hbz := Lib.hid hbz
  replace hbr := Lib.hid hbr
  replace hbp := Lib.hid hbp
  unfold Regs.val
  go_wp2_with (first | (rw [Ipair.out]; rotate_left; simp; simp [findS]; go_simp) | (rw [Kpair.out]; rotate_left; simp; go_simp) | (rw [Lpair.out]; rotate_left; simp; go_simp) | (rw [If2.out]; rotate_left; simp; simp [findS]; go_simp) | (rw [Kf2.out]; rotate_left; simp; go_simp) | (rw [Lf2.out]; rotate_left; simp; go_simp))
  refine open_world (fun W => Blk W w.heap.size 29 [.int .u8 a, .int .u8 x, .int .u8 y, .int .u8 s, .int .u8 ((lsr m p).2), .int .u16 pc] ∧ Blk W (w.heap.size + 1) 5 [.int .u8 ((lsr m p).1)] ∧ Blk W (w.heap.size + 1 + 1) 29 [.int .u8 0, .int .u8 0, .int .u8 0, .int .u8 0, .int .u8 0, .int .u16 0] ∧ Blk W (w.heap.size + 1 + 1 + 1 + 1) 45 [.string ⟨#[76, 83, 82]⟩, .string ⟨#[69, 79, 82]⟩] ∧ Kept w W [] ∧ w.heap.size + 5 ≤ W.heap.size) ⟨((((((((hbr.out.set 0 (.int .u8 a)).set 1 (.int .u8 x)).set 2 (.int .u8 y)).set 3 (.int .u8 s)).set 4 (.int .u8 ((lsr m p).2))).set 5 (.int .u16 pc)).far (by simp <;> omega) _).to rfl), ((((((((hbm.out.far (by simp <;> omega) _).far (by simp <;> omega) _).far (by simp <;> omega) _).far (by simp <;> omega) _).far (by simp <;> omega) _).far (by simp <;> omega) _).set 0 (.int .u8 ((lsr m p).1))).to rfl), (((((((hbz.out.far (by simp <;> omega) _).far (by simp <;> omega) _).far (by simp <;> omega) _).far (by simp <;> omega) _).far (by simp <;> omega) _).far (by simp <;> omega) _).far (by simp <;> omega) _), (((((((hbp.out.far (by simp <;> omega) _).far (by simp <;> omega) _).far (by simp <;> omega) _).far (by simp <;> omega) _).far (by simp <;> omega) _).far (by simp <;> omega) _).far (by simp <;> omega) _), (Kept.setCell (Kept.setCell (Kept.setCell (Kept.setCell (Kept.setCell (Kept.setCell (Kept.setCell hkk (Or.inr (by simp <;> omega)) _) (Or.inr (by simp <;> omega)) _) (Or.inr (by simp <;> omega)) _) (Or.inr (by simp <;> omega)) _) (Or.inr (by simp <;> omega)) _) (Or.inr (by simp <;> omega)) _) (Or.inr (by simp <;> omega)) _), by simpa using hsz⟩ ?_
  clear hbr hbm hbz hbp hkk hsz c0 cf0 c1 cf1 c2 cf2 c3 cf3 c4 cf4 c5 cf5 e0 ef0 d0 df0 d1 df1 w6
  rintro w5 ⟨hbr, hbm, hbz, hbp, hkk, hsz⟩
  have c0 := hbr.cell 0 rfl
  have cf0 := hbr.free 0
  have c1 := hbr.cell 1 rfl
  have cf1 := hbr.free 1
  have c2 := hbr.cell 2 rfl
  have cf2 := hbr.free 2
  have c3 := hbr.cell 3 rfl
  have cf3 := hbr.free 3
  have c4 := hbr.cell 4 rfl
  have cf4 := hbr.free 4
  have c5 := hbr.cell 5 rfl
  have cf5 := hbr.free 5
  have e0 := hbm.cell 0 rfl
  have ef0 := hbm.free 0
  have d0 := hbp.cell 0 rfl
  have df0 := hbp.free 0
  have d1 := hbp.cell 1 rfl
  have df1 := hbp.free 1
  replace hbm := Lib.hid hbm
  replace hbz := Lib.hid hbz
  replace hbr := Lib.hid hbr
  replace hbp := Lib.hid hbp
  have sb := (shift_b hm hp).2.1
  go_region_held3 (fun W => W.cell? ⟨w.heap.size, 0, none⟩ = some (.int .u8 a) ∧ W.cell? ⟨w.heap.size, 1, none⟩ = some (.int .u8 x) ∧ W.cell? ⟨w.heap.size, 2, none⟩ = some (.int .u8 y) ∧ W.cell? ⟨w.heap.size, 3, none⟩ = some (.int .u8 s) ∧ W.cell? ⟨w.heap.size, 4, none⟩ = some (.int .u8 ((lsr m p).2)) ∧ W.cell? ⟨w.heap.size, 5, none⟩ = some (.int .u16 pc) ∧ W.cell? ⟨w.heap.size + 1, 0, none⟩ = some (.int .u8 ((lsr m p).1)) ∧ W.cell? ⟨w.heap.size + 1 + 1 + 1 + 1, 1, none⟩ = some (.string ⟨#[69, 79, 82]⟩)) (first | (with_reducible exact ⟨n0, n1, n2, n3, n4, n5, m1, n6⟩) | (simp (disch := (show (_ : Nat) ≠ _; dsimp only; omega)) only [World.cell?_setCell_far]; with_reducible exact ⟨n0, n1, n2, n3, n4, n5, m1, n6⟩) | go_keep) (first | (
       go_at_call 23
       refine (reads_any _ ⟨#[69, 79, 82]⟩ ⟨a, x, y, s, ((lsr m p).2), pc⟩ ((lsr m p).1) (ok_mk ha hx hy hs sb.2 hpc) sb.1).mono ?_
       rintro _ w1 ⟨_, rfl, rfl, k1⟩
       rw [ByteArray.toList_eq]
       have m1 := (hbm.out.drew.kept k1 (by simp)).cell 0 rfl
       have hz1 := hbz.out.drew.kept k1 (by simp)
       have hr1 := hbr.out.drew.kept k1 (by simp)
       have z0 := hz1.cell 0 rfl
       have zf0 := hz1.free 0
       have z1 := hz1.cell 1 rfl
       have zf1 := hz1.free 1
       have z2 := hz1.cell 2 rfl
       have zf2 := hz1.free 2
       have z3 := hz1.cell 3 rfl
       have zf3 := hz1.free 3
       have z4 := hz1.cell 4 rfl
       have zf4 := hz1.free 4
       have z5 := hz1.cell 5 rfl
       have zf5 := hz1.free 5
       have n0 := hr1.cell 0 rfl
       have n1 := hr1.cell 1 rfl
       have n2 := hr1.cell 2 rfl
       have n3 := hr1.cell 3 rfl
       have n4 := hr1.cell 4 rfl
       have n5 := hr1.cell 5 rfl
       clear hr1
       have n6 := (hbp.out.drew.kept k1 (by simp)).cell 1 rfl
       replace hz1 := Lib.hid hz1
       have kk1 := (hkk.drew).trans k1 (by simp)
       clear k1
       generalize hg1 : readsM _ _ _ = r3
       obtain ⟨ga, gx, gy, gs, gp, gc⟩ := r3
       unfold Regs.val
       simp only []))
  all_goals (
    go_wp2_with fail
    replace hz1 := hz1.out
    have hz := (((((hz1.set 0 (.int .u8 ga)).set 1 (.int .u8 gx)).set 2 (.int .u8 gy)).set 3 (.int .u8 gs)).set 4 (.int .u8 gp)).set 5 (.int .u16 gc)
    simp only [List.set] at hz
    refine bodyPost_ret (results_pair_row Try.results14 _ _ _ _ _ _ _ _ (by simp [go_sem]) (by simp [go_sem]; rfl) hz Try.underlying29 rfl rfl) rfl ?_
    exact ⟨_, rfl, by simp only [hg1], by repeat (first | with_reducible exact Kept.refl _ _ | with_reducible assumption | with_reducible apply Kept.alloc | with_reducible apply Kept.drew | with_reducible apply Kept.drewN | (with_reducible refine Kept.setCell ?_ (Or.inr (by simp <;> omega)) _))⟩)

set_option maxHeartbeats 2000000 in
theorem modifies_RRA (w : World) (n : ByteArray) (r : Regs) (m : Int) (hr : r.Ok) (hm : Byte m) (q0 : (n.toList == [83, 76, 79]) = false) (q1 : (n.toList == [82, 76, 65]) = false) (q2 : (n.toList == [83, 82, 69]) = false) (q3 : (n.toList == [82, 82, 65]) = true) :
    Calls Try.prog 14 #[.string n, r.val, .int .u8 m] w (Post w [] fun v W => v = .tuple #[((readsM [65, 68, 67] { r with p := (ror m r.p).2 } (ror m r.p).1, (ror m r.p).1) : Regs × Int).1.val, .int .u8 ((readsM [65, 68, 67] { r with p := (ror m r.p).2 } (ror m r.p).1, (ror m r.p).1) : Regs × Int).2]) := by
  obtain ⟨a, x, y, s, p, pc⟩ := r
  obtain ⟨ha, hx, hy, hs, hp, hpc⟩ := hr
  unfold Regs.val
  have Ipair := Lib.hid (@run_insertObj Try.prog 46 9 45 Try.underlying46 Try.underlying9)
  have Kpair := Lib.hid (@look1 Try.prog 46 9 45 Try.underlying46 Try.underlying9 (.agg #[.string ⟨#[]⟩, .string ⟨#[]⟩]) (fun _ => by kernel_rfl))
  have Lpair := Lib.hid (@look2 Try.prog 46 9 45 Try.underlying46 Try.underlying9 (.agg #[.string ⟨#[]⟩, .string ⟨#[]⟩]) (fun _ => by kernel_rfl))
  have If2 := Lib.hid (@run_insertObj Try.prog 60 9 47 Try.underlying60 Try.underlying9)
  have Kf2 := Lib.hid (@look1 Try.prog 60 9 47 Try.underlying60 Try.underlying9 .nilFunc (fun _ => by kernel_rfl))
  have Lf2 := Lib.hid (@look2 Try.prog 60 9 47 Try.underlying60 Try.underlying9 .nilFunc (fun _ => by kernel_rfl))
  have Nf2 := @run_neq_func Try.prog 47 _ _ _ Try.underlying47
  have Mf2 := @run_neq_nilFunc Try.prog 47 _ _ _ Try.underlying47
  go_enter Try.func14, Try.ntmps14
  go_wp2_with (first | (rw [Ipair.out]; rotate_left; simp; simp [findS]; go_simp) | (rw [Kpair.out]; rotate_left; simp; go_simp) | (rw [Lpair.out]; rotate_left; simp; go_simp) | (rw [If2.out]; rotate_left; simp; simp [findS]; go_simp) | (rw [Kf2.out]; rotate_left; simp; go_simp) | (rw [Lf2.out]; rotate_left; simp; go_simp))
  refine open_calls (fun W => Blk W w.heap.size 29 [.int .u8 a, .int .u8 x, .int .u8 y, .int .u8 s, .int .u8 p, .int .u16 pc] ∧ Blk W (w.heap.size + 1) 5 [.int .u8 m] ∧ Blk W (w.heap.size + 1 + 1) 29 [.int .u8 0, .int .u8 0, .int .u8 0, .int .u8 0, .int .u8 0, .int .u16 0] ∧ Blk W (w.heap.size + 1 + 1 + 1 + 1) 45 [.string ⟨#[82, 79, 82]⟩, .string ⟨#[65, 68, 67]⟩] ∧ Kept w W [] ∧ w.heap.size + 5 ≤ W.heap.size) ⟨((((Blk.new _ _ _).alloc _).alloc _).alloc _).alloc _, (((Blk.second _ _ _ _).alloc _).alloc _).alloc _, ((Blk.third _ _ _ _ _).alloc _).alloc _, Blk.top _ _ (by simp) _ _, ((((((Kept.refl _ _).alloc _).alloc _).alloc _).alloc _).alloc _), by simp⟩ ?_
  rintro w5 ⟨hbr, hbm, hbz, hbp, hkk, hsz⟩
  refine (modifies_ROR _ ⟨#[82, 79, 82]⟩ ⟨a, x, y, s, p, pc⟩ m ⟨ha, hx, hy, hs, hp, hpc⟩ hm (by rw [ByteArray.toList_eq]; rfl) (by rw [ByteArray.toList_eq]; rfl) (by rw [ByteArray.toList_eq]; rfl) (by rw [ByteArray.toList_eq]; rfl) (by rw [ByteArray.toList_eq]; rfl) (by rw [ByteArray.toList_eq]; rfl) (by rw [ByteArray.toList_eq]; rfl) (by rw [ByteArray.toList_eq]; rfl)).mono ?_
  rintro _ w6 ⟨_, rfl, rfl, k6⟩
  replace hbr := hbr.kept k6 (by simp)
  replace hbm := hbm.kept k6 (by simp)
  replace hbz := hbz.kept k6 (by simp)
  replace hbp := hbp.kept k6 (by simp)
  replace hkk := hkk.trans k6 (by simp)
  replace hsz := Nat.le_trans hsz k6.size
  clear k6 w5
  have c0 := hbr.cell 0 rfl
  have cf0 := hbr.free 0
  have c1 := hbr.cell 1 rfl
  have cf1 := hbr.free 1
  have c2 := hbr.cell 2 rfl
  have cf2 := hbr.free 2
  have c3 := hbr.cell 3 rfl
  have cf3 := hbr.free 3
  have c4 := hbr.cell 4 rfl
  have cf4 := hbr.free 4
  have c5 := hbr.cell 5 rfl
  have cf5 := hbr.free 5
  have e0 := hbm.cell 0 rfl
  have ef0 := hbm.free 0
  have d0 := hbp.cell 0 rfl
  have df0 := hbp.free 0
  have d1 := hbp.cell 1 rfl
  have df1 := hbp.free 1
  replace hbm := Lib.hid hbm
  replace hbz := Lib.hid hbz
  replace hbr := Lib.hid hbr
  replace hbp := Lib.hid hbp
  unfold Regs.val
  go_wp2_with (first | (rw [Ipair.out]; rotate_left; simp; simp [findS]; go_simp) | (rw [Kpair.out]; rotate_left; simp; go_simp) | (rw [Lpair.out]; rotate_left; simp; go_simp) | (rw [If2.out]; rotate_left; simp; simp [findS]; go_simp) | (rw [Kf2.out]; rotate_left; simp; go_simp) | (rw [Lf2.out]; rotate_left; simp; go_simp))
  refine open_world (fun W => Blk W w.heap.size 29 [.int .u8 a, .int .u8 x, .int .u8 y, .int .u8 s, .int .u8 ((ror m p).2), .int .u16 pc] ∧ Blk W (w.heap.size + 1) 5 [.int .u8 ((ror m p).1)] ∧ Blk W (w.heap.size + 1 + 1) 29 [.int .u8 0, .int .u8 0, .int .u8 0, .int .u8 0, .int .u8 0, .int .u16 0] ∧ Blk W (w.heap.size + 1 + 1 + 1 + 1) 45 [.string ⟨#[82, 79, 82]⟩, .string ⟨#[65, 68, 67]⟩] ∧ Kept w W [] ∧ w.heap.size + 5 ≤ W.heap.size) ⟨((((((((hbr.out.set 0 (.int .u8 a)).set 1 (.int .u8 x)).set 2 (.int .u8 y)).set 3 (.int .u8 s)).set 4 (.int .u8 ((ror m p).2))).set 5 (.int .u16 pc)).far (by simp <;> omega) _).to rfl), ((((((((hbm.out.far (by simp <;> omega) _).far (by simp <;> omega) _).far (by simp <;> omega) _).far (by simp <;> omega) _).far (by simp <;> omega) _).far (by simp <;> omega) _).set 0 (.int .u8 ((ror m p).1))).to rfl), (((((((hbz.out.far (by simp <;> omega) _).far (by simp <;> omega) _).far (by simp <;> omega) _).far (by simp <;> omega) _).far (by simp <;> omega) _).far (by simp <;> omega) _).far (by simp <;> omega) _), (((((((hbp.out.far (by simp <;> omega) _).far (by simp <;> omega) _).far (by simp <;> omega) _).far (by simp <;> omega) _).far (by simp <;> omega) _).far (by simp <;> omega) _).far (by simp <;> omega) _), (Kept.setCell (Kept.setCell (Kept.setCell (Kept.setCell (Kept.setCell (Kept.setCell (Kept.setCell hkk (Or.inr (by simp <;> omega)) _) (Or.inr (by simp <;> omega)) _) (Or.inr (by simp <;> omega)) _) (Or.inr (by simp <;> omega)) _) (Or.inr (by simp <;> omega)) _) (Or.inr (by simp <;> omega)) _) (Or.inr (by simp <;> omega)) _), by simpa using hsz⟩ ?_
  clear hbr hbm hbz hbp hkk hsz c0 cf0 c1 cf1 c2 cf2 c3 cf3 c4 cf4 c5 cf5 e0 ef0 d0 df0 d1 df1 w6
  rintro w5 ⟨hbr, hbm, hbz, hbp, hkk, hsz⟩
  have c0 := hbr.cell 0 rfl
  have cf0 := hbr.free 0
  have c1 := hbr.cell 1 rfl
  have cf1 := hbr.free 1
  have c2 := hbr.cell 2 rfl
  have cf2 := hbr.free 2
  have c3 := hbr.cell 3 rfl
  have cf3 := hbr.free 3
  have c4 := hbr.cell 4 rfl
  have cf4 := hbr.free 4
  have c5 := hbr.cell 5 rfl
  have cf5 := hbr.free 5
  have e0 := hbm.cell 0 rfl
  have ef0 := hbm.free 0
  have d0 := hbp.cell 0 rfl
  have df0 := hbp.free 0
  have d1 := hbp.cell 1 rfl
  have df1 := hbp.free 1
  replace hbm := Lib.hid hbm
  replace hbz := Lib.hid hbz
  replace hbr := Lib.hid hbr
  replace hbp := Lib.hid hbp
  have sb := (shift_b hm hp).2.2.2
  go_region_held3 (fun W => W.cell? ⟨w.heap.size, 0, none⟩ = some (.int .u8 a) ∧ W.cell? ⟨w.heap.size, 1, none⟩ = some (.int .u8 x) ∧ W.cell? ⟨w.heap.size, 2, none⟩ = some (.int .u8 y) ∧ W.cell? ⟨w.heap.size, 3, none⟩ = some (.int .u8 s) ∧ W.cell? ⟨w.heap.size, 4, none⟩ = some (.int .u8 ((ror m p).2)) ∧ W.cell? ⟨w.heap.size, 5, none⟩ = some (.int .u16 pc) ∧ W.cell? ⟨w.heap.size + 1, 0, none⟩ = some (.int .u8 ((ror m p).1)) ∧ W.cell? ⟨w.heap.size + 1 + 1 + 1 + 1, 1, none⟩ = some (.string ⟨#[65, 68, 67]⟩)) (first | (with_reducible exact ⟨n0, n1, n2, n3, n4, n5, m1, n6⟩) | (simp (disch := (show (_ : Nat) ≠ _; dsimp only; omega)) only [World.cell?_setCell_far]; with_reducible exact ⟨n0, n1, n2, n3, n4, n5, m1, n6⟩) | go_keep) (first | (
       go_at_call 23
       refine (reads_any _ ⟨#[65, 68, 67]⟩ ⟨a, x, y, s, ((ror m p).2), pc⟩ ((ror m p).1) (ok_mk ha hx hy hs sb.2 hpc) sb.1).mono ?_
       rintro _ w1 ⟨_, rfl, rfl, k1⟩
       rw [ByteArray.toList_eq]
       have m1 := (hbm.out.drew.kept k1 (by simp)).cell 0 rfl
       have hz1 := hbz.out.drew.kept k1 (by simp)
       have hr1 := hbr.out.drew.kept k1 (by simp)
       have z0 := hz1.cell 0 rfl
       have zf0 := hz1.free 0
       have z1 := hz1.cell 1 rfl
       have zf1 := hz1.free 1
       have z2 := hz1.cell 2 rfl
       have zf2 := hz1.free 2
       have z3 := hz1.cell 3 rfl
       have zf3 := hz1.free 3
       have z4 := hz1.cell 4 rfl
       have zf4 := hz1.free 4
       have z5 := hz1.cell 5 rfl
       have zf5 := hz1.free 5
       have n0 := hr1.cell 0 rfl
       have n1 := hr1.cell 1 rfl
       have n2 := hr1.cell 2 rfl
       have n3 := hr1.cell 3 rfl
       have n4 := hr1.cell 4 rfl
       have n5 := hr1.cell 5 rfl
       clear hr1
       have n6 := (hbp.out.drew.kept k1 (by simp)).cell 1 rfl
       replace hz1 := Lib.hid hz1
       have kk1 := (hkk.drew).trans k1 (by simp)
       clear k1
       generalize hg1 : readsM _ _ _ = r3
       obtain ⟨ga, gx, gy, gs, gp, gc⟩ := r3
       unfold Regs.val
       simp only []))
  all_goals (
    go_wp2_with fail
    replace hz1 := hz1.out
    have hz := (((((hz1.set 0 (.int .u8 ga)).set 1 (.int .u8 gx)).set 2 (.int .u8 gy)).set 3 (.int .u8 gs)).set 4 (.int .u8 gp)).set 5 (.int .u16 gc)
    simp only [List.set] at hz
    refine bodyPost_ret (results_pair_row Try.results14 _ _ _ _ _ _ _ _ (by simp [go_sem]) (by simp [go_sem]; rfl) hz Try.underlying29 rfl rfl) rfl ?_
    exact ⟨_, rfl, by simp only [hg1], by repeat (first | with_reducible exact Kept.refl _ _ | with_reducible assumption | with_reducible apply Kept.alloc | with_reducible apply Kept.drew | with_reducible apply Kept.drewN | (with_reducible refine Kept.setCell ?_ (Or.inr (by simp <;> omega)) _))⟩)

def modifiesM (n : List UInt8) (r : Regs) (m : Int) : Regs × Int :=
  if (n == [83, 76, 79]) = true then (readsM [79, 82, 65] { r with p := (asl m r.p).2 } (asl m r.p).1, (asl m r.p).1) else
  if (n == [82, 76, 65]) = true then (readsM [65, 78, 68] { r with p := (rol m r.p).2 } (rol m r.p).1, (rol m r.p).1) else
  if (n == [83, 82, 69]) = true then (readsM [69, 79, 82] { r with p := (lsr m r.p).2 } (lsr m r.p).1, (lsr m r.p).1) else
  if (n == [82, 82, 65]) = true then (readsM [65, 68, 67] { r with p := (ror m r.p).2 } (ror m r.p).1, (ror m r.p).1) else
  if (n == [65, 83, 76]) = true then ({ r with p := (asl m r.p).2 }, (asl m r.p).1) else
  if (n == [76, 83, 82]) = true then ({ r with p := (lsr m r.p).2 }, (lsr m r.p).1) else
  if (n == [82, 79, 76]) = true then ({ r with p := (rol m r.p).2 }, (rol m r.p).1) else
  if (n == [82, 79, 82]) = true then ({ r with p := (ror m r.p).2 }, (ror m r.p).1) else
  if (n == [73, 78, 67]) = true then ({ r with p := nzM r.p ((m + 1) % 256) }, (m + 1) % 256) else
  if (n == [68, 69, 67]) = true then ({ r with p := nzM r.p ((m - 1) % 256) }, (m - 1) % 256) else
  if (n == [68, 67, 80]) = true then (readsM [67, 77, 80] r ((m - 1) % 256), (m - 1) % 256) else
  if (n == [73, 83, 67]) = true then (readsM [83, 66, 67] r ((m + 1) % 256), (m + 1) % 256) else
  (r, m)
theorem modifies_any (w : World) (n : ByteArray) (r : Regs) (m : Int) (hr : r.Ok) (hm : Byte m) :
    Calls Try.prog 14 #[.string n, r.val, .int .u8 m] w (Post w [] fun v W => v = .tuple #[(modifiesM n.toList r m).1.val, .int .u8 (modifiesM n.toList r m).2]) := by
  unfold modifiesM
  by_cases q0 : (n.toList == [83, 76, 79]) = true
  · rw [if_pos q0]
    exact modifies_SLO w n r m hr hm  q0
  rw [if_neg q0]
  have q0 : (n.toList == [83, 76, 79]) = false := by simpa using q0
  by_cases q1 : (n.toList == [82, 76, 65]) = true
  · rw [if_pos q1]
    exact modifies_RLA w n r m hr hm q0 q1
  rw [if_neg q1]
  have q1 : (n.toList == [82, 76, 65]) = false := by simpa using q1
  by_cases q2 : (n.toList == [83, 82, 69]) = true
  · rw [if_pos q2]
    exact modifies_SRE w n r m hr hm q0 q1 q2
  rw [if_neg q2]
  have q2 : (n.toList == [83, 82, 69]) = false := by simpa using q2
  by_cases q3 : (n.toList == [82, 82, 65]) = true
  · rw [if_pos q3]
    exact modifies_RRA w n r m hr hm q0 q1 q2 q3
  rw [if_neg q3]
  have q3 : (n.toList == [82, 82, 65]) = false := by simpa using q3
  by_cases q4 : (n.toList == [65, 83, 76]) = true
  · rw [if_pos q4]
    exact modifies_ASL w n r m hr hm q0 q1 q2 q3 q4
  rw [if_neg q4]
  have q4 : (n.toList == [65, 83, 76]) = false := by simpa using q4
  by_cases q5 : (n.toList == [76, 83, 82]) = true
  · rw [if_pos q5]
    exact modifies_LSR w n r m hr hm q0 q1 q2 q3 q4 q5
  rw [if_neg q5]
  have q5 : (n.toList == [76, 83, 82]) = false := by simpa using q5
  by_cases q6 : (n.toList == [82, 79, 76]) = true
  · rw [if_pos q6]
    exact modifies_ROL w n r m hr hm q0 q1 q2 q3 q4 q5 q6
  rw [if_neg q6]
  have q6 : (n.toList == [82, 79, 76]) = false := by simpa using q6
  by_cases q7 : (n.toList == [82, 79, 82]) = true
  · rw [if_pos q7]
    exact modifies_ROR w n r m hr hm q0 q1 q2 q3 q4 q5 q6 q7
  rw [if_neg q7]
  have q7 : (n.toList == [82, 79, 82]) = false := by simpa using q7
  by_cases q8 : (n.toList == [73, 78, 67]) = true
  · rw [if_pos q8]
    exact modifies_INC w n r m hr hm q0 q1 q2 q3 q4 q5 q6 q7 q8
  rw [if_neg q8]
  have q8 : (n.toList == [73, 78, 67]) = false := by simpa using q8
  by_cases q9 : (n.toList == [68, 69, 67]) = true
  · rw [if_pos q9]
    exact modifies_DEC w n r m hr hm q0 q1 q2 q3 q4 q5 q6 q7 q8 q9
  rw [if_neg q9]
  have q9 : (n.toList == [68, 69, 67]) = false := by simpa using q9
  by_cases q10 : (n.toList == [68, 67, 80]) = true
  · rw [if_pos q10]
    exact modifies_DCP w n r m hr hm q0 q1 q2 q3 q4 q5 q6 q7 q8 q9 q10
  rw [if_neg q10]
  have q10 : (n.toList == [68, 67, 80]) = false := by simpa using q10
  by_cases q11 : (n.toList == [73, 83, 67]) = true
  · rw [if_pos q11]
    exact modifies_ISC w n r m hr hm q0 q1 q2 q3 q4 q5 q6 q7 q8 q9 q10 q11
  rw [if_neg q11]
  have q11 : (n.toList == [73, 83, 67]) = false := by simpa using q11
  exact modifies_other w n r m hr hm q0 q1 q2 q3 q4 q5 q6 q7 q8 q9 q10 q11

end Go.Proofs.Ytmiihcaccejklaa
