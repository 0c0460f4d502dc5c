/- PROVED: the walk of EffectStays, more cases. No conditions beyond those that each theorem states. -/
import Derived.Test.YtmiihcaccejklaaEffWk
import Derived.Test.YtmiihcaccejklaaCell
import Derived.Test.YtmiihcaccejklaaEffPl
namespace Go.Proofs.Ytmiihcaccejklaa
open Go.RowKit Go.Proofs.YtmiihcaccejklaaLib
set_option linter.unusedSimpArgs false
set_option linter.unusedVariables false

set_option maxRecDepth 100000 in
set_option maxHeartbeats 8000000 in
theorem stays_BIT (w : World) (code a x y s p pc m : Int) (hr : Regs.Ok ⟨a, x, y, s, p, pc⟩) (hc : Byte code) (hm : Byte m) (ba bp bm cs cm qa qx qy qs qp da dx dy ds dp : Int)
    (HB : Hid (modifiesM (ByteArray.mk (nameOf code.toNat).toArray).toList ⟨a, x, y, s, p, pc⟩ m = (⟨ba, x, y, s, bp, pc⟩, bm))) (HC : Hid (writesM (ByteArray.mk (nameOf code.toNat).toArray).toList ⟨a, x, y, s, p, pc⟩ m = (⟨a, x, y, cs, p, pc⟩, cm))) (HQ : Hid (readsM (ByteArray.mk (nameOf code.toNat).toArray).toList ⟨a, x, y, s, p, pc⟩ m = ⟨a, x, y, s, qp, pc⟩)) (HD : Hid (innerM (ByteArray.mk (nameOf code.toNat).toArray).toList ⟨a, x, y, s, p, pc⟩ = ⟨a, x, y, s, p, pc⟩))
    (t0 : ((ByteArray.mk (nameOf code.toNat).toArray).toList == [67, 77, 80]) = false) (t1 : ((ByteArray.mk (nameOf code.toNat).toArray).toList == [67, 80, 88]) = false) (t2 : ((ByteArray.mk (nameOf code.toNat).toArray).toList == [67, 80, 89]) = false) (t3 : ((ByteArray.mk (nameOf code.toNat).toArray).toList == [66, 73, 84]) = true) :
    Calls Try.prog 8 #[.int .u8 code, .agg #[.int .u8 a, .int .u8 x, .int .u8 y, .int .u8 s, .int .u8 p, .int .u16 pc], .int .u8 m] w fun e W => e = .returned (.bool true) ∧ Below w.heap.size w W := by
  have HR := Lib.hid hr
  have HM := Lib.hid hm
  obtain ⟨ha, hx, hy, hs, hp, hpc⟩ := hr
  go_enter Try.func8, Try.ntmps8
  go_wp2_with fail
  refine (awake_any _).mono ?_
  rintro _ w1 ⟨_, rfl, rfl, k1⟩
  have hb := Blk.kept (w1 := w1) (Blk.new w 29 [.int .u8 a, .int .u8 x, .int .u8 y, .int .u8 s, .int .u8 p, .int .u16 pc]) k1 (by simp)
  have hk : Kept w w1 [] := Kept.trans ((Kept.refl w []).alloc _) k1 (by simp)
  clear k1
  replace hb := Lib.hid hb
  go_wp2_with fail
  refine (cell_any _ code hc.1 hc.2).mono ?_
  rintro _ w2 ⟨_, rfl, ⟨mm, rfl⟩, k2⟩
  generalize (ByteArray.mk (nameOf code.toNat).toArray) = n at *
  replace hb := Blk.kept (w1 := w2) hb.out k2 (by simp)
  replace hk := Kept.trans hk k2 (by simp)
  clear k2
  have z0 := hb.cell 0 rfl
  have z1 := hb.cell 1 rfl
  have z2 := hb.cell 2 rfl
  have z3 := hb.cell 3 rfl
  have z4 := hb.cell 4 rfl
  have z5 := hb.cell 5 rfl
  have hz := hb.lt
  go_wp2_with fail
  refine (reads_any _ n ⟨a, x, y, s, p, pc⟩ m HR.out HM.out).mono ?_
  rintro _ w3 ⟨_, rfl, rfl, k9⟩
  rw [HQ.out]
  unfold Regs.val
  clear z0 z1 z2 z3 z4 z5 hz
  replace hb := Blk.kept (w1 := w3) hb k9 (by simp)
  replace hk := Kept.trans hk k9 (by simp)
  clear k9
  have z0 := hb.cell 0 rfl
  have z1 := hb.cell 1 rfl
  have z2 := hb.cell 2 rfl
  have z3 := hb.cell 3 rfl
  have z4 := hb.cell 4 rfl
  have z5 := hb.cell 5 rfl
  have hz := hb.lt
  go_wp2_with fail
  refine (modifies_any _ n ⟨a, x, y, s, p, pc⟩ m HR.out HM.out).mono ?_
  rintro _ w4 ⟨_, rfl, rfl, k9⟩
  rw [HB.out]
  unfold Regs.val
  clear z0 z1 z2 z3 z4 z5 hz
  replace hb := Blk.kept (w1 := w4) (hb.alloc _) k9 (by simp)
  replace hk := Kept.trans (hk.alloc _) k9 (by simp)
  have h1 := Blk.kept (w1 := w4) (Blk.new w3 29 [.int .u8 a, .int .u8 x, .int .u8 y, .int .u8 s, .int .u8 qp, .int .u16 pc]) k9 (by simp)
  clear k9
  have z0 := hb.cell 0 rfl
  have z1 := hb.cell 1 rfl
  have z2 := hb.cell 2 rfl
  have z3 := hb.cell 3 rfl
  have z4 := hb.cell 4 rfl
  have z5 := hb.cell 5 rfl
  have hz := hb.lt
  go_wp2_with fail
  refine (writes_any _ n ⟨a, x, y, s, p, pc⟩ m HR.out HM.out).mono ?_
  rintro _ w5 ⟨_, rfl, rfl, k9⟩
  rw [HC.out]
  unfold Regs.val
  clear z0 z1 z2 z3 z4 z5 hz
  replace hb := Blk.kept (w1 := w5) (hb.alloc _) k9 (by simp)
  replace hk := Kept.trans (hk.alloc _) k9 (by simp)
  replace h1 := Blk.kept (w1 := w5) (h1.alloc _) k9 (by simp)
  have h2 := Blk.kept (w1 := w5) (Blk.new w4 29 [.int .u8 ba, .int .u8 x, .int .u8 y, .int .u8 s, .int .u8 bp, .int .u16 pc]) k9 (by simp)
  clear k9
  have z0 := hb.cell 0 rfl
  have z1 := hb.cell 1 rfl
  have z2 := hb.cell 2 rfl
  have z3 := hb.cell 3 rfl
  have z4 := hb.cell 4 rfl
  have z5 := hb.cell 5 rfl
  have hz := hb.lt
  go_wp2_with fail
  refine (inner_any _ n ⟨a, x, y, s, p, pc⟩ HR.out).mono ?_
  rintro _ w6 ⟨_, rfl, rfl, k9⟩
  rw [HD.out]
  unfold Regs.val
  clear z0 z1 z2 z3 z4 z5 hz
  replace hb := Blk.kept (w1 := w6) (hb.alloc _) k9 (by simp)
  replace hk := Kept.trans (hk.alloc _) k9 (by simp)
  replace h1 := Blk.kept (w1 := w6) (h1.alloc _) k9 (by simp)
  replace h2 := Blk.kept (w1 := w6) (h2.alloc _) k9 (by simp)
  have h3 := Blk.kept (w1 := w6) (Blk.new w5 29 [.int .u8 a, .int .u8 x, .int .u8 y, .int .u8 cs, .int .u8 p, .int .u16 pc]) k9 (by simp)
  clear k9
  have e0 := h1.cell 0 rfl
  have e1 := h1.cell 1 rfl
  have e2 := h1.cell 2 rfl
  have e3 := h1.cell 3 rfl
  have e4 := h1.cell 4 rfl
  have e5 := h1.cell 5 rfl
  have l1 := h1.lt
  have f0 := h2.cell 0 rfl
  have f1 := h2.cell 1 rfl
  have f2 := h2.cell 2 rfl
  have f3 := h2.cell 3 rfl
  have f4 := h2.cell 4 rfl
  have f5 := h2.cell 5 rfl
  have l2 := h2.lt
  have g0 := h3.cell 0 rfl
  have g1 := h3.cell 1 rfl
  have g2 := h3.cell 2 rfl
  have g3 := h3.cell 3 rfl
  have g4 := h3.cell 4 rfl
  have g5 := h3.cell 5 rfl
  have l3 := h3.lt
  have z0 := hb.cell 0 rfl
  have z1 := hb.cell 1 rfl
  have z2 := hb.cell 2 rfl
  have z3 := hb.cell 3 rfl
  have z4 := hb.cell 4 rfl
  have z5 := hb.cell 5 rfl
  have hz := hb.lt
  go_wp2_with fail
  all_goals (
    go_ret
    exact ⟨by simp, by first | exact (hk.alloc _).below _ (Nat.le_refl _) (by simp) | exact ((hk.alloc _).alloc _).below _ (Nat.le_refl _) (by simp) | exact (((hk.alloc _).alloc _).setCell (Or.inr (by simp; omega)) _).below _ (Nat.le_refl _) (by simp)⟩)

set_option maxRecDepth 100000 in
set_option maxHeartbeats 8000000 in
theorem stays_o00 (w : World) (code a x y s p pc m : Int) (hr : Regs.Ok ⟨a, x, y, s, p, pc⟩) (hc : Byte code) (hm : Byte m) (ba bp bm cs cm qa qx qy qs qp da dx dy ds dp : Int)
    (HB : Hid (modifiesM (ByteArray.mk (nameOf code.toNat).toArray).toList ⟨a, x, y, s, p, pc⟩ m = (⟨ba, x, y, s, bp, pc⟩, bm))) (HC : Hid (writesM (ByteArray.mk (nameOf code.toNat).toArray).toList ⟨a, x, y, s, p, pc⟩ m = (⟨a, x, y, cs, p, pc⟩, cm))) (HQ : Hid (readsM (ByteArray.mk (nameOf code.toNat).toArray).toList ⟨a, x, y, s, p, pc⟩ m = ⟨qa, qx, y, qs, qp, pc⟩)) (HD : Hid (innerM (ByteArray.mk (nameOf code.toNat).toArray).toList ⟨a, x, y, s, p, pc⟩ = ⟨da, dx, y, ds, dp, pc⟩))
    (t0 : ((ByteArray.mk (nameOf code.toNat).toArray).toList == [67, 77, 80]) = false) (t1 : ((ByteArray.mk (nameOf code.toNat).toArray).toList == [67, 80, 88]) = false) (t2 : ((ByteArray.mk (nameOf code.toNat).toArray).toList == [67, 80, 89]) = false) (t3 : ((ByteArray.mk (nameOf code.toNat).toArray).toList == [66, 73, 84]) = false) :
    Calls Try.prog 8 #[.int .u8 code, .agg #[.int .u8 a, .int .u8 x, .int .u8 y, .int .u8 s, .int .u8 p, .int .u16 pc], .int .u8 m] w fun e W => e = .returned (.bool true) ∧ Below w.heap.size w W := by
  have HR := Lib.hid hr
  have HM := Lib.hid hm
  obtain ⟨ha, hx, hy, hs, hp, hpc⟩ := hr
  go_enter Try.func8, Try.ntmps8
  go_wp2_with fail
  refine (awake_any _).mono ?_
  rintro _ w1 ⟨_, rfl, rfl, k1⟩
  have hb := Blk.kept (w1 := w1) (Blk.new w 29 [.int .u8 a, .int .u8 x, .int .u8 y, .int .u8 s, .int .u8 p, .int .u16 pc]) k1 (by simp)
  have hk : Kept w w1 [] := Kept.trans ((Kept.refl w []).alloc _) k1 (by simp)
  clear k1
  replace hb := Lib.hid hb
  go_wp2_with fail
  refine (cell_any _ code hc.1 hc.2).mono ?_
  rintro _ w2 ⟨_, rfl, ⟨mm, rfl⟩, k2⟩
  generalize (ByteArray.mk (nameOf code.toNat).toArray) = n at *
  replace hb := Blk.kept (w1 := w2) hb.out k2 (by simp)
  replace hk := Kept.trans hk k2 (by simp)
  clear k2
  have z0 := hb.cell 0 rfl
  have z1 := hb.cell 1 rfl
  have z2 := hb.cell 2 rfl
  have z3 := hb.cell 3 rfl
  have z4 := hb.cell 4 rfl
  have z5 := hb.cell 5 rfl
  have hz := hb.lt
  go_wp2_with fail
  refine (reads_any _ n ⟨a, x, y, s, p, pc⟩ m HR.out HM.out).mono ?_
  rintro _ w3 ⟨_, rfl, rfl, k9⟩
  rw [HQ.out]
  unfold Regs.val
  clear z0 z1 z2 z3 z4 z5 hz
  replace hb := Blk.kept (w1 := w3) hb k9 (by simp)
  replace hk := Kept.trans hk k9 (by simp)
  clear k9
  have z0 := hb.cell 0 rfl
  have z1 := hb.cell 1 rfl
  have z2 := hb.cell 2 rfl
  have z3 := hb.cell 3 rfl
  have z4 := hb.cell 4 rfl
  have z5 := hb.cell 5 rfl
  have hz := hb.lt
  go_wp2_with fail
  refine (modifies_any _ n ⟨a, x, y, s, p, pc⟩ m HR.out HM.out).mono ?_
  rintro _ w4 ⟨_, rfl, rfl, k9⟩
  rw [HB.out]
  unfold Regs.val
  clear z0 z1 z2 z3 z4 z5 hz
  replace hb := Blk.kept (w1 := w4) (hb.alloc _) k9 (by simp)
  replace hk := Kept.trans (hk.alloc _) k9 (by simp)
  have h1 := Blk.kept (w1 := w4) (Blk.new w3 29 [.int .u8 qa, .int .u8 qx, .int .u8 y, .int .u8 qs, .int .u8 qp, .int .u16 pc]) k9 (by simp)
  clear k9
  have z0 := hb.cell 0 rfl
  have z1 := hb.cell 1 rfl
  have z2 := hb.cell 2 rfl
  have z3 := hb.cell 3 rfl
  have z4 := hb.cell 4 rfl
  have z5 := hb.cell 5 rfl
  have hz := hb.lt
  go_wp2_with fail
  refine (writes_any _ n ⟨a, x, y, s, p, pc⟩ m HR.out HM.out).mono ?_
  rintro _ w5 ⟨_, rfl, rfl, k9⟩
  rw [HC.out]
  unfold Regs.val
  clear z0 z1 z2 z3 z4 z5 hz
  replace hb := Blk.kept (w1 := w5) (hb.alloc _) k9 (by simp)
  replace hk := Kept.trans (hk.alloc _) k9 (by simp)
  replace h1 := Blk.kept (w1 := w5) (h1.alloc _) k9 (by simp)
  have h2 := Blk.kept (w1 := w5) (Blk.new w4 29 [.int .u8 ba, .int .u8 x, .int .u8 y, .int .u8 s, .int .u8 bp, .int .u16 pc]) k9 (by simp)
  clear k9
  have z0 := hb.cell 0 rfl
  have z1 := hb.cell 1 rfl
  have z2 := hb.cell 2 rfl
  have z3 := hb.cell 3 rfl
  have z4 := hb.cell 4 rfl
  have z5 := hb.cell 5 rfl
  have hz := hb.lt
  go_wp2_with fail
  refine (inner_any _ n ⟨a, x, y, s, p, pc⟩ HR.out).mono ?_
  rintro _ w6 ⟨_, rfl, rfl, k9⟩
  rw [HD.out]
  unfold Regs.val
  clear z0 z1 z2 z3 z4 z5 hz
  replace hb := Blk.kept (w1 := w6) (hb.alloc _) k9 (by simp)
  replace hk := Kept.trans (hk.alloc _) k9 (by simp)
  replace h1 := Blk.kept (w1 := w6) (h1.alloc _) k9 (by simp)
  replace h2 := Blk.kept (w1 := w6) (h2.alloc _) k9 (by simp)
  have h3 := Blk.kept (w1 := w6) (Blk.new w5 29 [.int .u8 a, .int .u8 x, .int .u8 y, .int .u8 cs, .int .u8 p, .int .u16 pc]) k9 (by simp)
  clear k9
  have e0 := h1.cell 0 rfl
  have e1 := h1.cell 1 rfl
  have e2 := h1.cell 2 rfl
  have e3 := h1.cell 3 rfl
  have e4 := h1.cell 4 rfl
  have e5 := h1.cell 5 rfl
  have l1 := h1.lt
  have f0 := h2.cell 0 rfl
  have f1 := h2.cell 1 rfl
  have f2 := h2.cell 2 rfl
  have f3 := h2.cell 3 rfl
  have f4 := h2.cell 4 rfl
  have f5 := h2.cell 5 rfl
  have l2 := h2.lt
  have g0 := h3.cell 0 rfl
  have g1 := h3.cell 1 rfl
  have g2 := h3.cell 2 rfl
  have g3 := h3.cell 3 rfl
  have g4 := h3.cell 4 rfl
  have g5 := h3.cell 5 rfl
  have l3 := h3.lt
  have z0 := hb.cell 0 rfl
  have z1 := hb.cell 1 rfl
  have z2 := hb.cell 2 rfl
  have z3 := hb.cell 3 rfl
  have z4 := hb.cell 4 rfl
  have z5 := hb.cell 5 rfl
  have hz := hb.lt
  go_wp2_with fail
  all_goals (
    go_ret
    exact ⟨by simp, by first | exact (hk.alloc _).below _ (Nat.le_refl _) (by simp) | exact ((hk.alloc _).alloc _).below _ (Nat.le_refl _) (by simp) | exact (((hk.alloc _).alloc _).setCell (Or.inr (by simp; omega)) _).below _ (Nat.le_refl _) (by simp)⟩)

set_option maxRecDepth 100000 in
set_option maxHeartbeats 8000000 in
theorem stays_o01 (w : World) (code a x y s p pc m : Int) (hr : Regs.Ok ⟨a, x, y, s, p, pc⟩) (hc : Byte code) (hm : Byte m) (ba bp bm cs cm qa qx qy qs qp da dx dy ds dp : Int)
    (HB : Hid (modifiesM (ByteArray.mk (nameOf code.toNat).toArray).toList ⟨a, x, y, s, p, pc⟩ m = (⟨ba, x, y, s, bp, pc⟩, bm))) (HC : Hid (writesM (ByteArray.mk (nameOf code.toNat).toArray).toList ⟨a, x, y, s, p, pc⟩ m = (⟨a, x, y, cs, p, pc⟩, cm))) (HQ : Hid (readsM (ByteArray.mk (nameOf code.toNat).toArray).toList ⟨a, x, y, s, p, pc⟩ m = ⟨qa, qx, y, qs, qp, pc⟩)) (HD : Hid (innerM (ByteArray.mk (nameOf code.toNat).toArray).toList ⟨a, x, y, s, p, pc⟩ = ⟨da, dx, dy, ds, dp, pc⟩))
    (t0 : ((ByteArray.mk (nameOf code.toNat).toArray).toList == [67, 77, 80]) = false) (t1 : ((ByteArray.mk (nameOf code.toNat).toArray).toList == [67, 80, 88]) = false) (t2 : ((ByteArray.mk (nameOf code.toNat).toArray).toList == [67, 80, 89]) = false) (t3 : ((ByteArray.mk (nameOf code.toNat).toArray).toList == [66, 73, 84]) = false) (u1 : ((ByteArray.mk (nameOf code.toNat).toArray).toList == [84, 65, 89]) = true) :
    Calls Try.prog 8 #[.int .u8 code, .agg #[.int .u8 a, .int .u8 x, .int .u8 y, .int .u8 s, .int .u8 p, .int .u16 pc], .int .u8 m] w fun e W => e = .returned (.bool true) ∧ Below w.heap.size w W := by
  have HR := Lib.hid hr
  have HM := Lib.hid hm
  obtain ⟨ha, hx, hy, hs, hp, hpc⟩ := hr
  go_enter Try.func8, Try.ntmps8
  go_wp2_with fail
  refine (awake_any _).mono ?_
  rintro _ w1 ⟨_, rfl, rfl, k1⟩
  have hb := Blk.kept (w1 := w1) (Blk.new w 29 [.int .u8 a, .int .u8 x, .int .u8 y, .int .u8 s, .int .u8 p, .int .u16 pc]) k1 (by simp)
  have hk : Kept w w1 [] := Kept.trans ((Kept.refl w []).alloc _) k1 (by simp)
  clear k1
  replace hb := Lib.hid hb
  go_wp2_with fail
  refine (cell_any _ code hc.1 hc.2).mono ?_
  rintro _ w2 ⟨_, rfl, ⟨mm, rfl⟩, k2⟩
  generalize (ByteArray.mk (nameOf code.toNat).toArray) = n at *
  replace hb := Blk.kept (w1 := w2) hb.out k2 (by simp)
  replace hk := Kept.trans hk k2 (by simp)
  clear k2
  have v1 : (n.toList != [84, 65, 89]) = false := by rw [bne, u1]; rfl
  have z0 := hb.cell 0 rfl
  have z1 := hb.cell 1 rfl
  have z2 := hb.cell 2 rfl
  have z3 := hb.cell 3 rfl
  have z4 := hb.cell 4 rfl
  have z5 := hb.cell 5 rfl
  have hz := hb.lt
  go_wp2_with fail
  refine (reads_any _ n ⟨a, x, y, s, p, pc⟩ m HR.out HM.out).mono ?_
  rintro _ w3 ⟨_, rfl, rfl, k9⟩
  rw [HQ.out]
  unfold Regs.val
  clear z0 z1 z2 z3 z4 z5 hz
  replace hb := Blk.kept (w1 := w3) hb k9 (by simp)
  replace hk := Kept.trans hk k9 (by simp)
  clear k9
  have z0 := hb.cell 0 rfl
  have z1 := hb.cell 1 rfl
  have z2 := hb.cell 2 rfl
  have z3 := hb.cell 3 rfl
  have z4 := hb.cell 4 rfl
  have z5 := hb.cell 5 rfl
  have hz := hb.lt
  go_wp2_with fail
  refine (modifies_any _ n ⟨a, x, y, s, p, pc⟩ m HR.out HM.out).mono ?_
  rintro _ w4 ⟨_, rfl, rfl, k9⟩
  rw [HB.out]
  unfold Regs.val
  clear z0 z1 z2 z3 z4 z5 hz
  replace hb := Blk.kept (w1 := w4) (hb.alloc _) k9 (by simp)
  replace hk := Kept.trans (hk.alloc _) k9 (by simp)
  have h1 := Blk.kept (w1 := w4) (Blk.new w3 29 [.int .u8 qa, .int .u8 qx, .int .u8 y, .int .u8 qs, .int .u8 qp, .int .u16 pc]) k9 (by simp)
  clear k9
  have z0 := hb.cell 0 rfl
  have z1 := hb.cell 1 rfl
  have z2 := hb.cell 2 rfl
  have z3 := hb.cell 3 rfl
  have z4 := hb.cell 4 rfl
  have z5 := hb.cell 5 rfl
  have hz := hb.lt
  go_wp2_with fail
  refine (writes_any _ n ⟨a, x, y, s, p, pc⟩ m HR.out HM.out).mono ?_
  rintro _ w5 ⟨_, rfl, rfl, k9⟩
  rw [HC.out]
  unfold Regs.val
  clear z0 z1 z2 z3 z4 z5 hz
  replace hb := Blk.kept (w1 := w5) (hb.alloc _) k9 (by simp)
  replace hk := Kept.trans (hk.alloc _) k9 (by simp)
  replace h1 := Blk.kept (w1 := w5) (h1.alloc _) k9 (by simp)
  have h2 := Blk.kept (w1 := w5) (Blk.new w4 29 [.int .u8 ba, .int .u8 x, .int .u8 y, .int .u8 s, .int .u8 bp, .int .u16 pc]) k9 (by simp)
  clear k9
  have z0 := hb.cell 0 rfl
  have z1 := hb.cell 1 rfl
  have z2 := hb.cell 2 rfl
  have z3 := hb.cell 3 rfl
  have z4 := hb.cell 4 rfl
  have z5 := hb.cell 5 rfl
  have hz := hb.lt
  go_wp2_with fail
  refine (inner_any _ n ⟨a, x, y, s, p, pc⟩ HR.out).mono ?_
  rintro _ w6 ⟨_, rfl, rfl, k9⟩
  rw [HD.out]
  unfold Regs.val
  clear z0 z1 z2 z3 z4 z5 hz
  replace hb := Blk.kept (w1 := w6) (hb.alloc _) k9 (by simp)
  replace hk := Kept.trans (hk.alloc _) k9 (by simp)
  replace h1 := Blk.kept (w1 := w6) (h1.alloc _) k9 (by simp)
  replace h2 := Blk.kept (w1 := w6) (h2.alloc _) k9 (by simp)
  have h3 := Blk.kept (w1 := w6) (Blk.new w5 29 [.int .u8 a, .int .u8 x, .int .u8 y, .int .u8 cs, .int .u8 p, .int .u16 pc]) k9 (by simp)
  clear k9
  have e0 := h1.cell 0 rfl
  have e1 := h1.cell 1 rfl
  have e2 := h1.cell 2 rfl
  have e3 := h1.cell 3 rfl
  have e4 := h1.cell 4 rfl
  have e5 := h1.cell 5 rfl
  have l1 := h1.lt
  have f0 := h2.cell 0 rfl
  have f1 := h2.cell 1 rfl
  have f2 := h2.cell 2 rfl
  have f3 := h2.cell 3 rfl
  have f4 := h2.cell 4 rfl
  have f5 := h2.cell 5 rfl
  have l2 := h2.lt
  have g0 := h3.cell 0 rfl
  have g1 := h3.cell 1 rfl
  have g2 := h3.cell 2 rfl
  have g3 := h3.cell 3 rfl
  have g4 := h3.cell 4 rfl
  have g5 := h3.cell 5 rfl
  have l3 := h3.lt
  have z0 := hb.cell 0 rfl
  have z1 := hb.cell 1 rfl
  have z2 := hb.cell 2 rfl
  have z3 := hb.cell 3 rfl
  have z4 := hb.cell 4 rfl
  have z5 := hb.cell 5 rfl
  have hz := hb.lt
  go_wp2_with fail
  all_goals (
    go_ret
    exact ⟨by simp, by first | exact (hk.alloc _).below _ (Nat.le_refl _) (by simp) | exact ((hk.alloc _).alloc _).below _ (Nat.le_refl _) (by simp) | exact (((hk.alloc _).alloc _).setCell (Or.inr (by simp; omega)) _).below _ (Nat.le_refl _) (by simp)⟩)

end Go.Proofs.Ytmiihcaccejklaa
