/- PROVED: the walk of EffectModifies. No conditions beyond those that each theorem states. -/
import Derived.Test.YtmiihcaccejklaaEffSt
import Derived.Test.YtmiihcaccejklaaRef15k
import Derived.Test.YtmiihcaccejklaaRef15w
namespace Go.Proofs.Ytmiihcaccejklaa
open Go.RowKit Go.Proofs.YtmiihcaccejklaaLib
set_option linter.unusedSimpArgs false
set_option linter.unusedVariables false

set_option maxHeartbeats 4000000 in
theorem EffectModifies_walk (w : World) (t : ByteArray) (code : Int) (own : Bool) (r : Regs) (m : Int) (hr : r.Ok) (hc : Byte code) (hm : Byte m) :
    Calls Try.prog 4 #[.string t, .int .u8 code, .bool own, r.val, .int .u8 m] w fun e W => e = .returned (.bool true) ∧ Below w.heap.size w W := by
  obtain ⟨a, x, y, s, p, pc⟩ := r
  have HR := Lib.hid hr
  have HM := Lib.hid hm
  obtain ⟨ha, hx, hy, hs, hp, hpc⟩ := hr
  unfold Regs.val
  go_enter Try.func4, Try.ntmps4
  go_wp2_with fail
  refine (awake_any _).mono ?_
  rintro _ w1 ⟨_, rfl, rfl, k1⟩
  have hb := Blk.kept (w1 := w1) (Blk.new w 29 [.int .u8 a, .int .u8 x, .int .u8 y, .int .u8 s, .int .u8 p, .int .u16 pc]) k1 (by simp)
  have hk : Kept w w1 [] := Kept.trans ((Kept.refl w []).alloc _) k1 (by simp)
  clear k1
  replace hb := Lib.hid hb
  go_wp2_with fail
  refine (named_any _ t code own hc).mono ?_
  rintro _ w2 ⟨_, rfl, ⟨n, rfl, hn1, hn2⟩, k2⟩
  replace hb := Blk.kept (w1 := w2) hb.out k2 (by simp)
  replace hk := Kept.trans hk k2 (by simp)
  clear k2 hn1 hn2
  by_cases h10 : 10 < n.size
  · go_wp2_with fail
    go_ret
    exact ⟨rfl, hk.below _ (Nat.le_refl _) (by simp)⟩
  · obtain ⟨⟨⟨qa, qx, qy, qs, qp, qc⟩, qm⟩, hq⟩ : ∃ q, modifiesM n.toList ⟨a, x, y, s, p, pc⟩ m = q := ⟨_, rfl⟩
    obtain ⟨⟨⟨ua, ux, uy, us, up, uc⟩, um⟩, hu⟩ : ∃ q, writesM n.toList ⟨a, x, y, s, p, pc⟩ m = q := ⟨_, rfl⟩
    have HQ := Lib.hid hq
    have HU := Lib.hid hu
    clear hq hu
    have z0 := hb.cell 0 rfl
    have z1 := hb.cell 1 rfl
    have z2 := hb.cell 2 rfl
    have z3 := hb.cell 3 rfl
    have z4 := hb.cell 4 rfl
    have z5 := hb.cell 5 rfl
    have hz := hb.lt
    go_wp2_with fail
    refine (modifies_any _ n ⟨a, x, y, s, p, pc⟩ m HR.out HM.out).mono ?_
    rintro _ w3 ⟨_, rfl, rfl, k9⟩
    rw [HQ.out]
    unfold Regs.val
    clear z0 z1 z2 z3 z4 z5 hz
    replace hb := Blk.kept (w1 := w3) hb k9 (by simp)
    replace hk := Kept.trans hk k9 (by simp)
    clear k9
    have z0 := hb.cell 0 rfl
    have z1 := hb.cell 1 rfl
    have z2 := hb.cell 2 rfl
    have z3 := hb.cell 3 rfl
    have z4 := hb.cell 4 rfl
    have z5 := hb.cell 5 rfl
    have hz := hb.lt
    go_wp2_with fail
    refine (rmodifies_any _ n ⟨a, x, y, s, p, pc⟩ m HR.out HM.out).mono ?_
    rintro _ w4 ⟨_, rfl, rfl, k9⟩
    rw [rmodifiesM_eq, HQ.out]
    unfold Regs.val
    clear z0 z1 z2 z3 z4 z5 hz
    replace hb := Blk.kept (w1 := w4) (hb.alloc _) k9 (by simp)
    replace hk := Kept.trans (hk.alloc _) k9 (by simp)
    have h1 := Blk.kept (w1 := w4) (Blk.new w3 29 [.int .u8 qa, .int .u8 qx, .int .u8 qy, .int .u8 qs, .int .u8 qp, .int .u16 qc]) k9 (by simp)
    clear k9
    have z0 := hb.cell 0 rfl
    have z1 := hb.cell 1 rfl
    have z2 := hb.cell 2 rfl
    have z3 := hb.cell 3 rfl
    have z4 := hb.cell 4 rfl
    have z5 := hb.cell 5 rfl
    have hz := hb.lt
    go_wp2_with fail
    refine (writes_any _ n ⟨a, x, y, s, p, pc⟩ m HR.out HM.out).mono ?_
    rintro _ w5 ⟨_, rfl, rfl, k9⟩
    rw [HU.out]
    unfold Regs.val
    clear z0 z1 z2 z3 z4 z5 hz
    replace hb := Blk.kept (w1 := w5) (hb.alloc _) k9 (by simp)
    replace hk := Kept.trans (hk.alloc _) k9 (by simp)
    replace h1 := Blk.kept (w1 := w5) (h1.alloc _) k9 (by simp)
    have h2 := Blk.kept (w1 := w5) (Blk.new w4 29 [.int .u8 qa, .int .u8 qx, .int .u8 qy, .int .u8 qs, .int .u8 qp, .int .u16 qc]) k9 (by simp)
    clear k9
    have z0 := hb.cell 0 rfl
    have z1 := hb.cell 1 rfl
    have z2 := hb.cell 2 rfl
    have z3 := hb.cell 3 rfl
    have z4 := hb.cell 4 rfl
    have z5 := hb.cell 5 rfl
    have hz := hb.lt
    go_wp2_with fail
    refine (rwrites_any _ n ⟨a, x, y, s, p, pc⟩ m HR.out HM.out).mono ?_
    rintro _ w6 ⟨_, rfl, rfl, k9⟩
    rw [rwritesM_eq, HU.out]
    unfold Regs.val
    clear z0 z1 z2 z3 z4 z5 hz
    replace hb := Blk.kept (w1 := w6) (hb.alloc _) k9 (by simp)
    replace hk := Kept.trans (hk.alloc _) k9 (by simp)
    replace h1 := Blk.kept (w1 := w6) (h1.alloc _) k9 (by simp)
    replace h2 := Blk.kept (w1 := w6) (h2.alloc _) k9 (by simp)
    have h3 := Blk.kept (w1 := w6) (Blk.new w5 29 [.int .u8 ua, .int .u8 ux, .int .u8 uy, .int .u8 us, .int .u8 up, .int .u16 uc]) k9 (by simp)
    clear k9
    have e0 := h1.cell 0 rfl
    have e1 := h1.cell 1 rfl
    have e2 := h1.cell 2 rfl
    have e3 := h1.cell 3 rfl
    have e4 := h1.cell 4 rfl
    have e5 := h1.cell 5 rfl
    have l1 := h1.lt
    have f0 := h2.cell 0 rfl
    have f1 := h2.cell 1 rfl
    have f2 := h2.cell 2 rfl
    have f3 := h2.cell 3 rfl
    have f4 := h2.cell 4 rfl
    have f5 := h2.cell 5 rfl
    have l2 := h2.lt
    have g0 := h3.cell 0 rfl
    have g1 := h3.cell 1 rfl
    have g2 := h3.cell 2 rfl
    have g3 := h3.cell 3 rfl
    have g4 := h3.cell 4 rfl
    have g5 := h3.cell 5 rfl
    have l3 := h3.lt
    go_wp2_with fail
    go_ret
    exact ⟨by simp, (hk.alloc _).below _ (Nat.le_refl _) (by simp)⟩

end Go.Proofs.Ytmiihcaccejklaa
