/- PROVED: the contract of keepsakelaw15.named, and the walk of EffectStacks. No conditions beyond those that each theorem states. -/
import Derived.Test.YtmiihcaccejklaaEffWk
import Derived.Test.YtmiihcaccejklaaCell
import Derived.Test.YtmiihcaccejklaaRef15a
import Derived.Deep.RegionHeld3
namespace Go.Proofs.Ytmiihcaccejklaa
open Go.RowKit Go.Proofs.YtmiihcaccejklaaLib
set_option linter.unusedSimpArgs false
set_option linter.unusedVariables false

theorem named_any (w : World) (t : ByteArray) (c : Int) (own : Bool) (hc : Byte c) : Calls Try.prog 13 #[.string t, .int .u8 c, .bool own] w (Post w [] fun v W => ∃ n : ByteArray, v = .string n ∧ (own = true → n.toList = nameOf c.toNat) ∧ (own = false → n = t)) := by
  cases own
  · go_enter Try.func13, Try.ntmps13
    go_wp2_with fail
    go_ret
    exact ⟨_, rfl, ⟨t, rfl, by simp, by simp⟩, Kept.refl _ _⟩
  · go_enter Try.func13, Try.ntmps13
    go_wp2_with fail
    refine (cell_any _ c hc.1 hc.2).mono ?_
    rintro _ w1 ⟨_, rfl, ⟨m, rfl⟩, k1⟩
    go_wp2_with fail
    go_ret
    exact ⟨_, rfl, ⟨_, rfl, fun _ => by rw [ByteArray.toList_eq], by simp⟩, k1⟩

set_option maxHeartbeats 4000000 in
theorem EffectStacks_walk (w : World) (t : ByteArray) (code : Int) (own : Bool) (r : Regs) (m : Int) (hr : r.Ok) (hc : Byte code) (hm : Byte m) :
    Calls Try.prog 5 #[.string t, .int .u8 code, .bool own, r.val, .int .u8 m] w fun e W => e = .returned (.bool true) ∧ Below w.heap.size w W := by
  obtain ⟨a, x, y, s, p, pc⟩ := r
  have HR := Lib.hid hr
  have HM := Lib.hid hm
  obtain ⟨ha, hx, hy, hs, hp, hpc⟩ := hr
  unfold Regs.val
  go_enter Try.func5, Try.ntmps5
  go_wp2_with fail
  refine (awake_any _).mono ?_
  rintro _ w1 ⟨_, rfl, rfl, k1⟩
  have hb := Blk.kept (w1 := w1) (Blk.new w 29 [.int .u8 a, .int .u8 x, .int .u8 y, .int .u8 s, .int .u8 p, .int .u16 pc]) k1 (by simp)
  have hk : Kept w w1 [] := Kept.trans ((Kept.refl w []).alloc _) k1 (by simp)
  clear k1
  replace hb := Lib.hid hb
  go_wp2_with fail
  refine (named_any _ t code own hc).mono ?_
  rintro _ w2 ⟨_, rfl, ⟨n, rfl, hn1, hn2⟩, k2⟩
  replace hb := Blk.kept (w1 := w2) hb.out k2 (by simp)
  replace hk := Kept.trans hk k2 (by simp)
  clear k2 hn1 hn2
  by_cases h10 : 10 < n.size
  · go_wp2_with fail
    go_ret
    exact ⟨rfl, hk.below _ (Nat.le_refl _) (by simp)⟩
  · obtain ⟨⟨qa, qx, qy, qs, qp, qc⟩, hq⟩ : ∃ q, pullsM n.toList ⟨a, x, y, s, p, pc⟩ m = q := ⟨_, rfl⟩
    have HQ := Lib.hid hq
    clear hq
    generalize pushesM n.toList ⟨a, x, y, s, p, pc⟩ = pu at *
    replace hb := Lib.hid hb
    go_wp2_with fail
    replace hb := hb.out
    go_region_held3 (fun W => W.cell? ⟨w.heap.size, 0, none⟩ = some (.int .u8 a) ∧ W.cell? ⟨w.heap.size, 1, none⟩ = some (.int .u8 x) ∧ W.cell? ⟨w.heap.size, 2, none⟩ = some (.int .u8 y) ∧ W.cell? ⟨w.heap.size, 3, none⟩ = some (.int .u8 s) ∧ W.cell? ⟨w.heap.size, 4, none⟩ = some (.int .u8 p) ∧ W.cell? ⟨w.heap.size, 5, none⟩ = some (.int .u16 pc)) (first | (with_reducible exact ⟨hb.cell 0 rfl, hb.cell 1 rfl, hb.cell 2 rfl, hb.cell 3 rfl, hb.cell 4 rfl, hb.cell 5 rfl⟩) | (with_reducible exact ⟨hb.drew.cell 0 rfl, hb.drew.cell 1 rfl, hb.drew.cell 2 rfl, hb.drew.cell 3 rfl, hb.drew.cell 4 rfl, hb.drew.cell 5 rfl⟩) | go_keep) (first | (go_at_call 18; refine (pushes_any _ _ ⟨a, x, y, s, p, pc⟩ HR.out).mono ?_; rintro _ w9 ⟨_, rfl, rfl, k9⟩; (try unfold Regs.val); replace hb := (by first | (with_reducible exact Blk.kept hb k9 (by simp)) | (with_reducible exact Blk.kept hb.drew k9 (by simp)) : Blk w9 w.heap.size 29 [.int .u8 a, .int .u8 x, .int .u8 y, .int .u8 s, .int .u8 p, .int .u16 pc]); replace hk := (by first | (with_reducible exact Kept.trans hk k9 (by simp)) | (with_reducible exact Kept.trans hk.drew k9 (by simp)) : Kept w w9 []); clear k9; simp only []) | (go_at_call 19; refine (rpushes_any _ _ ⟨a, x, y, s, p, pc⟩ HR.out).mono ?_; rintro _ w9 ⟨_, rfl, rfl, k9⟩; (try unfold Regs.val); replace hb := (by first | (with_reducible exact Blk.kept hb k9 (by simp)) | (with_reducible exact Blk.kept hb.drew k9 (by simp)) : Blk w9 w.heap.size 29 [.int .u8 a, .int .u8 x, .int .u8 y, .int .u8 s, .int .u8 p, .int .u16 pc]); replace hk := (by first | (with_reducible exact Kept.trans hk k9 (by simp)) | (with_reducible exact Kept.trans hk.drew k9 (by simp)) : Kept w w9 []); clear k9; simp only []) | (go_at_call 20; refine (pulls_any _ _ ⟨a, x, y, s, p, pc⟩ m HR.out HM.out).mono ?_; rintro _ w9 ⟨_, rfl, rfl, k9⟩; rw [HQ.out]; (try unfold Regs.val); replace hb := (by first | (with_reducible exact Blk.kept hb k9 (by simp)) | (with_reducible exact Blk.kept hb.drew k9 (by simp)) : Blk w9 w.heap.size 29 [.int .u8 a, .int .u8 x, .int .u8 y, .int .u8 s, .int .u8 p, .int .u16 pc]); replace hk := (by first | (with_reducible exact Kept.trans hk k9 (by simp)) | (with_reducible exact Kept.trans hk.drew k9 (by simp)) : Kept w w9 []); clear k9; simp only []) | (go_at_call 21; refine (rpulls_any _ _ ⟨a, x, y, s, p, pc⟩ m HR.out HM.out).mono ?_; rintro _ w9 ⟨_, rfl, rfl, k9⟩; rw [HQ.out]; (try unfold Regs.val); replace hb := (by first | (with_reducible exact Blk.kept hb k9 (by simp)) | (with_reducible exact Blk.kept hb.drew k9 (by simp)) : Blk w9 w.heap.size 29 [.int .u8 a, .int .u8 x, .int .u8 y, .int .u8 s, .int .u8 p, .int .u16 pc]); replace hk := (by first | (with_reducible exact Kept.trans hk k9 (by simp)) | (with_reducible exact Kept.trans hk.drew k9 (by simp)) : Kept w w9 []); clear k9; simp only []) | (go_at_call 12; refine (taken_any _ _ p HR.out.p).mono ?_; rintro _ w9 ⟨_, rfl, rfl, k9⟩; (try unfold Regs.val); replace hb := (by first | (with_reducible exact Blk.kept hb k9 (by simp)) | (with_reducible exact Blk.kept hb.drew k9 (by simp)) : Blk w9 w.heap.size 29 [.int .u8 a, .int .u8 x, .int .u8 y, .int .u8 s, .int .u8 p, .int .u16 pc]); replace hk := (by first | (with_reducible exact Kept.trans hk k9 (by simp)) | (with_reducible exact Kept.trans hk.drew k9 (by simp)) : Kept w w9 []); clear k9; simp only []) | (go_at_call 22; refine (rtaken_any _ _ p HR.out.p).mono ?_; rintro _ _ ⟨rfl, rfl⟩; rw [rtakenM_eq]; (try unfold Regs.val); simp only []))
    go_wp2_with fail
    go_ret
    exact ⟨by simp, hk.below _ (Nat.le_refl _) (by simp)⟩

end Go.Proofs.Ytmiihcaccejklaa
