/- PROVED: the walk of EffectOthers. No conditions beyond those that each theorem states. -/
import Derived.Test.YtmiihcaccejklaaEffWk
import Derived.Test.YtmiihcaccejklaaCell
import Derived.Test.YtmiihcaccejklaaEffPl
import Derived.Deep.RegionHeld3
namespace Go.Proofs.Ytmiihcaccejklaa
open Go.RowKit Go.Proofs.YtmiihcaccejklaaLib
set_option linter.unusedSimpArgs false
set_option linter.unusedVariables false

set_option maxRecDepth 100000 in
set_option maxHeartbeats 8000000 in
theorem EffectOthers_walk (w : World) (t : ByteArray) (r : Regs) (m : Int) (hr : r.Ok) (hm : Byte m) :
    Calls Try.prog 10 #[.string t, r.val, .int .u8 m] w fun e W => e = .returned (.bool true) ∧ Below w.heap.size w W := by
  obtain ⟨a, x, y, s, p, pc⟩ := r
  have HR := Lib.hid hr
  have HM := Lib.hid hm
  obtain ⟨ha, hx, hy, hs, hp, hpc⟩ := hr
  unfold Regs.val
  go_enter Try.func10, Try.ntmps10
  go_wp2_with fail
  refine (awake_any _).mono ?_
  rintro _ w1 ⟨_, rfl, rfl, k1⟩
  have hb := Blk.kept (w1 := w1) (Blk.new w 29 [.int .u8 a, .int .u8 x, .int .u8 y, .int .u8 s, .int .u8 p, .int .u16 pc]) k1 (by simp)
  have hk : Kept w w1 [] := Kept.trans ((Kept.refl w []).alloc _) k1 (by simp)
  clear k1
  replace hb := Lib.hid hb
  by_cases h10 : 10 < t.size
  · go_wp2_with fail
    go_ret
    exact ⟨rfl, hk.below _ (Nat.le_refl _) (by simp)⟩
  go_wp2_with fail
  go_loopg [8] 256 (fun g i wr => ∃ k : Nat, k + g = 256 ∧ i = .int .i64 k ∧ (∀ j, j < k → nameOf j ≠ t.toList) ∧ Blk wr w.heap.size 29 [.int .u8 a, .int .u8 x, .int .u8 y, .int .u8 s, .int .u8 p, .int .u16 pc] ∧ Kept w wr [])
  case atStart => exact ⟨0, rfl, rfl, fun j hj => absurd hj (Nat.not_lt_zero _), hb.out, hk⟩
  case round =>
    clear hb hk
    obtain ⟨k, hkg, rfl, hno, hb, hk⟩ := hrel
    replace hkg := Lib.hid hkg
    replace hno := Lib.hid hno
    by_cases hlt : k < 256
    · replace hb := Lib.hid hb
      go_wp2_with fail
      refine (cell_any _ _ (by omega) (by omega)).mono ?_
      rintro _ w3 ⟨_, rfl, ⟨mm, rfl⟩, k9⟩
      replace hb := Blk.kept hb.out k9 (by simp)
      replace hk := Kept.trans hk k9 (by simp)
      clear k9
      have ek : ((k : Int)).toNat = k := Int.toNat_natCast k
      replace hb := Lib.hid hb
      by_cases he : nameOf k = t.toList
      · have e2 : (ByteArray.mk (nameOf k).toArray) = t := by rw [he]; exact mk_toList t
        rw [Int.toNat_natCast, e2]
        clear e2 ek he
        go_wp2_with fail
        go_ret
        exact ⟨rfl, hk.below _ (Nat.le_refl _) (by simp)⟩
      · have e3 : ((ByteArray.mk (nameOf k).toArray) == t) = false := by
          rw [bytes_beq, ByteArray.toList_eq]
          simpa using he
        have e4 : ((ByteArray.mk (nameOf k).toArray).toList == t.toList) = false := by rw [← bytes_beq]; exact e3
        rw [Int.toNat_natCast]
        generalize (ByteArray.mk (nameOf k).toArray) = nm at e3 e4 ⊢
        replace he := Lib.hid he
        clear ek
        go_wp2_with fail
        go_roundg (gk - 1)
        case measure => have := hkg.out; omega
        case rel =>
          refine ⟨k + 1, by have := hkg.out; omega, by go_num, ?_, hb.out, hk⟩
          intro j hj
          by_cases hjk : j = k
          · subst hjk; exact he.out
          · exact hno.out j (by omega)
    · have HN : Hid (NoName t.toList) := Lib.hid (fun j hj => hno.out j (by omega))
      clear hno hkg
      have z0 := hb.cell 0 rfl
      have z1 := hb.cell 1 rfl
      have z2 := hb.cell 2 rfl
      have z3 := hb.cell 3 rfl
      have z4 := hb.cell 4 rfl
      have z5 := hb.cell 5 rfl
      have hz := hb.lt
      go_wp2_with fail
      refine (modifies_any _ t ⟨a, x, y, s, p, pc⟩ m HR.out HM.out).mono ?_
      rintro _ w3 ⟨_, rfl, rfl, k9⟩
      rw [other_modifies HN.out]
      unfold Regs.val
      clear z0 z1 z2 z3 z4 z5 hz
      replace hb := Blk.kept (w1 := w3) hb k9 (by simp)
      replace hk := Kept.trans hk k9 (by simp)
      clear k9
      have z0 := hb.cell 0 rfl
      have z1 := hb.cell 1 rfl
      have z2 := hb.cell 2 rfl
      have z3 := hb.cell 3 rfl
      have z4 := hb.cell 4 rfl
      have z5 := hb.cell 5 rfl
      have hz := hb.lt
      go_wp2_with fail
      refine (writes_any _ t ⟨a, x, y, s, p, pc⟩ m HR.out HM.out).mono ?_
      rintro _ w4 ⟨_, rfl, rfl, k9⟩
      rw [other_writes HN.out]
      unfold Regs.val
      clear z0 z1 z2 z3 z4 z5 hz
      replace hb := Blk.kept (w1 := w4) (hb.alloc _) k9 (by simp)
      replace hk := Kept.trans (hk.alloc _) k9 (by simp)
      have h1 := Blk.kept (w1 := w4) (Blk.new w3 29 [.int .u8 a, .int .u8 x, .int .u8 y, .int .u8 s, .int .u8 p, .int .u16 pc]) k9 (by simp)
      clear k9
      go_wp2_with fail
      have h2 := Blk.new w4 29 [.int .u8 a, .int .u8 x, .int .u8 y, .int .u8 s, .int .u8 p, .int .u16 pc]
      replace h1 := h1.alloc (.cells #[.int .u8 a, .int .u8 x, .int .u8 y, .int .u8 s, .int .u8 p, .int .u16 pc] 29)
      replace hb := hb.alloc (.cells #[.int .u8 a, .int .u8 x, .int .u8 y, .int .u8 s, .int .u8 p, .int .u16 pc] 29)
      replace hk := hk.alloc (.cells #[.int .u8 a, .int .u8 x, .int .u8 y, .int .u8 s, .int .u8 p, .int .u16 pc] 29)
      generalize w3.heap.size = B1 at *
      generalize hB2 : w4.heap.size = B2 at *
      generalize World.alloc w4 (.cells #[.int .u8 a, .int .u8 x, .int .u8 y, .int .u8 s, .int .u8 p, .int .u16 pc] 29) = w5 at *
      replace hB2 := Lib.hid hB2
      go_region_held3 (fun W => W.cell? ⟨w.heap.size, 0, none⟩ = some (.int .u8 a) ∧ W.cell? ⟨w.heap.size, 1, none⟩ = some (.int .u8 x) ∧ W.cell? ⟨w.heap.size, 2, none⟩ = some (.int .u8 y) ∧ W.cell? ⟨w.heap.size, 3, none⟩ = some (.int .u8 s) ∧ W.cell? ⟨w.heap.size, 4, none⟩ = some (.int .u8 p) ∧ W.cell? ⟨w.heap.size, 5, none⟩ = some (.int .u16 pc) ∧ W.cell? ⟨B1, 0, none⟩ = some (.int .u8 a) ∧ W.cell? ⟨B1, 1, none⟩ = some (.int .u8 x) ∧ W.cell? ⟨B1, 2, none⟩ = some (.int .u8 y) ∧ W.cell? ⟨B1, 3, none⟩ = some (.int .u8 s) ∧ W.cell? ⟨B1, 4, none⟩ = some (.int .u8 p) ∧ W.cell? ⟨B1, 5, none⟩ = some (.int .u16 pc) ∧ W.cell? ⟨B2, 0, none⟩ = some (.int .u8 a) ∧ W.cell? ⟨B2, 1, none⟩ = some (.int .u8 x) ∧ W.cell? ⟨B2, 2, none⟩ = some (.int .u8 y) ∧ W.cell? ⟨B2, 3, none⟩ = some (.int .u8 s) ∧ W.cell? ⟨B2, 4, none⟩ = some (.int .u8 p) ∧ W.cell? ⟨B2, 5, none⟩ = some (.int .u16 pc)) (first | (with_reducible exact ⟨hb.cell 0 rfl, hb.cell 1 rfl, hb.cell 2 rfl, hb.cell 3 rfl, hb.cell 4 rfl, hb.cell 5 rfl, h1.cell 0 rfl, h1.cell 1 rfl, h1.cell 2 rfl, h1.cell 3 rfl, h1.cell 4 rfl, h1.cell 5 rfl, h2.cell 0 rfl, h2.cell 1 rfl, h2.cell 2 rfl, h2.cell 3 rfl, h2.cell 4 rfl, h2.cell 5 rfl⟩) | (with_reducible exact ⟨hb.drew.cell 0 rfl, hb.drew.cell 1 rfl, hb.drew.cell 2 rfl, hb.drew.cell 3 rfl, hb.drew.cell 4 rfl, hb.drew.cell 5 rfl, h1.drew.cell 0 rfl, h1.drew.cell 1 rfl, h1.drew.cell 2 rfl, h1.drew.cell 3 rfl, h1.drew.cell 4 rfl, h1.drew.cell 5 rfl, h2.drew.cell 0 rfl, h2.drew.cell 1 rfl, h2.drew.cell 2 rfl, h2.drew.cell 3 rfl, h2.drew.cell 4 rfl, h2.drew.cell 5 rfl⟩) | go_keep) (first | (go_at_call 23; refine (reads_any _ t ⟨a, x, y, s, p, pc⟩ m HR.out HM.out).mono ?_; rintro _ w9 ⟨_, rfl, rfl, k9⟩; rw [other_reads HN.out]; (try unfold Regs.val); replace hb := (by first | (with_reducible exact Blk.kept hb k9 (by simp)) | (with_reducible exact Blk.kept hb.drew k9 (by simp)) : Blk w9 w.heap.size 29 [.int .u8 a, .int .u8 x, .int .u8 y, .int .u8 s, .int .u8 p, .int .u16 pc]); replace h1 := (by first | (with_reducible exact Blk.kept h1 k9 (by simp)) | (with_reducible exact Blk.kept h1.drew k9 (by simp)) : Blk w9 B1 29 [.int .u8 a, .int .u8 x, .int .u8 y, .int .u8 s, .int .u8 p, .int .u16 pc]); replace h2 := (by first | (with_reducible exact Blk.kept h2 k9 (by simp)) | (with_reducible exact Blk.kept h2.drew k9 (by simp)) : Blk w9 B2 29 [.int .u8 a, .int .u8 x, .int .u8 y, .int .u8 s, .int .u8 p, .int .u16 pc]); replace hk := (by first | (with_reducible exact Kept.trans hk k9 (by simp)) | (with_reducible exact Kept.trans hk.drew k9 (by simp)) : Kept w w9 []); clear k9; simp only []) | (go_at_call 25; refine (inner_any _ t ⟨a, x, y, s, p, pc⟩ HR.out).mono ?_; rintro _ w9 ⟨_, rfl, rfl, k9⟩; rw [other_inner HN.out ⟨a, x, y, s, p, pc⟩ m]; (try unfold Regs.val); replace hb := (by first | (with_reducible exact Blk.kept hb k9 (by simp)) | (with_reducible exact Blk.kept hb.drew k9 (by simp)) : Blk w9 w.heap.size 29 [.int .u8 a, .int .u8 x, .int .u8 y, .int .u8 s, .int .u8 p, .int .u16 pc]); replace h1 := (by first | (with_reducible exact Blk.kept h1 k9 (by simp)) | (with_reducible exact Blk.kept h1.drew k9 (by simp)) : Blk w9 B1 29 [.int .u8 a, .int .u8 x, .int .u8 y, .int .u8 s, .int .u8 p, .int .u16 pc]); replace h2 := (by first | (with_reducible exact Blk.kept h2 k9 (by simp)) | (with_reducible exact Blk.kept h2.drew k9 (by simp)) : Blk w9 B2 29 [.int .u8 a, .int .u8 x, .int .u8 y, .int .u8 s, .int .u8 p, .int .u16 pc]); replace hk := (by first | (with_reducible exact Kept.trans hk k9 (by simp)) | (with_reducible exact Kept.trans hk.drew k9 (by simp)) : Kept w w9 []); clear k9; simp only []) | (go_at_call 18; refine (pushes_any _ t ⟨a, x, y, s, p, pc⟩ HR.out).mono ?_; rintro _ w9 ⟨_, rfl, rfl, k9⟩; rw [other_pushes HN.out ⟨a, x, y, s, p, pc⟩ m]; (try unfold Regs.val); replace hb := (by first | (with_reducible exact Blk.kept hb k9 (by simp)) | (with_reducible exact Blk.kept hb.drew k9 (by simp)) : Blk w9 w.heap.size 29 [.int .u8 a, .int .u8 x, .int .u8 y, .int .u8 s, .int .u8 p, .int .u16 pc]); replace h1 := (by first | (with_reducible exact Blk.kept h1 k9 (by simp)) | (with_reducible exact Blk.kept h1.drew k9 (by simp)) : Blk w9 B1 29 [.int .u8 a, .int .u8 x, .int .u8 y, .int .u8 s, .int .u8 p, .int .u16 pc]); replace h2 := (by first | (with_reducible exact Blk.kept h2 k9 (by simp)) | (with_reducible exact Blk.kept h2.drew k9 (by simp)) : Blk w9 B2 29 [.int .u8 a, .int .u8 x, .int .u8 y, .int .u8 s, .int .u8 p, .int .u16 pc]); replace hk := (by first | (with_reducible exact Kept.trans hk k9 (by simp)) | (with_reducible exact Kept.trans hk.drew k9 (by simp)) : Kept w w9 []); clear k9; simp only []) | (go_at_call 20; refine (pulls_any _ t ⟨a, x, y, s, p, pc⟩ m HR.out HM.out).mono ?_; rintro _ w9 ⟨_, rfl, rfl, k9⟩; rw [other_pulls HN.out]; (try unfold Regs.val); replace hb := (by first | (with_reducible exact Blk.kept hb k9 (by simp)) | (with_reducible exact Blk.kept hb.drew k9 (by simp)) : Blk w9 w.heap.size 29 [.int .u8 a, .int .u8 x, .int .u8 y, .int .u8 s, .int .u8 p, .int .u16 pc]); replace h1 := (by first | (with_reducible exact Blk.kept h1 k9 (by simp)) | (with_reducible exact Blk.kept h1.drew k9 (by simp)) : Blk w9 B1 29 [.int .u8 a, .int .u8 x, .int .u8 y, .int .u8 s, .int .u8 p, .int .u16 pc]); replace h2 := (by first | (with_reducible exact Blk.kept h2 k9 (by simp)) | (with_reducible exact Blk.kept h2.drew k9 (by simp)) : Blk w9 B2 29 [.int .u8 a, .int .u8 x, .int .u8 y, .int .u8 s, .int .u8 p, .int .u16 pc]); replace hk := (by first | (with_reducible exact Kept.trans hk k9 (by simp)) | (with_reducible exact Kept.trans hk.drew k9 (by simp)) : Kept w w9 []); clear k9; simp only []) | (go_at_call 12; refine (taken_any _ t p HR.out.p).mono ?_; rintro _ w9 ⟨_, rfl, rfl, k9⟩; rw [show takenM t.toList p = false from other_taken HN.out ⟨a, x, y, s, p, pc⟩ m]; (try unfold Regs.val); replace hb := (by first | (with_reducible exact Blk.kept hb k9 (by simp)) | (with_reducible exact Blk.kept hb.drew k9 (by simp)) : Blk w9 w.heap.size 29 [.int .u8 a, .int .u8 x, .int .u8 y, .int .u8 s, .int .u8 p, .int .u16 pc]); replace h1 := (by first | (with_reducible exact Blk.kept h1 k9 (by simp)) | (with_reducible exact Blk.kept h1.drew k9 (by simp)) : Blk w9 B1 29 [.int .u8 a, .int .u8 x, .int .u8 y, .int .u8 s, .int .u8 p, .int .u16 pc]); replace h2 := (by first | (with_reducible exact Blk.kept h2 k9 (by simp)) | (with_reducible exact Blk.kept h2.drew k9 (by simp)) : Blk w9 B2 29 [.int .u8 a, .int .u8 x, .int .u8 y, .int .u8 s, .int .u8 p, .int .u16 pc]); replace hk := (by first | (with_reducible exact Kept.trans hk k9 (by simp)) | (with_reducible exact Kept.trans hk.drew k9 (by simp)) : Kept w w9 []); clear k9; simp only []))
      go_wp2_with fail
      go_ret
      exact ⟨by simp, hk.below _ (Nat.le_refl _) (by simp)⟩

end Go.Proofs.Ytmiihcaccejklaa
