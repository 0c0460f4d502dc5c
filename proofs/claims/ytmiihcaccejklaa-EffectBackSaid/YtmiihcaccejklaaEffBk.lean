/- PROVED: the walk of keepsakelaw15.EffectBack. No conditions beyond those that each theorem states. -/
import Derived.Test.YtmiihcaccejklaaEffWk
import Derived.Test.YtmiihcaccejklaaEffI
import Derived.Laws.Rows
import Derived.Deep.RegionHeld3
import Derived.Deep.CutRange
namespace Go.Proofs.Ytmiihcaccejklaa
open Go.RowKit Go.Proofs.YtmiihcaccejklaaLib
set_option linter.unusedSimpArgs false
set_option linter.unusedVariables false

def rbox (r : Regs) : Obj := .cells #[.int .u8 r.a, .int .u8 r.x, .int .u8 r.y, .int .u8 r.s, .int .u8 r.p, .int .u16 r.pc] 29 (0, 0)
theorem innerM_INX (r : Regs) : innerM [73, 78, 88] r = { r with x := (r.x + 1) % 256, p := nzM r.p ((r.x + 1) % 256) } := by rfl
theorem innerM_DEX (r : Regs) : innerM [68, 69, 88] r = { r with x := (r.x - 1) % 256, p := nzM r.p ((r.x - 1) % 256) } := by rfl
theorem innerM_SED (r : Regs) : innerM [83, 69, 68] r = { r with p := setF r.p 8 true } := by rfl
theorem innerM_CLD (r : Regs) : innerM [67, 76, 68] r = { r with p := setF r.p 8 false } := by rfl
theorem innerM_TSX (r : Regs) : innerM [84, 83, 88] r = { r with x := r.s, p := nzM r.p r.s } := by rfl
theorem innerM_TXS (r : Regs) : innerM [84, 88, 83] r = { r with s := r.x } := by rfl
theorem modifiesM_INC (r : Regs) (m : Int) : modifiesM [73, 78, 67] r m = ({ r with p := nzM r.p ((m + 1) % 256) }, (m + 1) % 256) := by rfl
theorem modifiesM_DEC (r : Regs) (m : Int) : modifiesM [68, 69, 67] r m = ({ r with p := nzM r.p ((m - 1) % 256) }, (m - 1) % 256) := by rfl
set_option maxRecDepth 100000 in
theorem back_p {p : Int} (hp : Byte p) : setF (setF (setF (setF p 16 true) 32 true) 16 false) 32 true = setF (setF p 16 false) 32 true := byte_cases (P := fun p => setF (setF (setF (setF p 16 true) 32 true) 16 false) 32 true = setF (setF p 16 false) 32 true) (by decide) p hp.1 hp.2
set_option maxRecDepth 100000 in
theorem back_d {p : Int} (hp : Byte p) : setF (setF p 8 true) 8 false = setF p 8 false := byte_cases (P := fun p => setF (setF p 8 true) 8 false = setF p 8 false) (by decide) p hp.1 hp.2
theorem pushesX_PHA (w : World) (r : Regs) : Calls Try.prog 18 #[.string ⟨#[80, 72, 65]⟩, r.val] w fun e W => e = .returned (.int .u8 r.a) ∧ w.alloc (rbox r) = W := by
  obtain ⟨a, x, y, s, p, pc⟩ := r
  unfold Regs.val
  go_enter Try.func18, Try.ntmps18
  go_wp2_with fail
  go_returns
  exact ⟨rfl, rfl⟩
theorem pushesX_PHP (w : World) (r : Regs) (hp : Byte r.p) : Calls Try.prog 18 #[.string ⟨#[80, 72, 80]⟩, r.val] w fun e W => e = .returned (.int .u8 (setF (setF r.p 16 true) 32 true)) ∧ w.alloc (rbox r) = W := by
  obtain ⟨a, x, y, s, p, pc⟩ := r
  have hp : Byte p := hp
  unfold Regs.val
  have e1 := or_flag 16 (by simp [IsFlag]) p hp.1 hp.2
  have e2 := or_flag 32 (by simp [IsFlag]) _ (setF_b (b := true) (f := 16) (by simp [IsFlag]) hp).1 (setF_b (by simp [IsFlag]) hp).2
  go_enter Try.func18, Try.ntmps18
  go_wp2_with fail
  go_returns
  exact ⟨rfl, rfl⟩
theorem pullsX_PLA (w : World) (r : Regs) (m : Int) (hp : Byte r.p) : Calls Try.prog 20 #[.string ⟨#[80, 76, 65]⟩, r.val, .int .u8 m] w fun e W => e = .returned ({ r with a := m, p := nzM r.p m } : Regs).val ∧ (w.alloc (rbox { r with a := m, p := nzM r.p m })).alloc (rbox { r with a := m, p := nzM r.p m }) = W := by
  obtain ⟨a, x, y, s, p, pc⟩ := r
  have hp : Byte p := hp
  unfold Regs.val
  go_enter Try.func20, Try.ntmps20
  go_wp2_with fail
  refine (set_any _ _ _ _ _ _ (((Blk.new w 29 [.int .u8 a, .int .u8 x, .int .u8 y, .int .u8 s, .int .u8 p, .int .u16 pc]).alloc _).cell 0 rfl) (((Blk.new w 29 [.int .u8 a, .int .u8 x, .int .u8 y, .int .u8 s, .int .u8 p, .int .u16 pc]).alloc _).cell 4 rfl) (((Blk.new w 29 [.int .u8 a, .int .u8 x, .int .u8 y, .int .u8 s, .int .u8 p, .int .u16 pc]).alloc _).free 0) (((Blk.new w 29 [.int .u8 a, .int .u8 x, .int .u8 y, .int .u8 s, .int .u8 p, .int .u16 pc]).alloc _).free 4) (by simp) hp.1 hp.2).mono ?_
  rintro _ _ ⟨rfl, rfl⟩
  go_wp2_with fail
  go_returns
  exact ⟨rfl, rfl⟩
theorem pullsX_PLP (w : World) (r : Regs) (m : Int) (hm : Byte m) : Calls Try.prog 20 #[.string ⟨#[80, 76, 80]⟩, r.val, .int .u8 m] w fun e W => e = .returned ({ r with p := setF (setF m 16 false) 32 true } : Regs).val ∧ (w.alloc (rbox { r with p := setF (setF m 16 false) 32 true })).alloc (rbox { r with p := setF (setF m 16 false) 32 true }) = W := by
  obtain ⟨a, x, y, s, p, pc⟩ := r
  unfold Regs.val
  have e1 := andNot_flag 16 (by simp [IsFlag]) m hm.1 hm.2
  have e2 := or_flag 32 (by simp [IsFlag]) _ (setF_b (b := false) (f := 16) (by simp [IsFlag]) hm).1 (setF_b (by simp [IsFlag]) hm).2
  go_enter Try.func20, Try.ntmps20
  go_wp2_with fail
  go_returns
  exact ⟨rfl, rfl⟩

set_option maxHeartbeats 4000000 in
theorem EffectBack_walk (w : World) (r : Regs) (m : Int) (hr : r.Ok) (hm : Byte m) :
    Calls Try.prog 9 #[r.val, .int .u8 m] w fun e W => e = .returned (.bool true) ∧ Below w.heap.size w W := by
  obtain ⟨a, x, y, s, p, pc⟩ := r
  obtain ⟨ha, hx, hy, hs, hp, hpc⟩ := hr
  unfold Regs.val
  go_enter Try.func9, Try.ntmps9
  go_wp2_with fail
  refine (awake_any _).mono ?_
  rintro _ w1 ⟨_, rfl, rfl, k1⟩
  have hbr := (Blk.new w 29 [.int .u8 a, .int .u8 x, .int .u8 y, .int .u8 s, .int .u8 p, .int .u16 pc]).kept k1 (by simp)
  have hk : Kept w w1 [] := Kept.trans (Kept.alloc (Kept.refl _ _) _) k1 (by simp)
  have hz : w.heap.size + 1 ≤ w1.heap.size := by have := k1.size; simpa using this
  clear k1
  go_upto_region 2 with fail
  go_cut [6] from 16 to 95 (fun v wx => ∃ b, v = .pointer (some ⟨b, 0, none⟩) ∧ w.heap.size < b ∧ Blk wx b 29 [.int .u8 a, .int .u8 x, .int .u8 y, .int .u8 s, .int .u8 (nzM p a), .int .u16 pc] ∧ Blk wx w.heap.size 29 [.int .u8 a, .int .u8 x, .int .u8 y, .int .u8 s, .int .u8 p, .int .u16 pc] ∧ Kept w wx [] ∧ b < wx.heap.size)
  case first =>
    have c0 := hbr.cell 0 rfl
    have c1 := hbr.cell 1 rfl
    have c2 := hbr.cell 2 rfl
    have c3 := hbr.cell 3 rfl
    have c4 := hbr.cell 4 rfl
    have c5 := hbr.cell 5 rfl
    go_region_held3 (fun W => W.cell? ⟨w.heap.size, 0, none⟩ = some (.int .u8 a) ∧ W.cell? ⟨w.heap.size, 1, none⟩ = some (.int .u8 x) ∧ W.cell? ⟨w.heap.size, 2, none⟩ = some (.int .u8 y) ∧ W.cell? ⟨w.heap.size, 3, none⟩ = some (.int .u8 s) ∧ W.cell? ⟨w.heap.size, 4, none⟩ = some (.int .u8 p) ∧ W.cell? ⟨w.heap.size, 5, none⟩ = some (.int .u16 pc)) (first | (have hb : ∀ W, Blk W w.heap.size 29 [.int .u8 a, .int .u8 x, .int .u8 y, .int .u8 s, .int .u8 p, .int .u16 pc] → (fun W => W.cell? ⟨w.heap.size, 0, none⟩ = some (.int .u8 a) ∧ W.cell? ⟨w.heap.size, 1, none⟩ = some (.int .u8 x) ∧ W.cell? ⟨w.heap.size, 2, none⟩ = some (.int .u8 y) ∧ W.cell? ⟨w.heap.size, 3, none⟩ = some (.int .u8 s) ∧ W.cell? ⟨w.heap.size, 4, none⟩ = some (.int .u8 p) ∧ W.cell? ⟨w.heap.size, 5, none⟩ = some (.int .u16 pc)) W := fun W h => ⟨h.cell 0 rfl, h.cell 1 rfl, h.cell 2 rfl, h.cell 3 rfl, h.cell 4 rfl, h.cell 5 rfl⟩; apply hb; clear hb; (repeat (first |  (with_reducible exact hbr) | (refine Blk.top _ _ ?_ _ _; simp; done) | with_reducible refine Blk.drew ?_ | with_reducible refine Blk.alloc ?_ _)); done) | go_keep) (first | (go_at_call 18; refine (pushesX_PHA _ ⟨a, x, y, s, p, pc⟩).mono ?_; rintro _ _ ⟨rfl, rfl⟩; unfold rbox; simp only []) | (go_at_call 20; refine (pullsX_PLA _ ⟨a, x, y, s, p, pc⟩ _ hp).mono ?_; rintro _ _ ⟨rfl, rfl⟩; unfold rbox Regs.val; simp only []))
    all_goals (
      simp only [Exit.then]
      go_step
      go_meet
      case rel => exact ⟨_, rfl, by first | omega | (simp <;> omega), (by (repeat (first |  (with_reducible exact hbr) | (refine Blk.top _ _ ?_ _ _; simp; done) | with_reducible refine Blk.drew ?_ | with_reducible refine Blk.alloc ?_ _))), (by (repeat (first |  (with_reducible exact hbr) | (refine Blk.top _ _ ?_ _ _; simp; done) | with_reducible refine Blk.drew ?_ | with_reducible refine Blk.alloc ?_ _))), by repeat (first | (with_reducible exact hk) | with_reducible apply Kept.alloc | with_reducible apply Kept.drew), by first | omega | (simp <;> omega)⟩)
  case rest =>
    obtain ⟨b, rfl, hb0, hba, hbr, hk, hb1⟩ := hcut
    clear hz
    have hq : Byte (setF (setF p 16 true) 32 true) := setF_b (by simp [IsFlag]) (setF_b (by simp [IsFlag]) hp)
    have hz : w.heap.size + 1 ≤ wc.heap.size := by have := hbr.lt; omega
    go_upto_region 3 with fail
    go_cut [7] from 16 to 95 (fun v wx => ∃ b2, v = .pointer (some ⟨b2, 0, none⟩) ∧ w.heap.size < b2 ∧ Blk wx b2 29 [.int .u8 a, .int .u8 x, .int .u8 y, .int .u8 s, .int .u8 (setF (setF (setF (setF p 16 true) 32 true) 16 false) 32 true), .int .u16 pc] ∧ Blk wx b 29 [.int .u8 a, .int .u8 x, .int .u8 y, .int .u8 s, .int .u8 (nzM p a), .int .u16 pc] ∧ Blk wx w.heap.size 29 [.int .u8 a, .int .u8 x, .int .u8 y, .int .u8 s, .int .u8 p, .int .u16 pc] ∧ Kept w wx [] ∧ b2 < wx.heap.size)
    case first =>
      have c0 := hbr.cell 0 rfl
      have c1 := hbr.cell 1 rfl
      have c2 := hbr.cell 2 rfl
      have c3 := hbr.cell 3 rfl
      have c4 := hbr.cell 4 rfl
      have c5 := hbr.cell 5 rfl
      go_region_held3 (fun W => W.cell? ⟨w.heap.size, 0, none⟩ = some (.int .u8 a) ∧ W.cell? ⟨w.heap.size, 1, none⟩ = some (.int .u8 x) ∧ W.cell? ⟨w.heap.size, 2, none⟩ = some (.int .u8 y) ∧ W.cell? ⟨w.heap.size, 3, none⟩ = some (.int .u8 s) ∧ W.cell? ⟨w.heap.size, 4, none⟩ = some (.int .u8 p) ∧ W.cell? ⟨w.heap.size, 5, none⟩ = some (.int .u16 pc)) (first | (have hb : ∀ W, Blk W w.heap.size 29 [.int .u8 a, .int .u8 x, .int .u8 y, .int .u8 s, .int .u8 p, .int .u16 pc] → (fun W => W.cell? ⟨w.heap.size, 0, none⟩ = some (.int .u8 a) ∧ W.cell? ⟨w.heap.size, 1, none⟩ = some (.int .u8 x) ∧ W.cell? ⟨w.heap.size, 2, none⟩ = some (.int .u8 y) ∧ W.cell? ⟨w.heap.size, 3, none⟩ = some (.int .u8 s) ∧ W.cell? ⟨w.heap.size, 4, none⟩ = some (.int .u8 p) ∧ W.cell? ⟨w.heap.size, 5, none⟩ = some (.int .u16 pc)) W := fun W h => ⟨h.cell 0 rfl, h.cell 1 rfl, h.cell 2 rfl, h.cell 3 rfl, h.cell 4 rfl, h.cell 5 rfl⟩; apply hb; clear hb; (repeat (first | (with_reducible exact hba) | (with_reducible exact hbr) | (refine Blk.top _ _ ?_ _ _; simp; done) | with_reducible refine Blk.drew ?_ | with_reducible refine Blk.alloc ?_ _)); done) | go_keep) (first | (go_at_call 18; refine (pushesX_PHP _ ⟨a, x, y, s, p, pc⟩ hp).mono ?_; rintro _ _ ⟨rfl, rfl⟩; unfold rbox; simp only []) | (go_at_call 20; refine (pullsX_PLP _ ⟨a, x, y, s, p, pc⟩ _ hq).mono ?_; rintro _ _ ⟨rfl, rfl⟩; unfold rbox Regs.val; simp only []))
      all_goals (
        simp only [Exit.then]
        go_step
        go_meet
        case rel => exact ⟨_, rfl, by first | omega | (simp <;> omega), (by (repeat (first | (with_reducible exact hba) | (with_reducible exact hbr) | (refine Blk.top _ _ ?_ _ _; simp; done) | with_reducible refine Blk.drew ?_ | with_reducible refine Blk.alloc ?_ _))), (by (repeat (first | (with_reducible exact hba) | (with_reducible exact hbr) | (refine Blk.top _ _ ?_ _ _; simp; done) | with_reducible refine Blk.drew ?_ | with_reducible refine Blk.alloc ?_ _))), (by (repeat (first | (with_reducible exact hba) | (with_reducible exact hbr) | (refine Blk.top _ _ ?_ _ _; simp; done) | with_reducible refine Blk.drew ?_ | with_reducible refine Blk.alloc ?_ _))), by repeat (first | (with_reducible exact hk) | with_reducible apply Kept.alloc | with_reducible apply Kept.drew), by first | omega | (simp <;> omega)⟩)
    case rest =>
      obtain ⟨b2, rfl, hc0, hbb, hba, hbr, hk, hc1⟩ := hcut
      clear hz hb1
      have c0 := hbr.cell 0 rfl
      have c1 := hbr.cell 1 rfl
      have c2 := hbr.cell 2 rfl
      have c3 := hbr.cell 3 rfl
      have c4 := hbr.cell 4 rfl
      have c5 := hbr.cell 5 rfl
      go_wp2_with fail
      refine (inner_any _ ⟨#[73, 78, 88]⟩ ⟨a, x, y, s, p, pc⟩ ⟨ha, hx, hy, hs, hp, hpc⟩).mono ?_
      rintro _ k1w ⟨_, rfl, rfl, k1⟩
      rw [ByteArray.toList_eq, innerM_INX]
      go_wp2_with fail
      refine (inner_any _ ⟨#[68, 69, 88]⟩ ⟨a, ((x + 1) % 256), y, s, (nzM p ((x + 1) % 256)), pc⟩ (ok_mk ha (mod_b _) hy hs (nzM_b hp) hpc)).mono ?_
      rintro _ k2w ⟨_, rfl, rfl, k2⟩
      rw [ByteArray.toList_eq, innerM_DEX]
      unfold Regs.val
      simp only []
      go_upto_region 5 with fail
      obtain ⟨b4, hb4⟩ : ∃ b4, k2w.heap.size = b4 := ⟨_, rfl⟩
      refine open_world (fun W => Blk W w.heap.size 29 [.int .u8 a, .int .u8 x, .int .u8 y, .int .u8 s, .int .u8 p, .int .u16 pc] ∧ Blk W b 29 [.int .u8 a, .int .u8 x, .int .u8 y, .int .u8 s, .int .u8 (nzM p a), .int .u16 pc] ∧ Blk W b2 29 [.int .u8 a, .int .u8 x, .int .u8 y, .int .u8 s, .int .u8 (setF (setF (setF (setF p 16 true) 32 true) 16 false) 32 true), .int .u16 pc] ∧ Blk W k2w.heap.size 29 [.int .u8 (a), .int .u8 ((x % 256)), .int .u8 (y), .int .u8 (s), .int .u8 ((nzM (nzM p ((x + 1) % 256)) (x % 256))), .int .u16 (pc)] ∧ Kept w W []) ⟨((hbr.kept k1 (by simp)).kept k2 (by simp)).alloc _, ((hba.kept k1 (by simp)).kept k2 (by simp)).alloc _, ((hbb.kept k1 (by simp)).kept k2 (by simp)).alloc _, Blk.new _ _ _, Kept.alloc (Kept.trans (Kept.trans hk k1 (by simp)) k2 (by simp)) _⟩ ?_
      clear hbr hba hbb hk k1 k2
      rintro wd4 ⟨hbr, hba, hbb, hbc, hk⟩
      rw [hb4] at hbc ⊢
      clear hb4
      clear c0 c1 c2 c3 c4 c5
      have c0 := hbr.cell 0 rfl
      have c1 := hbr.cell 1 rfl
      have c2 := hbr.cell 2 rfl
      have c3 := hbr.cell 3 rfl
      have c4 := hbr.cell 4 rfl
      have c5 := hbr.cell 5 rfl
      go_wp2_with fail
      refine (modifies_any _ ⟨#[73, 78, 67]⟩ ⟨a, x, y, s, p, pc⟩ m ⟨ha, hx, hy, hs, hp, hpc⟩ hm).mono ?_
      rintro _ k1w ⟨_, rfl, rfl, k1⟩
      rw [ByteArray.toList_eq, modifiesM_INC]
      unfold Regs.val
      simp only []
      go_upto_region 6 with fail
      obtain ⟨b5, hb5⟩ : ∃ b5, k1w.heap.size = b5 := ⟨_, rfl⟩
      refine open_world (fun W => Blk W w.heap.size 29 [.int .u8 a, .int .u8 x, .int .u8 y, .int .u8 s, .int .u8 p, .int .u16 pc] ∧ Blk W b 29 [.int .u8 a, .int .u8 x, .int .u8 y, .int .u8 s, .int .u8 (nzM p a), .int .u16 pc] ∧ Blk W b2 29 [.int .u8 a, .int .u8 x, .int .u8 y, .int .u8 s, .int .u8 (setF (setF (setF (setF p 16 true) 32 true) 16 false) 32 true), .int .u16 pc] ∧ Blk W b4 29 [.int .u8 (a), .int .u8 ((x % 256)), .int .u8 (y), .int .u8 (s), .int .u8 ((nzM (nzM p ((x + 1) % 256)) (x % 256))), .int .u16 (pc)] ∧ Blk W k1w.heap.size 29 [.int .u8 (a), .int .u8 (x), .int .u8 (y), .int .u8 (s), .int .u8 (nzM p ((m + 1) % 256)), .int .u16 (pc)] ∧ Kept w W []) ⟨(hbr.kept k1 (by simp)).alloc _, (hba.kept k1 (by simp)).alloc _, (hbb.kept k1 (by simp)).alloc _, (hbc.kept k1 (by simp)).alloc _, Blk.new _ _ _, Kept.alloc (Kept.trans hk k1 (by simp)) _⟩ ?_
      clear hbr hba hbb hbc hk k1
      rintro wd5 ⟨hbr, hba, hbb, hbc, hbd, hk⟩
      rw [hb5] at hbd ⊢
      clear hb5
      clear c0 c1 c2 c3 c4 c5
      have c0 := hbr.cell 0 rfl
      have c1 := hbr.cell 1 rfl
      have c2 := hbr.cell 2 rfl
      have c3 := hbr.cell 3 rfl
      have c4 := hbr.cell 4 rfl
      have c5 := hbr.cell 5 rfl
      go_wp2_with fail
      refine (modifies_any _ ⟨#[68, 69, 67]⟩ ⟨a, x, y, s, p, pc⟩ ((m + 1) % 256) ⟨ha, hx, hy, hs, hp, hpc⟩ (mod_b _)).mono ?_
      rintro _ k1w ⟨_, rfl, rfl, k1⟩
      rw [ByteArray.toList_eq, modifiesM_DEC]
      unfold Regs.val
      simp only []
      go_upto_region 7 with fail
      obtain ⟨b6, hb6⟩ : ∃ b6, k1w.heap.size = b6 := ⟨_, rfl⟩
      refine open_world (fun W => Blk W w.heap.size 29 [.int .u8 a, .int .u8 x, .int .u8 y, .int .u8 s, .int .u8 p, .int .u16 pc] ∧ Blk W b 29 [.int .u8 a, .int .u8 x, .int .u8 y, .int .u8 s, .int .u8 (nzM p a), .int .u16 pc] ∧ Blk W b2 29 [.int .u8 a, .int .u8 x, .int .u8 y, .int .u8 s, .int .u8 (setF (setF (setF (setF p 16 true) 32 true) 16 false) 32 true), .int .u16 pc] ∧ Blk W b4 29 [.int .u8 (a), .int .u8 ((x % 256)), .int .u8 (y), .int .u8 (s), .int .u8 ((nzM (nzM p ((x + 1) % 256)) (x % 256))), .int .u16 (pc)] ∧ Blk W b5 29 [.int .u8 (a), .int .u8 (x), .int .u8 (y), .int .u8 (s), .int .u8 (nzM p ((m + 1) % 256)), .int .u16 (pc)] ∧ Blk W k1w.heap.size 29 [.int .u8 (a), .int .u8 (x), .int .u8 (y), .int .u8 (s), .int .u8 (nzM p (m % 256)), .int .u16 (pc)] ∧ Kept w W []) ⟨(hbr.kept k1 (by simp)).alloc _, (hba.kept k1 (by simp)).alloc _, (hbb.kept k1 (by simp)).alloc _, (hbc.kept k1 (by simp)).alloc _, (hbd.kept k1 (by simp)).alloc _, Blk.new _ _ _, Kept.alloc (Kept.trans hk k1 (by simp)) _⟩ ?_
      clear hbr hba hbb hbc hbd hk k1
      rintro wd6 ⟨hbr, hba, hbb, hbc, hbd, hbe, hk⟩
      rw [hb6] at hbe ⊢
      clear hb6
      clear c0 c1 c2 c3 c4 c5
      have c0 := hbr.cell 0 rfl
      have c1 := hbr.cell 1 rfl
      have c2 := hbr.cell 2 rfl
      have c3 := hbr.cell 3 rfl
      have c4 := hbr.cell 4 rfl
      have c5 := hbr.cell 5 rfl
      go_wp2_with fail
      refine (inner_any _ ⟨#[83, 69, 68]⟩ ⟨a, x, y, s, p, pc⟩ ⟨ha, hx, hy, hs, hp, hpc⟩).mono ?_
      rintro _ k1w ⟨_, rfl, rfl, k1⟩
      rw [ByteArray.toList_eq, innerM_SED]
      go_wp2_with fail
      refine (inner_any _ ⟨#[67, 76, 68]⟩ ⟨a, x, y, s, (setF p 8 true), pc⟩ (ok_mk ha hx hy hs (setF_b (by simp [IsFlag]) hp) hpc)).mono ?_
      rintro _ k2w ⟨_, rfl, rfl, k2⟩
      rw [ByteArray.toList_eq, innerM_CLD]
      unfold Regs.val
      simp only []
      go_upto_region 8 with fail
      obtain ⟨b7, hb7⟩ : ∃ b7, k2w.heap.size = b7 := ⟨_, rfl⟩
      refine open_world (fun W => Blk W w.heap.size 29 [.int .u8 a, .int .u8 x, .int .u8 y, .int .u8 s, .int .u8 p, .int .u16 pc] ∧ Blk W b 29 [.int .u8 a, .int .u8 x, .int .u8 y, .int .u8 s, .int .u8 (nzM p a), .int .u16 pc] ∧ Blk W b2 29 [.int .u8 a, .int .u8 x, .int .u8 y, .int .u8 s, .int .u8 (setF (setF (setF (setF p 16 true) 32 true) 16 false) 32 true), .int .u16 pc] ∧ Blk W b4 29 [.int .u8 (a), .int .u8 ((x % 256)), .int .u8 (y), .int .u8 (s), .int .u8 ((nzM (nzM p ((x + 1) % 256)) (x % 256))), .int .u16 (pc)] ∧ Blk W b5 29 [.int .u8 (a), .int .u8 (x), .int .u8 (y), .int .u8 (s), .int .u8 (nzM p ((m + 1) % 256)), .int .u16 (pc)] ∧ Blk W b6 29 [.int .u8 (a), .int .u8 (x), .int .u8 (y), .int .u8 (s), .int .u8 (nzM p (m % 256)), .int .u16 (pc)] ∧ Blk W k2w.heap.size 29 [.int .u8 (a), .int .u8 (x), .int .u8 (y), .int .u8 (s), .int .u8 (setF (setF p 8 true) 8 false), .int .u16 (pc)] ∧ Kept w W []) ⟨((hbr.kept k1 (by simp)).kept k2 (by simp)).alloc _, ((hba.kept k1 (by simp)).kept k2 (by simp)).alloc _, ((hbb.kept k1 (by simp)).kept k2 (by simp)).alloc _, ((hbc.kept k1 (by simp)).kept k2 (by simp)).alloc _, ((hbd.kept k1 (by simp)).kept k2 (by simp)).alloc _, ((hbe.kept k1 (by simp)).kept k2 (by simp)).alloc _, Blk.new _ _ _, Kept.alloc (Kept.trans (Kept.trans hk k1 (by simp)) k2 (by simp)) _⟩ ?_
      clear hbr hba hbb hbc hbd hbe hk k1 k2
      rintro wd7 ⟨hbr, hba, hbb, hbc, hbd, hbe, hbf, hk⟩
      rw [hb7] at hbf ⊢
      clear hb7
      clear c0 c1 c2 c3 c4 c5
      have c0 := hbr.cell 0 rfl
      have c1 := hbr.cell 1 rfl
      have c2 := hbr.cell 2 rfl
      have c3 := hbr.cell 3 rfl
      have c4 := hbr.cell 4 rfl
      have c5 := hbr.cell 5 rfl
      go_wp2_with fail
      refine (inner_any _ ⟨#[84, 83, 88]⟩ ⟨a, x, y, s, p, pc⟩ ⟨ha, hx, hy, hs, hp, hpc⟩).mono ?_
      rintro _ k1w ⟨_, rfl, rfl, k1⟩
      rw [ByteArray.toList_eq, innerM_TSX]
      go_wp2_with fail
      refine (inner_any _ ⟨#[84, 88, 83]⟩ ⟨a, s, y, s, (nzM p s), pc⟩ (ok_mk ha hs hy hs (nzM_b hp) hpc)).mono ?_
      rintro _ k2w ⟨_, rfl, rfl, k2⟩
      rw [ByteArray.toList_eq, innerM_TXS]
      unfold Regs.val
      simp only []
      go_upto_region 9 with fail
      obtain ⟨b8, hb8⟩ : ∃ b8, k2w.heap.size = b8 := ⟨_, rfl⟩
      refine open_world (fun W => Blk W w.heap.size 29 [.int .u8 a, .int .u8 x, .int .u8 y, .int .u8 s, .int .u8 p, .int .u16 pc] ∧ Blk W b 29 [.int .u8 a, .int .u8 x, .int .u8 y, .int .u8 s, .int .u8 (nzM p a), .int .u16 pc] ∧ Blk W b2 29 [.int .u8 a, .int .u8 x, .int .u8 y, .int .u8 s, .int .u8 (setF (setF (setF (setF p 16 true) 32 true) 16 false) 32 true), .int .u16 pc] ∧ Blk W b4 29 [.int .u8 (a), .int .u8 ((x % 256)), .int .u8 (y), .int .u8 (s), .int .u8 ((nzM (nzM p ((x + 1) % 256)) (x % 256))), .int .u16 (pc)] ∧ Blk W b5 29 [.int .u8 (a), .int .u8 (x), .int .u8 (y), .int .u8 (s), .int .u8 (nzM p ((m + 1) % 256)), .int .u16 (pc)] ∧ Blk W b6 29 [.int .u8 (a), .int .u8 (x), .int .u8 (y), .int .u8 (s), .int .u8 (nzM p (m % 256)), .int .u16 (pc)] ∧ Blk W b7 29 [.int .u8 (a), .int .u8 (x), .int .u8 (y), .int .u8 (s), .int .u8 (setF (setF p 8 true) 8 false), .int .u16 (pc)] ∧ Blk W k2w.heap.size 29 [.int .u8 (a), .int .u8 (s), .int .u8 (y), .int .u8 (s), .int .u8 (nzM p s), .int .u16 (pc)] ∧ Kept w W []) ⟨((hbr.kept k1 (by simp)).kept k2 (by simp)).alloc _, ((hba.kept k1 (by simp)).kept k2 (by simp)).alloc _, ((hbb.kept k1 (by simp)).kept k2 (by simp)).alloc _, ((hbc.kept k1 (by simp)).kept k2 (by simp)).alloc _, ((hbd.kept k1 (by simp)).kept k2 (by simp)).alloc _, ((hbe.kept k1 (by simp)).kept k2 (by simp)).alloc _, ((hbf.kept k1 (by simp)).kept k2 (by simp)).alloc _, Blk.new _ _ _, Kept.alloc (Kept.trans (Kept.trans hk k1 (by simp)) k2 (by simp)) _⟩ ?_
      clear hbr hba hbb hbc hbd hbe hbf hk k1 k2
      rintro wd8 ⟨hbr, hba, hbb, hbc, hbd, hbe, hbf, hbg, hk⟩
      rw [hb8] at hbg ⊢
      clear hb8
      clear c0 c1 c2 c3 c4 c5
      have c0 := hbr.cell 0 rfl
      have c1 := hbr.cell 1 rfl
      have c3 := hbr.cell 3 rfl
      have c4 := hbr.cell 4 rfl
      have fhba0 := hba.cell 0 rfl
      have fhbb4 := hbb.cell 4 rfl
      have fhbc1 := hbc.cell 1 rfl
      have fhbf4 := hbf.cell 4 rfl
      have fhbg3 := hbg.cell 3 rfl
      have fhbg1 := hbg.cell 1 rfl
      have e1 := andNot_flag 16 (by simp [IsFlag]) p hp.1 hp.2
      have e2 := or_flag 32 (by simp [IsFlag]) _ (setF_b (b := false) (f := 16) (by simp [IsFlag]) hp).1 (setF_b (by simp [IsFlag]) hp).2
      have e3 := andNot_flag 8 (by simp [IsFlag]) p hp.1 hp.2
      have e4 := back_p hp
      have e5 := back_d hp
      have e6 : x % 256 = x := by have := hx; unfold Byte at this; omega
      have e7 : m % 256 = m := by have := hm; unfold Byte at this; omega
      rw [e4] at fhbb4
      rw [e5] at fhbf4
      rw [e6] at fhbc1
      clear hba hbb hbc hbd hbe hbf hbg hbr
      go_wp2_with fail
      go_ret
      exact ⟨by simp, hk.below _ (Nat.le_refl _) (by simp)⟩
end Go.Proofs.Ytmiihcaccejklaa
