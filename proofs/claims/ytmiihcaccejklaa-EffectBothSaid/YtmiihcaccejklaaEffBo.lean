/- PROVED: the walk of keepsakelaw15.EffectBoth. No conditions beyond those that each theorem states. -/
import Derived.Test.YtmiihcaccejklaaEffWk
import Derived.Test.YtmiihcaccejklaaEffI
import Derived.Laws.Rows
import Derived.Deep.RegionHeld3
import Derived.Deep.CutRange
namespace Go.Proofs.Ytmiihcaccejklaa
open Go.RowKit Go.Proofs.YtmiihcaccejklaaLib
set_option linter.unusedSimpArgs false
set_option linter.unusedVariables false

theorem readsM_LAX (r : Regs) (m : Int) : readsM [76, 65, 88] r m = { r with a := m, x := m, p := nzM r.p m } := by rfl
theorem readsM_LDX (r : Regs) (m : Int) : readsM [76, 68, 88] r m = { r with x := m, p := nzM r.p m } := by rfl
theorem readsM_LDA (r : Regs) (m : Int) : readsM [76, 68, 65] r m = { r with a := m, p := nzM r.p m } := by rfl
theorem writesM_SAX (r : Regs) (m : Int) : writesM [83, 65, 88] r m = (r, bits .and .u8 r.a r.x) := by rfl
set_option maxRecDepth 100000 in
theorem nz_b (b c : Bool) {p : Int} (hp : Byte p) : setF (setF (setF (setF p 128 b) 2 c) 128 b) 2 c = setF (setF p 128 b) 2 c := by
  cases b <;> cases c
  · exact byte_cases (P := fun p => setF (setF (setF (setF p 128 false) 2 false) 128 false) 2 false = setF (setF p 128 false) 2 false) (by decide) p hp.1 hp.2
  · exact byte_cases (P := fun p => setF (setF (setF (setF p 128 false) 2 true) 128 false) 2 true = setF (setF p 128 false) 2 true) (by decide) p hp.1 hp.2
  · exact byte_cases (P := fun p => setF (setF (setF (setF p 128 true) 2 false) 128 true) 2 false = setF (setF p 128 true) 2 false) (by decide) p hp.1 hp.2
  · exact byte_cases (P := fun p => setF (setF (setF (setF p 128 true) 2 true) 128 true) 2 true = setF (setF p 128 true) 2 true) (by decide) p hp.1 hp.2
theorem nz_nz {p : Int} (hp : Byte p) (v : Int) : nzM (nzM p v) v = nzM p v := by
  unfold nzM
  exact nz_b _ _ hp
set_option maxHeartbeats 8000000 in
theorem EffectBoth_walk (w : World) (r : Regs) (m : Int) (hr : r.Ok) (hm : Byte m) :
    Calls Try.prog 6 #[r.val, .int .u8 m] w fun e W => e = .returned (.bool true) ∧ Below w.heap.size w W := by
  obtain ⟨a, x, y, s, p, pc⟩ := r
  obtain ⟨ha, hx, hy, hs, hp, hpc⟩ := hr
  unfold Regs.val
  go_enter Try.func6, Try.ntmps6
  go_wp2_with fail
  refine (awake_any _).mono ?_
  rintro _ w1 ⟨_, rfl, rfl, k1⟩
  have hbr := (Blk.new w 29 [.int .u8 a, .int .u8 x, .int .u8 y, .int .u8 s, .int .u8 p, .int .u16 pc]).kept k1 (by simp)
  have hk : Kept w w1 [] := Kept.trans (Kept.alloc (Kept.refl _ _) _) k1 (by simp)
  have hz : w.heap.size + 1 ≤ w1.heap.size := by have := k1.size; simpa using this
  clear k1
  replace hz := Lib.hid hz
  go_wp2_with fail
  go_loopg [9] 4 (fun g i wr => ∃ k : Nat, k + g = 4 ∧ i = .int .i64 k ∧ Blk wr w.heap.size 29 [.int .u8 a, .int .u8 x, .int .u8 y, .int .u8 s, .int .u8 p, .int .u16 pc] ∧ Blk wr w1.heap.size 9 [.string ⟨#[83, 76, 79]⟩, .string ⟨#[82, 76, 65]⟩, .string ⟨#[83, 82, 69]⟩, .string ⟨#[82, 82, 65]⟩] ∧ Blk wr (w1.heap.size + 1) 9 [.string ⟨#[65, 83, 76]⟩, .string ⟨#[82, 79, 76]⟩, .string ⟨#[76, 83, 82]⟩, .string ⟨#[82, 79, 82]⟩] ∧ Blk wr (w1.heap.size + 1 + 1) 9 [.string ⟨#[79, 82, 65]⟩, .string ⟨#[65, 78, 68]⟩, .string ⟨#[69, 79, 82]⟩, .string ⟨#[65, 68, 67]⟩] ∧ Kept w wr [])
  case atStart => exact ⟨0, by omega, rfl, ((hbr.alloc _).alloc _).alloc _, ((Blk.new _ _ _).alloc _).alloc _, (Blk.second _ _ _ _).alloc _, Blk.third _ _ _ _ _, ((hk.alloc _).alloc _).alloc _⟩
  case round =>
    obtain ⟨k, hk4, rfl, hbr, hbx, hby, hbz, hkept⟩ := hrel
    have l0 := hbr.lt
    have l1 := hbx.lt
    have l2 := hby.lt
    have l3 := hbz.lt
    have hcases : k = 0 ∨ k = 1 ∨ k = 2 ∨ k = 3 ∨ k = 4 := by omega
    rcases hcases with rfl | rfl | rfl | rfl | rfl
    · obtain ⟨M1, h1⟩ : ∃ M, modifiesM [83, 76, 79] ⟨a, x, y, s, p, pc⟩ m = M := ⟨_, rfl⟩
      obtain ⟨M2, h2⟩ : ∃ M, modifiesM [65, 83, 76] ⟨a, x, y, s, p, pc⟩ m = M := ⟨_, rfl⟩
      have e12 : M1.2 = M2.2 := by rw [← h1, ← h2]; rfl
      have e11 : readsM [79, 82, 65] M2.1 M2.2 = M1.1 := by rw [← h1, ← h2]; rfl
      have sb := (shift_b hm hp).1
      have okM : M2.1.Ok := by rw [← h2]; exact ok_mk ha hx hy hs sb.2 hpc
      have okb : Byte M2.2 := by rw [← h2]; exact sb.1
      clear sb
      replace e11 := Lib.hid e11
      replace e12 := Lib.hid e12
      replace h1 := Lib.hid h1
      replace h2 := Lib.hid h2
      replace okM := Lib.hid okM
      replace okb := Lib.hid okb
      go_upto_region 8 with fail
      go_cut [10, 11] from 22 to 59 (fun v v2 wx => ∃ nb, v = .pointer (some ⟨nb, 0, none⟩) ∧ v2 = .int .u8 M2.2 ∧ Blk wx nb 29 [.int .u8 M1.1.a, .int .u8 M1.1.x, .int .u8 M1.1.y, .int .u8 M1.1.s, .int .u8 M1.1.p, .int .u16 M1.1.pc] ∧ Blk wx w.heap.size 29 [.int .u8 a, .int .u8 x, .int .u8 y, .int .u8 s, .int .u8 p, .int .u16 pc] ∧ Blk wx w1.heap.size 9 [.string ⟨#[83, 76, 79]⟩, .string ⟨#[82, 76, 65]⟩, .string ⟨#[83, 82, 69]⟩, .string ⟨#[82, 82, 65]⟩] ∧ Blk wx (w1.heap.size + 1) 9 [.string ⟨#[65, 83, 76]⟩, .string ⟨#[82, 79, 76]⟩, .string ⟨#[76, 83, 82]⟩, .string ⟨#[82, 79, 82]⟩] ∧ Blk wx (w1.heap.size + 1 + 1) 9 [.string ⟨#[79, 82, 65]⟩, .string ⟨#[65, 78, 68]⟩, .string ⟨#[69, 79, 82]⟩, .string ⟨#[65, 68, 67]⟩] ∧ Kept w wx [])
      case first =>
        have c0 := hbr.cell 0 rfl
        have c1 := hbr.cell 1 rfl
        have c2 := hbr.cell 2 rfl
        have c3 := hbr.cell 3 rfl
        have c4 := hbr.cell 4 rfl
        have c5 := hbr.cell 5 rfl
        have cs := hbx.cell 0 rfl
        go_region_held3 (fun W => W.cell? ⟨w.heap.size, 0, none⟩ = some (.int .u8 a) ∧ W.cell? ⟨w.heap.size, 1, none⟩ = some (.int .u8 x) ∧ W.cell? ⟨w.heap.size, 2, none⟩ = some (.int .u8 y) ∧ W.cell? ⟨w.heap.size, 3, none⟩ = some (.int .u8 s) ∧ W.cell? ⟨w.heap.size, 4, none⟩ = some (.int .u8 p) ∧ W.cell? ⟨w.heap.size, 5, none⟩ = some (.int .u16 pc) ∧ W.cell? ⟨w1.heap.size, 0, none⟩ = some (.string ⟨#[83, 76, 79]⟩)) (first | (have hb : ∀ W, Blk W w.heap.size 29 [.int .u8 a, .int .u8 x, .int .u8 y, .int .u8 s, .int .u8 p, .int .u16 pc] → Blk W w1.heap.size 9 [.string ⟨#[83, 76, 79]⟩, .string ⟨#[82, 76, 65]⟩, .string ⟨#[83, 82, 69]⟩, .string ⟨#[82, 82, 65]⟩] → (fun W => W.cell? ⟨w.heap.size, 0, none⟩ = some (.int .u8 a) ∧ W.cell? ⟨w.heap.size, 1, none⟩ = some (.int .u8 x) ∧ W.cell? ⟨w.heap.size, 2, none⟩ = some (.int .u8 y) ∧ W.cell? ⟨w.heap.size, 3, none⟩ = some (.int .u8 s) ∧ W.cell? ⟨w.heap.size, 4, none⟩ = some (.int .u8 p) ∧ W.cell? ⟨w.heap.size, 5, none⟩ = some (.int .u16 pc) ∧ W.cell? ⟨w1.heap.size, 0, none⟩ = some (.string ⟨#[83, 76, 79]⟩)) W := fun W h h2 => ⟨h.cell 0 rfl, h.cell 1 rfl, h.cell 2 rfl, h.cell 3 rfl, h.cell 4 rfl, h.cell 5 rfl, h2.cell 0 rfl⟩; apply hb <;> clear hb <;> ((repeat (first | (with_reducible exact hbr2) | (with_reducible exact hbx2) | (with_reducible exact hby2) | (with_reducible exact hbz2) | (with_reducible refine Blk.top _ _ ?_ _ _; simp; done) | with_reducible refine Blk.drew ?_ | with_reducible refine Blk.alloc ?_ _ | (with_reducible refine Blk.far ?_ (by first | omega | (simp <;> omega)) _))); done)) | (have hb : ∀ W, Blk W w.heap.size 29 [.int .u8 a, .int .u8 x, .int .u8 y, .int .u8 s, .int .u8 p, .int .u16 pc] → Blk W w1.heap.size 9 [.string ⟨#[83, 76, 79]⟩, .string ⟨#[82, 76, 65]⟩, .string ⟨#[83, 82, 69]⟩, .string ⟨#[82, 82, 65]⟩] → (fun W => W.cell? ⟨w.heap.size, 0, none⟩ = some (.int .u8 a) ∧ W.cell? ⟨w.heap.size, 1, none⟩ = some (.int .u8 x) ∧ W.cell? ⟨w.heap.size, 2, none⟩ = some (.int .u8 y) ∧ W.cell? ⟨w.heap.size, 3, none⟩ = some (.int .u8 s) ∧ W.cell? ⟨w.heap.size, 4, none⟩ = some (.int .u8 p) ∧ W.cell? ⟨w.heap.size, 5, none⟩ = some (.int .u16 pc) ∧ W.cell? ⟨w1.heap.size, 0, none⟩ = some (.string ⟨#[83, 76, 79]⟩)) W := fun W h h2 => ⟨h.cell 0 rfl, h.cell 1 rfl, h.cell 2 rfl, h.cell 3 rfl, h.cell 4 rfl, h.cell 5 rfl, h2.cell 0 rfl⟩; apply hb <;> clear hb <;> ((repeat (first | (with_reducible exact hbr) | (with_reducible exact hbx) | (with_reducible exact hby) | (with_reducible exact hbz) | (with_reducible refine Blk.top _ _ ?_ _ _; simp; done) | with_reducible refine Blk.drew ?_ | with_reducible refine Blk.alloc ?_ _ | (with_reducible refine Blk.far ?_ (by first | omega | (simp <;> omega)) _))); done)) | go_keep) (first | (
          go_at_call 14
          refine (modifies_any _ ⟨#[83, 76, 79]⟩ ⟨a, x, y, s, p, pc⟩ m ⟨ha, hx, hy, hs, hp, hpc⟩ hm).mono ?_
          rintro _ w2 ⟨_, rfl, rfl, k2⟩
          rw [ByteArray.toList_eq, h1.out]
          have hbr2 : Blk w2 w.heap.size 29 [.int .u8 a, .int .u8 x, .int .u8 y, .int .u8 s, .int .u8 p, .int .u16 pc] := by
            refine Blk.kept ?_ k2 (by simp)
            (repeat (first | (with_reducible exact hbr) | (with_reducible exact hbx) | (with_reducible exact hby) | (with_reducible exact hbz) | (with_reducible refine Blk.top _ _ ?_ _ _; simp; done) | with_reducible refine Blk.drew ?_ | with_reducible refine Blk.alloc ?_ _ | (with_reducible refine Blk.far ?_ (by first | omega | (simp <;> omega)) _)))
          have hbx2 : Blk w2 w1.heap.size 9 [.string ⟨#[83, 76, 79]⟩, .string ⟨#[82, 76, 65]⟩, .string ⟨#[83, 82, 69]⟩, .string ⟨#[82, 82, 65]⟩] := by
            refine Blk.kept ?_ k2 (by simp)
            (repeat (first | (with_reducible exact hbr) | (with_reducible exact hbx) | (with_reducible exact hby) | (with_reducible exact hbz) | (with_reducible refine Blk.top _ _ ?_ _ _; simp; done) | with_reducible refine Blk.drew ?_ | with_reducible refine Blk.alloc ?_ _ | (with_reducible refine Blk.far ?_ (by first | omega | (simp <;> omega)) _)))
          have hby2 : Blk w2 (w1.heap.size + 1) 9 [.string ⟨#[65, 83, 76]⟩, .string ⟨#[82, 79, 76]⟩, .string ⟨#[76, 83, 82]⟩, .string ⟨#[82, 79, 82]⟩] := by
            refine Blk.kept ?_ k2 (by simp)
            (repeat (first | (with_reducible exact hbr) | (with_reducible exact hbx) | (with_reducible exact hby) | (with_reducible exact hbz) | (with_reducible refine Blk.top _ _ ?_ _ _; simp; done) | with_reducible refine Blk.drew ?_ | with_reducible refine Blk.alloc ?_ _ | (with_reducible refine Blk.far ?_ (by first | omega | (simp <;> omega)) _)))
          have hbz2 : Blk w2 (w1.heap.size + 1 + 1) 9 [.string ⟨#[79, 82, 65]⟩, .string ⟨#[65, 78, 68]⟩, .string ⟨#[69, 79, 82]⟩, .string ⟨#[65, 68, 67]⟩] := by
            refine Blk.kept ?_ k2 (by simp)
            (repeat (first | (with_reducible exact hbr) | (with_reducible exact hbx) | (with_reducible exact hby) | (with_reducible exact hbz) | (with_reducible refine Blk.top _ _ ?_ _ _; simp; done) | with_reducible refine Blk.drew ?_ | with_reducible refine Blk.alloc ?_ _ | (with_reducible refine Blk.far ?_ (by first | omega | (simp <;> omega)) _)))
          have kk2 : Kept w w2 [] := by
            refine Kept.trans ?_ k2 (by simp)
            repeat (first | (with_reducible exact hkept) | with_reducible apply Kept.alloc | with_reducible apply Kept.drew)
          have sz2 := k2.size
          try simp only [World.size_alloc, World.size_drew] at sz2
          try (have hZ2 : Blk w2 wr.heap.size 29 [.int .u8 0, .int .u8 0, .int .u8 0, .int .u8 0, .int .u8 0, .int .u16 0] := by
                refine Blk.kept ?_ k2 (by simp)
                (repeat (first | (with_reducible refine Blk.top _ _ ?_ _ _; simp; done) | with_reducible refine Blk.drew ?_ | with_reducible refine Blk.alloc ?_ _ | (with_reducible refine Blk.far ?_ (by first | omega | (simp <;> omega)) _)))
                done)
          try have z0 := hZ2.cell 0 rfl
          try have zf0 := hZ2.free 0
          try have z1 := hZ2.cell 1 rfl
          try have zf1 := hZ2.free 1
          try have z2 := hZ2.cell 2 rfl
          try have zf2 := hZ2.free 2
          try have z3 := hZ2.cell 3 rfl
          try have zf3 := hZ2.free 3
          try have z4 := hZ2.cell 4 rfl
          try have zf4 := hZ2.free 4
          try have z5 := hZ2.cell 5 rfl
          try have zf5 := hZ2.free 5
          clear k2
          unfold Regs.val
          simp only []))
        all_goals (
          simp only [Exit.then]
          go_step
          go_meet
          case rel => exact ⟨_, rfl, by first | rfl | simp [e12.out], by (first | ((repeat (first | (with_reducible exact hbr2) | (with_reducible exact hbx2) | (with_reducible exact hby2) | (with_reducible exact hbz2) | (with_reducible refine Blk.top _ _ ?_ _ _; simp; done) | with_reducible refine Blk.drew ?_ | with_reducible refine Blk.alloc ?_ _ | (with_reducible refine Blk.far ?_ (by first | omega | (simp <;> omega)) _))); done) | (first | exact (((((((hZ2.set 0 _).set 1 _).set 2 _).set 3 _).set 4 _).set 5 _).to rfl))), by (repeat (first | (with_reducible exact hbr2) | (with_reducible exact hbx2) | (with_reducible exact hby2) | (with_reducible exact hbz2) | (with_reducible refine Blk.top _ _ ?_ _ _; simp; done) | with_reducible refine Blk.drew ?_ | with_reducible refine Blk.alloc ?_ _ | (with_reducible refine Blk.far ?_ (by first | omega | (simp <;> omega)) _))), by (repeat (first | (with_reducible exact hbr2) | (with_reducible exact hbx2) | (with_reducible exact hby2) | (with_reducible exact hbz2) | (with_reducible refine Blk.top _ _ ?_ _ _; simp; done) | with_reducible refine Blk.drew ?_ | with_reducible refine Blk.alloc ?_ _ | (with_reducible refine Blk.far ?_ (by first | omega | (simp <;> omega)) _))), by (repeat (first | (with_reducible exact hbr2) | (with_reducible exact hbx2) | (with_reducible exact hby2) | (with_reducible exact hbz2) | (with_reducible refine Blk.top _ _ ?_ _ _; simp; done) | with_reducible refine Blk.drew ?_ | with_reducible refine Blk.alloc ?_ _ | (with_reducible refine Blk.far ?_ (by first | omega | (simp <;> omega)) _))), by (repeat (first | (with_reducible exact hbr2) | (with_reducible exact hbx2) | (with_reducible exact hby2) | (with_reducible exact hbz2) | (with_reducible refine Blk.top _ _ ?_ _ _; simp; done) | with_reducible refine Blk.drew ?_ | with_reducible refine Blk.alloc ?_ _ | (with_reducible refine Blk.far ?_ (by first | omega | (simp <;> omega)) _))), by repeat (first | (with_reducible exact kk2) | with_reducible apply Kept.alloc | with_reducible apply Kept.drew | (with_reducible refine Kept.setCell ?_ (Or.inr (by first | omega | (simp <;> omega))) _))⟩)
      case rest =>
        obtain ⟨b1, rfl, rfl, hb1, hbr, hbx, hby, hbz, hkept⟩ := hcut
        have l0 := hbr.lt
        have l1 := hbx.lt
        have l2 := hby.lt
        have l3 := hbz.lt
        have l4 := hb1.lt
        go_upto_region 9 with fail
        go_cut [12, 13] from 22 to 59 (fun v v2 wx => ∃ nb, v = .pointer (some ⟨nb, 0, none⟩) ∧ v2 = .int .u8 M2.2 ∧ Blk wx nb 29 [.int .u8 M2.1.a, .int .u8 M2.1.x, .int .u8 M2.1.y, .int .u8 M2.1.s, .int .u8 M2.1.p, .int .u16 M2.1.pc] ∧ Blk wx b1 29 [.int .u8 M1.1.a, .int .u8 M1.1.x, .int .u8 M1.1.y, .int .u8 M1.1.s, .int .u8 M1.1.p, .int .u16 M1.1.pc] ∧ Blk wx w.heap.size 29 [.int .u8 a, .int .u8 x, .int .u8 y, .int .u8 s, .int .u8 p, .int .u16 pc] ∧ Blk wx w1.heap.size 9 [.string ⟨#[83, 76, 79]⟩, .string ⟨#[82, 76, 65]⟩, .string ⟨#[83, 82, 69]⟩, .string ⟨#[82, 82, 65]⟩] ∧ Blk wx (w1.heap.size + 1) 9 [.string ⟨#[65, 83, 76]⟩, .string ⟨#[82, 79, 76]⟩, .string ⟨#[76, 83, 82]⟩, .string ⟨#[82, 79, 82]⟩] ∧ Blk wx (w1.heap.size + 1 + 1) 9 [.string ⟨#[79, 82, 65]⟩, .string ⟨#[65, 78, 68]⟩, .string ⟨#[69, 79, 82]⟩, .string ⟨#[65, 68, 67]⟩] ∧ Kept w wx [])
        case first =>
          have c0 := hbr.cell 0 rfl
          have c1 := hbr.cell 1 rfl
          have c2 := hbr.cell 2 rfl
          have c3 := hbr.cell 3 rfl
          have c4 := hbr.cell 4 rfl
          have c5 := hbr.cell 5 rfl
          have cs := hby.cell 0 rfl
          go_region_held3 (fun W => W.cell? ⟨w.heap.size, 0, none⟩ = some (.int .u8 a) ∧ W.cell? ⟨w.heap.size, 1, none⟩ = some (.int .u8 x) ∧ W.cell? ⟨w.heap.size, 2, none⟩ = some (.int .u8 y) ∧ W.cell? ⟨w.heap.size, 3, none⟩ = some (.int .u8 s) ∧ W.cell? ⟨w.heap.size, 4, none⟩ = some (.int .u8 p) ∧ W.cell? ⟨w.heap.size, 5, none⟩ = some (.int .u16 pc) ∧ W.cell? ⟨(w1.heap.size + 1), 0, none⟩ = some (.string ⟨#[65, 83, 76]⟩)) (first | (have hb : ∀ W, Blk W w.heap.size 29 [.int .u8 a, .int .u8 x, .int .u8 y, .int .u8 s, .int .u8 p, .int .u16 pc] → Blk W (w1.heap.size + 1) 9 [.string ⟨#[65, 83, 76]⟩, .string ⟨#[82, 79, 76]⟩, .string ⟨#[76, 83, 82]⟩, .string ⟨#[82, 79, 82]⟩] → (fun W => W.cell? ⟨w.heap.size, 0, none⟩ = some (.int .u8 a) ∧ W.cell? ⟨w.heap.size, 1, none⟩ = some (.int .u8 x) ∧ W.cell? ⟨w.heap.size, 2, none⟩ = some (.int .u8 y) ∧ W.cell? ⟨w.heap.size, 3, none⟩ = some (.int .u8 s) ∧ W.cell? ⟨w.heap.size, 4, none⟩ = some (.int .u8 p) ∧ W.cell? ⟨w.heap.size, 5, none⟩ = some (.int .u16 pc) ∧ W.cell? ⟨(w1.heap.size + 1), 0, none⟩ = some (.string ⟨#[65, 83, 76]⟩)) W := fun W h h2 => ⟨h.cell 0 rfl, h.cell 1 rfl, h.cell 2 rfl, h.cell 3 rfl, h.cell 4 rfl, h.cell 5 rfl, h2.cell 0 rfl⟩; apply hb <;> clear hb <;> ((repeat (first | (with_reducible exact hb12) | (with_reducible exact hbr2) | (with_reducible exact hbx2) | (with_reducible exact hby2) | (with_reducible exact hbz2) | (with_reducible refine Blk.top _ _ ?_ _ _; simp; done) | with_reducible refine Blk.drew ?_ | with_reducible refine Blk.alloc ?_ _ | (with_reducible refine Blk.far ?_ (by first | omega | (simp <;> omega)) _))); done)) | (have hb : ∀ W, Blk W w.heap.size 29 [.int .u8 a, .int .u8 x, .int .u8 y, .int .u8 s, .int .u8 p, .int .u16 pc] → Blk W (w1.heap.size + 1) 9 [.string ⟨#[65, 83, 76]⟩, .string ⟨#[82, 79, 76]⟩, .string ⟨#[76, 83, 82]⟩, .string ⟨#[82, 79, 82]⟩] → (fun W => W.cell? ⟨w.heap.size, 0, none⟩ = some (.int .u8 a) ∧ W.cell? ⟨w.heap.size, 1, none⟩ = some (.int .u8 x) ∧ W.cell? ⟨w.heap.size, 2, none⟩ = some (.int .u8 y) ∧ W.cell? ⟨w.heap.size, 3, none⟩ = some (.int .u8 s) ∧ W.cell? ⟨w.heap.size, 4, none⟩ = some (.int .u8 p) ∧ W.cell? ⟨w.heap.size, 5, none⟩ = some (.int .u16 pc) ∧ W.cell? ⟨(w1.heap.size + 1), 0, none⟩ = some (.string ⟨#[65, 83, 76]⟩)) W := fun W h h2 => ⟨h.cell 0 rfl, h.cell 1 rfl, h.cell 2 rfl, h.cell 3 rfl, h.cell 4 rfl, h.cell 5 rfl, h2.cell 0 rfl⟩; apply hb <;> clear hb <;> ((repeat (first | (with_reducible exact hb1) | (with_reducible exact hbr) | (with_reducible exact hbx) | (with_reducible exact hby) | (with_reducible exact hbz) | (with_reducible refine Blk.top _ _ ?_ _ _; simp; done) | with_reducible refine Blk.drew ?_ | with_reducible refine Blk.alloc ?_ _ | (with_reducible refine Blk.far ?_ (by first | omega | (simp <;> omega)) _))); done)) | go_keep) (first | (
            go_at_call 14
            refine (modifies_any _ ⟨#[65, 83, 76]⟩ ⟨a, x, y, s, p, pc⟩ m ⟨ha, hx, hy, hs, hp, hpc⟩ hm).mono ?_
            rintro _ w2 ⟨_, rfl, rfl, k2⟩
            rw [ByteArray.toList_eq, h2.out]
            have hb12 : Blk w2 b1 29 [.int .u8 M1.1.a, .int .u8 M1.1.x, .int .u8 M1.1.y, .int .u8 M1.1.s, .int .u8 M1.1.p, .int .u16 M1.1.pc] := by
              refine Blk.kept ?_ k2 (by simp)
              (repeat (first | (with_reducible exact hb1) | (with_reducible exact hbr) | (with_reducible exact hbx) | (with_reducible exact hby) | (with_reducible exact hbz) | (with_reducible refine Blk.top _ _ ?_ _ _; simp; done) | with_reducible refine Blk.drew ?_ | with_reducible refine Blk.alloc ?_ _ | (with_reducible refine Blk.far ?_ (by first | omega | (simp <;> omega)) _)))
            have hbr2 : Blk w2 w.heap.size 29 [.int .u8 a, .int .u8 x, .int .u8 y, .int .u8 s, .int .u8 p, .int .u16 pc] := by
              refine Blk.kept ?_ k2 (by simp)
              (repeat (first | (with_reducible exact hb1) | (with_reducible exact hbr) | (with_reducible exact hbx) | (with_reducible exact hby) | (with_reducible exact hbz) | (with_reducible refine Blk.top _ _ ?_ _ _; simp; done) | with_reducible refine Blk.drew ?_ | with_reducible refine Blk.alloc ?_ _ | (with_reducible refine Blk.far ?_ (by first | omega | (simp <;> omega)) _)))
            have hbx2 : Blk w2 w1.heap.size 9 [.string ⟨#[83, 76, 79]⟩, .string ⟨#[82, 76, 65]⟩, .string ⟨#[83, 82, 69]⟩, .string ⟨#[82, 82, 65]⟩] := by
              refine Blk.kept ?_ k2 (by simp)
              (repeat (first | (with_reducible exact hb1) | (with_reducible exact hbr) | (with_reducible exact hbx) | (with_reducible exact hby) | (with_reducible exact hbz) | (with_reducible refine Blk.top _ _ ?_ _ _; simp; done) | with_reducible refine Blk.drew ?_ | with_reducible refine Blk.alloc ?_ _ | (with_reducible refine Blk.far ?_ (by first | omega | (simp <;> omega)) _)))
            have hby2 : Blk w2 (w1.heap.size + 1) 9 [.string ⟨#[65, 83, 76]⟩, .string ⟨#[82, 79, 76]⟩, .string ⟨#[76, 83, 82]⟩, .string ⟨#[82, 79, 82]⟩] := by
              refine Blk.kept ?_ k2 (by simp)
              (repeat (first | (with_reducible exact hb1) | (with_reducible exact hbr) | (with_reducible exact hbx) | (with_reducible exact hby) | (with_reducible exact hbz) | (with_reducible refine Blk.top _ _ ?_ _ _; simp; done) | with_reducible refine Blk.drew ?_ | with_reducible refine Blk.alloc ?_ _ | (with_reducible refine Blk.far ?_ (by first | omega | (simp <;> omega)) _)))
            have hbz2 : Blk w2 (w1.heap.size + 1 + 1) 9 [.string ⟨#[79, 82, 65]⟩, .string ⟨#[65, 78, 68]⟩, .string ⟨#[69, 79, 82]⟩, .string ⟨#[65, 68, 67]⟩] := by
              refine Blk.kept ?_ k2 (by simp)
              (repeat (first | (with_reducible exact hb1) | (with_reducible exact hbr) | (with_reducible exact hbx) | (with_reducible exact hby) | (with_reducible exact hbz) | (with_reducible refine Blk.top _ _ ?_ _ _; simp; done) | with_reducible refine Blk.drew ?_ | with_reducible refine Blk.alloc ?_ _ | (with_reducible refine Blk.far ?_ (by first | omega | (simp <;> omega)) _)))
            have kk2 : Kept w w2 [] := by
              refine Kept.trans ?_ k2 (by simp)
              repeat (first | (with_reducible exact hkept) | with_reducible apply Kept.alloc | with_reducible apply Kept.drew)
            have sz2 := k2.size
            try simp only [World.size_alloc, World.size_drew] at sz2
            try (have hZ2 : Blk w2 wc.heap.size 29 [.int .u8 0, .int .u8 0, .int .u8 0, .int .u8 0, .int .u8 0, .int .u16 0] := by
                  refine Blk.kept ?_ k2 (by simp)
                  (repeat (first | (with_reducible refine Blk.top _ _ ?_ _ _; simp; done) | with_reducible refine Blk.drew ?_ | with_reducible refine Blk.alloc ?_ _ | (with_reducible refine Blk.far ?_ (by first | omega | (simp <;> omega)) _)))
                  done)
            try have z0 := hZ2.cell 0 rfl
            try have zf0 := hZ2.free 0
            try have z1 := hZ2.cell 1 rfl
            try have zf1 := hZ2.free 1
            try have z2 := hZ2.cell 2 rfl
            try have zf2 := hZ2.free 2
            try have z3 := hZ2.cell 3 rfl
            try have zf3 := hZ2.free 3
            try have z4 := hZ2.cell 4 rfl
            try have zf4 := hZ2.free 4
            try have z5 := hZ2.cell 5 rfl
            try have zf5 := hZ2.free 5
            clear k2
            unfold Regs.val
            simp only []))
          all_goals (
            simp only [Exit.then]
            go_step
            go_meet
            case rel => exact ⟨_, rfl, by first | rfl | simp [e12], by (first | ((repeat (first | (with_reducible exact hb12) | (with_reducible exact hbr2) | (with_reducible exact hbx2) | (with_reducible exact hby2) | (with_reducible exact hbz2) | (with_reducible refine Blk.top _ _ ?_ _ _; simp; done) | with_reducible refine Blk.drew ?_ | with_reducible refine Blk.alloc ?_ _ | (with_reducible refine Blk.far ?_ (by first | omega | (simp <;> omega)) _))); done) | (first | exact (((((((hZ2.set 0 _).set 1 _).set 2 _).set 3 _).set 4 _).set 5 _).to rfl))), by (repeat (first | (with_reducible exact hb12) | (with_reducible exact hbr2) | (with_reducible exact hbx2) | (with_reducible exact hby2) | (with_reducible exact hbz2) | (with_reducible refine Blk.top _ _ ?_ _ _; simp; done) | with_reducible refine Blk.drew ?_ | with_reducible refine Blk.alloc ?_ _ | (with_reducible refine Blk.far ?_ (by first | omega | (simp <;> omega)) _))), by (repeat (first | (with_reducible exact hb12) | (with_reducible exact hbr2) | (with_reducible exact hbx2) | (with_reducible exact hby2) | (with_reducible exact hbz2) | (with_reducible refine Blk.top _ _ ?_ _ _; simp; done) | with_reducible refine Blk.drew ?_ | with_reducible refine Blk.alloc ?_ _ | (with_reducible refine Blk.far ?_ (by first | omega | (simp <;> omega)) _))), by (repeat (first | (with_reducible exact hb12) | (with_reducible exact hbr2) | (with_reducible exact hbx2) | (with_reducible exact hby2) | (with_reducible exact hbz2) | (with_reducible refine Blk.top _ _ ?_ _ _; simp; done) | with_reducible refine Blk.drew ?_ | with_reducible refine Blk.alloc ?_ _ | (with_reducible refine Blk.far ?_ (by first | omega | (simp <;> omega)) _))), by (repeat (first | (with_reducible exact hb12) | (with_reducible exact hbr2) | (with_reducible exact hbx2) | (with_reducible exact hby2) | (with_reducible exact hbz2) | (with_reducible refine Blk.top _ _ ?_ _ _; simp; done) | with_reducible refine Blk.drew ?_ | with_reducible refine Blk.alloc ?_ _ | (with_reducible refine Blk.far ?_ (by first | omega | (simp <;> omega)) _))), by (repeat (first | (with_reducible exact hb12) | (with_reducible exact hbr2) | (with_reducible exact hbx2) | (with_reducible exact hby2) | (with_reducible exact hbz2) | (with_reducible refine Blk.top _ _ ?_ _ _; simp; done) | with_reducible refine Blk.drew ?_ | with_reducible refine Blk.alloc ?_ _ | (with_reducible refine Blk.far ?_ (by first | omega | (simp <;> omega)) _))), by repeat (first | (with_reducible exact kk2) | with_reducible apply Kept.alloc | with_reducible apply Kept.drew | (with_reducible refine Kept.setCell ?_ (Or.inr (by first | omega | (simp <;> omega))) _))⟩)
        case rest =>
          obtain ⟨b2, rfl, rfl, hb2, hb1, hbr, hbx, hby, hbz, hkept⟩ := hcut
          have p0 := hb1.cell 0 rfl
          have p1 := hb1.cell 1 rfl
          have p2 := hb1.cell 2 rfl
          have p3 := hb1.cell 3 rfl
          have p4 := hb1.cell 4 rfl
          have p5 := hb1.cell 5 rfl
          have q0 := hb2.cell 0 rfl
          have q1 := hb2.cell 1 rfl
          have q2 := hb2.cell 2 rfl
          have q3 := hb2.cell 3 rfl
          have q4 := hb2.cell 4 rfl
          have q5 := hb2.cell 5 rfl
          have cs := hbz.cell 0 rfl
          go_upto_region 10 with fail
          go_region_held3 (fun W => W.cell? ⟨b1, 0, none⟩ = some (.int .u8 M1.1.a) ∧ W.cell? ⟨b1, 1, none⟩ = some (.int .u8 M1.1.x) ∧ W.cell? ⟨b1, 2, none⟩ = some (.int .u8 M1.1.y) ∧ W.cell? ⟨b1, 3, none⟩ = some (.int .u8 M1.1.s) ∧ W.cell? ⟨b1, 4, none⟩ = some (.int .u8 M1.1.p) ∧ W.cell? ⟨b1, 5, none⟩ = some (.int .u16 M1.1.pc) ∧ W.cell? ⟨b2, 0, none⟩ = some (.int .u8 M2.1.a) ∧ W.cell? ⟨b2, 1, none⟩ = some (.int .u8 M2.1.x) ∧ W.cell? ⟨b2, 2, none⟩ = some (.int .u8 M2.1.y) ∧ W.cell? ⟨b2, 3, none⟩ = some (.int .u8 M2.1.s) ∧ W.cell? ⟨b2, 4, none⟩ = some (.int .u8 M2.1.p) ∧ W.cell? ⟨b2, 5, none⟩ = some (.int .u16 M2.1.pc) ∧ W.cell? ⟨w1.heap.size + 1 + 1, 0, none⟩ = some (.string ⟨#[79, 82, 65]⟩)) (first | (with_reducible exact ⟨n0, n1, n2, n3, n4, n5, m0, m1, m2, m3, m4, m5, ns⟩) | go_keep) (first | (
            go_at_call 23
            refine (reads_any _ ⟨#[79, 82, 65]⟩ M2.1 M2.2 okM.out okb.out).mono ?_
            rintro _ w2 ⟨_, rfl, rfl, k2⟩
            rw [ByteArray.toList_eq, e11.out]
            have hb22 := hb2.drew.kept k2 (by simp)
            have hb12 := hb1.drew.kept k2 (by simp)
            have hbr2 := hbr.drew.kept k2 (by simp)
            have hbx2 := hbx.drew.kept k2 (by simp)
            have hby2 := hby.drew.kept k2 (by simp)
            have hbz2 := hbz.drew.kept k2 (by simp)
            have kk2 := (hkept.drew).trans k2 (by simp)
            have n1 := hb12.cell 0 rfl
            have n0 := hb12.cell 0 rfl
            have n1 := hb12.cell 1 rfl
            have n2 := hb12.cell 2 rfl
            have n3 := hb12.cell 3 rfl
            have n4 := hb12.cell 4 rfl
            have n5 := hb12.cell 5 rfl
            have m0 := hb22.cell 0 rfl
            have m1 := hb22.cell 1 rfl
            have m2 := hb22.cell 2 rfl
            have m3 := hb22.cell 3 rfl
            have m4 := hb22.cell 4 rfl
            have m5 := hb22.cell 5 rfl
            have ns := hbz2.cell 0 rfl
            clear k2
            unfold Regs.val
            simp only []))
          go_wp2_with fail
          go_roundg 3
          case measure => omega
          case rel => exact ⟨1, by omega, rfl, hbr2, hbx2, hby2, hbz2, kk2⟩
    · obtain ⟨M1, h1⟩ : ∃ M, modifiesM [82, 76, 65] ⟨a, x, y, s, p, pc⟩ m = M := ⟨_, rfl⟩
      obtain ⟨M2, h2⟩ : ∃ M, modifiesM [82, 79, 76] ⟨a, x, y, s, p, pc⟩ m = M := ⟨_, rfl⟩
      have e12 : M1.2 = M2.2 := by rw [← h1, ← h2]; rfl
      have e11 : readsM [65, 78, 68] M2.1 M2.2 = M1.1 := by rw [← h1, ← h2]; rfl
      have sb := (shift_b hm hp).2.2.1
      have okM : M2.1.Ok := by rw [← h2]; exact ok_mk ha hx hy hs sb.2 hpc
      have okb : Byte M2.2 := by rw [← h2]; exact sb.1
      clear sb
      replace e11 := Lib.hid e11
      replace e12 := Lib.hid e12
      replace h1 := Lib.hid h1
      replace h2 := Lib.hid h2
      replace okM := Lib.hid okM
      replace okb := Lib.hid okb
      go_upto_region 8 with fail
      go_cut [10, 11] from 22 to 59 (fun v v2 wx => ∃ nb, v = .pointer (some ⟨nb, 0, none⟩) ∧ v2 = .int .u8 M2.2 ∧ Blk wx nb 29 [.int .u8 M1.1.a, .int .u8 M1.1.x, .int .u8 M1.1.y, .int .u8 M1.1.s, .int .u8 M1.1.p, .int .u16 M1.1.pc] ∧ Blk wx w.heap.size 29 [.int .u8 a, .int .u8 x, .int .u8 y, .int .u8 s, .int .u8 p, .int .u16 pc] ∧ Blk wx w1.heap.size 9 [.string ⟨#[83, 76, 79]⟩, .string ⟨#[82, 76, 65]⟩, .string ⟨#[83, 82, 69]⟩, .string ⟨#[82, 82, 65]⟩] ∧ Blk wx (w1.heap.size + 1) 9 [.string ⟨#[65, 83, 76]⟩, .string ⟨#[82, 79, 76]⟩, .string ⟨#[76, 83, 82]⟩, .string ⟨#[82, 79, 82]⟩] ∧ Blk wx (w1.heap.size + 1 + 1) 9 [.string ⟨#[79, 82, 65]⟩, .string ⟨#[65, 78, 68]⟩, .string ⟨#[69, 79, 82]⟩, .string ⟨#[65, 68, 67]⟩] ∧ Kept w wx [])
      case first =>
        have c0 := hbr.cell 0 rfl
        have c1 := hbr.cell 1 rfl
        have c2 := hbr.cell 2 rfl
        have c3 := hbr.cell 3 rfl
        have c4 := hbr.cell 4 rfl
        have c5 := hbr.cell 5 rfl
        have cs := hbx.cell 1 rfl
        go_region_held3 (fun W => W.cell? ⟨w.heap.size, 0, none⟩ = some (.int .u8 a) ∧ W.cell? ⟨w.heap.size, 1, none⟩ = some (.int .u8 x) ∧ W.cell? ⟨w.heap.size, 2, none⟩ = some (.int .u8 y) ∧ W.cell? ⟨w.heap.size, 3, none⟩ = some (.int .u8 s) ∧ W.cell? ⟨w.heap.size, 4, none⟩ = some (.int .u8 p) ∧ W.cell? ⟨w.heap.size, 5, none⟩ = some (.int .u16 pc) ∧ W.cell? ⟨w1.heap.size, 1, none⟩ = some (.string ⟨#[82, 76, 65]⟩)) (first | (have hb : ∀ W, Blk W w.heap.size 29 [.int .u8 a, .int .u8 x, .int .u8 y, .int .u8 s, .int .u8 p, .int .u16 pc] → Blk W w1.heap.size 9 [.string ⟨#[83, 76, 79]⟩, .string ⟨#[82, 76, 65]⟩, .string ⟨#[83, 82, 69]⟩, .string ⟨#[82, 82, 65]⟩] → (fun W => W.cell? ⟨w.heap.size, 0, none⟩ = some (.int .u8 a) ∧ W.cell? ⟨w.heap.size, 1, none⟩ = some (.int .u8 x) ∧ W.cell? ⟨w.heap.size, 2, none⟩ = some (.int .u8 y) ∧ W.cell? ⟨w.heap.size, 3, none⟩ = some (.int .u8 s) ∧ W.cell? ⟨w.heap.size, 4, none⟩ = some (.int .u8 p) ∧ W.cell? ⟨w.heap.size, 5, none⟩ = some (.int .u16 pc) ∧ W.cell? ⟨w1.heap.size, 1, none⟩ = some (.string ⟨#[82, 76, 65]⟩)) W := fun W h h2 => ⟨h.cell 0 rfl, h.cell 1 rfl, h.cell 2 rfl, h.cell 3 rfl, h.cell 4 rfl, h.cell 5 rfl, h2.cell 1 rfl⟩; apply hb <;> clear hb <;> ((repeat (first | (with_reducible exact hbr2) | (with_reducible exact hbx2) | (with_reducible exact hby2) | (with_reducible exact hbz2) | (with_reducible refine Blk.top _ _ ?_ _ _; simp; done) | with_reducible refine Blk.drew ?_ | with_reducible refine Blk.alloc ?_ _ | (with_reducible refine Blk.far ?_ (by first | omega | (simp <;> omega)) _))); done)) | (have hb : ∀ W, Blk W w.heap.size 29 [.int .u8 a, .int .u8 x, .int .u8 y, .int .u8 s, .int .u8 p, .int .u16 pc] → Blk W w1.heap.size 9 [.string ⟨#[83, 76, 79]⟩, .string ⟨#[82, 76, 65]⟩, .string ⟨#[83, 82, 69]⟩, .string ⟨#[82, 82, 65]⟩] → (fun W => W.cell? ⟨w.heap.size, 0, none⟩ = some (.int .u8 a) ∧ W.cell? ⟨w.heap.size, 1, none⟩ = some (.int .u8 x) ∧ W.cell? ⟨w.heap.size, 2, none⟩ = some (.int .u8 y) ∧ W.cell? ⟨w.heap.size, 3, none⟩ = some (.int .u8 s) ∧ W.cell? ⟨w.heap.size, 4, none⟩ = some (.int .u8 p) ∧ W.cell? ⟨w.heap.size, 5, none⟩ = some (.int .u16 pc) ∧ W.cell? ⟨w1.heap.size, 1, none⟩ = some (.string ⟨#[82, 76, 65]⟩)) W := fun W h h2 => ⟨h.cell 0 rfl, h.cell 1 rfl, h.cell 2 rfl, h.cell 3 rfl, h.cell 4 rfl, h.cell 5 rfl, h2.cell 1 rfl⟩; apply hb <;> clear hb <;> ((repeat (first | (with_reducible exact hbr) | (with_reducible exact hbx) | (with_reducible exact hby) | (with_reducible exact hbz) | (with_reducible refine Blk.top _ _ ?_ _ _; simp; done) | with_reducible refine Blk.drew ?_ | with_reducible refine Blk.alloc ?_ _ | (with_reducible refine Blk.far ?_ (by first | omega | (simp <;> omega)) _))); done)) | go_keep) (first | (
          go_at_call 14
          refine (modifies_any _ ⟨#[82, 76, 65]⟩ ⟨a, x, y, s, p, pc⟩ m ⟨ha, hx, hy, hs, hp, hpc⟩ hm).mono ?_
          rintro _ w2 ⟨_, rfl, rfl, k2⟩
          rw [ByteArray.toList_eq, h1.out]
          have hbr2 : Blk w2 w.heap.size 29 [.int .u8 a, .int .u8 x, .int .u8 y, .int .u8 s, .int .u8 p, .int .u16 pc] := by
            refine Blk.kept ?_ k2 (by simp)
            (repeat (first | (with_reducible exact hbr) | (with_reducible exact hbx) | (with_reducible exact hby) | (with_reducible exact hbz) | (with_reducible refine Blk.top _ _ ?_ _ _; simp; done) | with_reducible refine Blk.drew ?_ | with_reducible refine Blk.alloc ?_ _ | (with_reducible refine Blk.far ?_ (by first | omega | (simp <;> omega)) _)))
          have hbx2 : Blk w2 w1.heap.size 9 [.string ⟨#[83, 76, 79]⟩, .string ⟨#[82, 76, 65]⟩, .string ⟨#[83, 82, 69]⟩, .string ⟨#[82, 82, 65]⟩] := by
            refine Blk.kept ?_ k2 (by simp)
            (repeat (first | (with_reducible exact hbr) | (with_reducible exact hbx) | (with_reducible exact hby) | (with_reducible exact hbz) | (with_reducible refine Blk.top _ _ ?_ _ _; simp; done) | with_reducible refine Blk.drew ?_ | with_reducible refine Blk.alloc ?_ _ | (with_reducible refine Blk.far ?_ (by first | omega | (simp <;> omega)) _)))
          have hby2 : Blk w2 (w1.heap.size + 1) 9 [.string ⟨#[65, 83, 76]⟩, .string ⟨#[82, 79, 76]⟩, .string ⟨#[76, 83, 82]⟩, .string ⟨#[82, 79, 82]⟩] := by
            refine Blk.kept ?_ k2 (by simp)
            (repeat (first | (with_reducible exact hbr) | (with_reducible exact hbx) | (with_reducible exact hby) | (with_reducible exact hbz) | (with_reducible refine Blk.top _ _ ?_ _ _; simp; done) | with_reducible refine Blk.drew ?_ | with_reducible refine Blk.alloc ?_ _ | (with_reducible refine Blk.far ?_ (by first | omega | (simp <;> omega)) _)))
          have hbz2 : Blk w2 (w1.heap.size + 1 + 1) 9 [.string ⟨#[79, 82, 65]⟩, .string ⟨#[65, 78, 68]⟩, .string ⟨#[69, 79, 82]⟩, .string ⟨#[65, 68, 67]⟩] := by
            refine Blk.kept ?_ k2 (by simp)
            (repeat (first | (with_reducible exact hbr) | (with_reducible exact hbx) | (with_reducible exact hby) | (with_reducible exact hbz) | (with_reducible refine Blk.top _ _ ?_ _ _; simp; done) | with_reducible refine Blk.drew ?_ | with_reducible refine Blk.alloc ?_ _ | (with_reducible refine Blk.far ?_ (by first | omega | (simp <;> omega)) _)))
          have kk2 : Kept w w2 [] := by
            refine Kept.trans ?_ k2 (by simp)
            repeat (first | (with_reducible exact hkept) | with_reducible apply Kept.alloc | with_reducible apply Kept.drew)
          have sz2 := k2.size
          try simp only [World.size_alloc, World.size_drew] at sz2
          try (have hZ2 : Blk w2 wr.heap.size 29 [.int .u8 0, .int .u8 0, .int .u8 0, .int .u8 0, .int .u8 0, .int .u16 0] := by
                refine Blk.kept ?_ k2 (by simp)
                (repeat (first | (with_reducible refine Blk.top _ _ ?_ _ _; simp; done) | with_reducible refine Blk.drew ?_ | with_reducible refine Blk.alloc ?_ _ | (with_reducible refine Blk.far ?_ (by first | omega | (simp <;> omega)) _)))
                done)
          try have z0 := hZ2.cell 0 rfl
          try have zf0 := hZ2.free 0
          try have z1 := hZ2.cell 1 rfl
          try have zf1 := hZ2.free 1
          try have z2 := hZ2.cell 2 rfl
          try have zf2 := hZ2.free 2
          try have z3 := hZ2.cell 3 rfl
          try have zf3 := hZ2.free 3
          try have z4 := hZ2.cell 4 rfl
          try have zf4 := hZ2.free 4
          try have z5 := hZ2.cell 5 rfl
          try have zf5 := hZ2.free 5
          clear k2
          unfold Regs.val
          simp only []))
        all_goals (
          simp only [Exit.then]
          go_step
          go_meet
          case rel => exact ⟨_, rfl, by first | rfl | simp [e12.out], by (first | ((repeat (first | (with_reducible exact hbr2) | (with_reducible exact hbx2) | (with_reducible exact hby2) | (with_reducible exact hbz2) | (with_reducible refine Blk.top _ _ ?_ _ _; simp; done) | with_reducible refine Blk.drew ?_ | with_reducible refine Blk.alloc ?_ _ | (with_reducible refine Blk.far ?_ (by first | omega | (simp <;> omega)) _))); done) | (first | exact (((((((hZ2.set 0 _).set 1 _).set 2 _).set 3 _).set 4 _).set 5 _).to rfl))), by (repeat (first | (with_reducible exact hbr2) | (with_reducible exact hbx2) | (with_reducible exact hby2) | (with_reducible exact hbz2) | (with_reducible refine Blk.top _ _ ?_ _ _; simp; done) | with_reducible refine Blk.drew ?_ | with_reducible refine Blk.alloc ?_ _ | (with_reducible refine Blk.far ?_ (by first | omega | (simp <;> omega)) _))), by (repeat (first | (with_reducible exact hbr2) | (with_reducible exact hbx2) | (with_reducible exact hby2) | (with_reducible exact hbz2) | (with_reducible refine Blk.top _ _ ?_ _ _; simp; done) | with_reducible refine Blk.drew ?_ | with_reducible refine Blk.alloc ?_ _ | (with_reducible refine Blk.far ?_ (by first | omega | (simp <;> omega)) _))), by (repeat (first | (with_reducible exact hbr2) | (with_reducible exact hbx2) | (with_reducible exact hby2) | (with_reducible exact hbz2) | (with_reducible refine Blk.top _ _ ?_ _ _; simp; done) | with_reducible refine Blk.drew ?_ | with_reducible refine Blk.alloc ?_ _ | (with_reducible refine Blk.far ?_ (by first | omega | (simp <;> omega)) _))), by (repeat (first | (with_reducible exact hbr2) | (with_reducible exact hbx2) | (with_reducible exact hby2) | (with_reducible exact hbz2) | (with_reducible refine Blk.top _ _ ?_ _ _; simp; done) | with_reducible refine Blk.drew ?_ | with_reducible refine Blk.alloc ?_ _ | (with_reducible refine Blk.far ?_ (by first | omega | (simp <;> omega)) _))), by repeat (first | (with_reducible exact kk2) | with_reducible apply Kept.alloc | with_reducible apply Kept.drew | (with_reducible refine Kept.setCell ?_ (Or.inr (by first | omega | (simp <;> omega))) _))⟩)
      case rest =>
        obtain ⟨b1, rfl, rfl, hb1, hbr, hbx, hby, hbz, hkept⟩ := hcut
        have l0 := hbr.lt
        have l1 := hbx.lt
        have l2 := hby.lt
        have l3 := hbz.lt
        have l4 := hb1.lt
        go_upto_region 9 with fail
        go_cut [12, 13] from 22 to 59 (fun v v2 wx => ∃ nb, v = .pointer (some ⟨nb, 0, none⟩) ∧ v2 = .int .u8 M2.2 ∧ Blk wx nb 29 [.int .u8 M2.1.a, .int .u8 M2.1.x, .int .u8 M2.1.y, .int .u8 M2.1.s, .int .u8 M2.1.p, .int .u16 M2.1.pc] ∧ Blk wx b1 29 [.int .u8 M1.1.a, .int .u8 M1.1.x, .int .u8 M1.1.y, .int .u8 M1.1.s, .int .u8 M1.1.p, .int .u16 M1.1.pc] ∧ Blk wx w.heap.size 29 [.int .u8 a, .int .u8 x, .int .u8 y, .int .u8 s, .int .u8 p, .int .u16 pc] ∧ Blk wx w1.heap.size 9 [.string ⟨#[83, 76, 79]⟩, .string ⟨#[82, 76, 65]⟩, .string ⟨#[83, 82, 69]⟩, .string ⟨#[82, 82, 65]⟩] ∧ Blk wx (w1.heap.size + 1) 9 [.string ⟨#[65, 83, 76]⟩, .string ⟨#[82, 79, 76]⟩, .string ⟨#[76, 83, 82]⟩, .string ⟨#[82, 79, 82]⟩] ∧ Blk wx (w1.heap.size + 1 + 1) 9 [.string ⟨#[79, 82, 65]⟩, .string ⟨#[65, 78, 68]⟩, .string ⟨#[69, 79, 82]⟩, .string ⟨#[65, 68, 67]⟩] ∧ Kept w wx [])
        case first =>
          have c0 := hbr.cell 0 rfl
          have c1 := hbr.cell 1 rfl
          have c2 := hbr.cell 2 rfl
          have c3 := hbr.cell 3 rfl
          have c4 := hbr.cell 4 rfl
          have c5 := hbr.cell 5 rfl
          have cs := hby.cell 1 rfl
          go_region_held3 (fun W => W.cell? ⟨w.heap.size, 0, none⟩ = some (.int .u8 a) ∧ W.cell? ⟨w.heap.size, 1, none⟩ = some (.int .u8 x) ∧ W.cell? ⟨w.heap.size, 2, none⟩ = some (.int .u8 y) ∧ W.cell? ⟨w.heap.size, 3, none⟩ = some (.int .u8 s) ∧ W.cell? ⟨w.heap.size, 4, none⟩ = some (.int .u8 p) ∧ W.cell? ⟨w.heap.size, 5, none⟩ = some (.int .u16 pc) ∧ W.cell? ⟨(w1.heap.size + 1), 1, none⟩ = some (.string ⟨#[82, 79, 76]⟩)) (first | (have hb : ∀ W, Blk W w.heap.size 29 [.int .u8 a, .int .u8 x, .int .u8 y, .int .u8 s, .int .u8 p, .int .u16 pc] → Blk W (w1.heap.size + 1) 9 [.string ⟨#[65, 83, 76]⟩, .string ⟨#[82, 79, 76]⟩, .string ⟨#[76, 83, 82]⟩, .string ⟨#[82, 79, 82]⟩] → (fun W => W.cell? ⟨w.heap.size, 0, none⟩ = some (.int .u8 a) ∧ W.cell? ⟨w.heap.size, 1, none⟩ = some (.int .u8 x) ∧ W.cell? ⟨w.heap.size, 2, none⟩ = some (.int .u8 y) ∧ W.cell? ⟨w.heap.size, 3, none⟩ = some (.int .u8 s) ∧ W.cell? ⟨w.heap.size, 4, none⟩ = some (.int .u8 p) ∧ W.cell? ⟨w.heap.size, 5, none⟩ = some (.int .u16 pc) ∧ W.cell? ⟨(w1.heap.size + 1), 1, none⟩ = some (.string ⟨#[82, 79, 76]⟩)) W := fun W h h2 => ⟨h.cell 0 rfl, h.cell 1 rfl, h.cell 2 rfl, h.cell 3 rfl, h.cell 4 rfl, h.cell 5 rfl, h2.cell 1 rfl⟩; apply hb <;> clear hb <;> ((repeat (first | (with_reducible exact hb12) | (with_reducible exact hbr2) | (with_reducible exact hbx2) | (with_reducible exact hby2) | (with_reducible exact hbz2) | (with_reducible refine Blk.top _ _ ?_ _ _; simp; done) | with_reducible refine Blk.drew ?_ | with_reducible refine Blk.alloc ?_ _ | (with_reducible refine Blk.far ?_ (by first | omega | (simp <;> omega)) _))); done)) | (have hb : ∀ W, Blk W w.heap.size 29 [.int .u8 a, .int .u8 x, .int .u8 y, .int .u8 s, .int .u8 p, .int .u16 pc] → Blk W (w1.heap.size + 1) 9 [.string ⟨#[65, 83, 76]⟩, .string ⟨#[82, 79, 76]⟩, .string ⟨#[76, 83, 82]⟩, .string ⟨#[82, 79, 82]⟩] → (fun W => W.cell? ⟨w.heap.size, 0, none⟩ = some (.int .u8 a) ∧ W.cell? ⟨w.heap.size, 1, none⟩ = some (.int .u8 x) ∧ W.cell? ⟨w.heap.size, 2, none⟩ = some (.int .u8 y) ∧ W.cell? ⟨w.heap.size, 3, none⟩ = some (.int .u8 s) ∧ W.cell? ⟨w.heap.size, 4, none⟩ = some (.int .u8 p) ∧ W.cell? ⟨w.heap.size, 5, none⟩ = some (.int .u16 pc) ∧ W.cell? ⟨(w1.heap.size + 1), 1, none⟩ = some (.string ⟨#[82, 79, 76]⟩)) W := fun W h h2 => ⟨h.cell 0 rfl, h.cell 1 rfl, h.cell 2 rfl, h.cell 3 rfl, h.cell 4 rfl, h.cell 5 rfl, h2.cell 1 rfl⟩; apply hb <;> clear hb <;> ((repeat (first | (with_reducible exact hb1) | (with_reducible exact hbr) | (with_reducible exact hbx) | (with_reducible exact hby) | (with_reducible exact hbz) | (with_reducible refine Blk.top _ _ ?_ _ _; simp; done) | with_reducible refine Blk.drew ?_ | with_reducible refine Blk.alloc ?_ _ | (with_reducible refine Blk.far ?_ (by first | omega | (simp <;> omega)) _))); done)) | go_keep) (first | (
            go_at_call 14
            refine (modifies_any _ ⟨#[82, 79, 76]⟩ ⟨a, x, y, s, p, pc⟩ m ⟨ha, hx, hy, hs, hp, hpc⟩ hm).mono ?_
            rintro _ w2 ⟨_, rfl, rfl, k2⟩
            rw [ByteArray.toList_eq, h2.out]
            have hb12 : Blk w2 b1 29 [.int .u8 M1.1.a, .int .u8 M1.1.x, .int .u8 M1.1.y, .int .u8 M1.1.s, .int .u8 M1.1.p, .int .u16 M1.1.pc] := by
              refine Blk.kept ?_ k2 (by simp)
              (repeat (first | (with_reducible exact hb1) | (with_reducible exact hbr) | (with_reducible exact hbx) | (with_reducible exact hby) | (with_reducible exact hbz) | (with_reducible refine Blk.top _ _ ?_ _ _; simp; done) | with_reducible refine Blk.drew ?_ | with_reducible refine Blk.alloc ?_ _ | (with_reducible refine Blk.far ?_ (by first | omega | (simp <;> omega)) _)))
            have hbr2 : Blk w2 w.heap.size 29 [.int .u8 a, .int .u8 x, .int .u8 y, .int .u8 s, .int .u8 p, .int .u16 pc] := by
              refine Blk.kept ?_ k2 (by simp)
              (repeat (first | (with_reducible exact hb1) | (with_reducible exact hbr) | (with_reducible exact hbx) | (with_reducible exact hby) | (with_reducible exact hbz) | (with_reducible refine Blk.top _ _ ?_ _ _; simp; done) | with_reducible refine Blk.drew ?_ | with_reducible refine Blk.alloc ?_ _ | (with_reducible refine Blk.far ?_ (by first | omega | (simp <;> omega)) _)))
            have hbx2 : Blk w2 w1.heap.size 9 [.string ⟨#[83, 76, 79]⟩, .string ⟨#[82, 76, 65]⟩, .string ⟨#[83, 82, 69]⟩, .string ⟨#[82, 82, 65]⟩] := by
              refine Blk.kept ?_ k2 (by simp)
              (repeat (first | (with_reducible exact hb1) | (with_reducible exact hbr) | (with_reducible exact hbx) | (with_reducible exact hby) | (with_reducible exact hbz) | (with_reducible refine Blk.top _ _ ?_ _ _; simp; done) | with_reducible refine Blk.drew ?_ | with_reducible refine Blk.alloc ?_ _ | (with_reducible refine Blk.far ?_ (by first | omega | (simp <;> omega)) _)))
            have hby2 : Blk w2 (w1.heap.size + 1) 9 [.string ⟨#[65, 83, 76]⟩, .string ⟨#[82, 79, 76]⟩, .string ⟨#[76, 83, 82]⟩, .string ⟨#[82, 79, 82]⟩] := by
              refine Blk.kept ?_ k2 (by simp)
              (repeat (first | (with_reducible exact hb1) | (with_reducible exact hbr) | (with_reducible exact hbx) | (with_reducible exact hby) | (with_reducible exact hbz) | (with_reducible refine Blk.top _ _ ?_ _ _; simp; done) | with_reducible refine Blk.drew ?_ | with_reducible refine Blk.alloc ?_ _ | (with_reducible refine Blk.far ?_ (by first | omega | (simp <;> omega)) _)))
            have hbz2 : Blk w2 (w1.heap.size + 1 + 1) 9 [.string ⟨#[79, 82, 65]⟩, .string ⟨#[65, 78, 68]⟩, .string ⟨#[69, 79, 82]⟩, .string ⟨#[65, 68, 67]⟩] := by
              refine Blk.kept ?_ k2 (by simp)
              (repeat (first | (with_reducible exact hb1) | (with_reducible exact hbr) | (with_reducible exact hbx) | (with_reducible exact hby) | (with_reducible exact hbz) | (with_reducible refine Blk.top _ _ ?_ _ _; simp; done) | with_reducible refine Blk.drew ?_ | with_reducible refine Blk.alloc ?_ _ | (with_reducible refine Blk.far ?_ (by first | omega | (simp <;> omega)) _)))
            have kk2 : Kept w w2 [] := by
              refine Kept.trans ?_ k2 (by simp)
              repeat (first | (with_reducible exact hkept) | with_reducible apply Kept.alloc | with_reducible apply Kept.drew)
            have sz2 := k2.size
            try simp only [World.size_alloc, World.size_drew] at sz2
            try (have hZ2 : Blk w2 wc.heap.size 29 [.int .u8 0, .int .u8 0, .int .u8 0, .int .u8 0, .int .u8 0, .int .u16 0] := by
                  refine Blk.kept ?_ k2 (by simp)
                  (repeat (first | (with_reducible refine Blk.top _ _ ?_ _ _; simp; done) | with_reducible refine Blk.drew ?_ | with_reducible refine Blk.alloc ?_ _ | (with_reducible refine Blk.far ?_ (by first | omega | (simp <;> omega)) _)))
                  done)
            try have z0 := hZ2.cell 0 rfl
            try have zf0 := hZ2.free 0
            try have z1 := hZ2.cell 1 rfl
            try have zf1 := hZ2.free 1
            try have z2 := hZ2.cell 2 rfl
            try have zf2 := hZ2.free 2
            try have z3 := hZ2.cell 3 rfl
            try have zf3 := hZ2.free 3
            try have z4 := hZ2.cell 4 rfl
            try have zf4 := hZ2.free 4
            try have z5 := hZ2.cell 5 rfl
            try have zf5 := hZ2.free 5
            clear k2
            unfold Regs.val
            simp only []))
          all_goals (
            simp only [Exit.then]
            go_step
            go_meet
            case rel => exact ⟨_, rfl, by first | rfl | simp [e12], by (first | ((repeat (first | (with_reducible exact hb12) | (with_reducible exact hbr2) | (with_reducible exact hbx2) | (with_reducible exact hby2) | (with_reducible exact hbz2) | (with_reducible refine Blk.top _ _ ?_ _ _; simp; done) | with_reducible refine Blk.drew ?_ | with_reducible refine Blk.alloc ?_ _ | (with_reducible refine Blk.far ?_ (by first | omega | (simp <;> omega)) _))); done) | (first | exact (((((((hZ2.set 0 _).set 1 _).set 2 _).set 3 _).set 4 _).set 5 _).to rfl))), by (repeat (first | (with_reducible exact hb12) | (with_reducible exact hbr2) | (with_reducible exact hbx2) | (with_reducible exact hby2) | (with_reducible exact hbz2) | (with_reducible refine Blk.top _ _ ?_ _ _; simp; done) | with_reducible refine Blk.drew ?_ | with_reducible refine Blk.alloc ?_ _ | (with_reducible refine Blk.far ?_ (by first | omega | (simp <;> omega)) _))), by (repeat (first | (with_reducible exact hb12) | (with_reducible exact hbr2) | (with_reducible exact hbx2) | (with_reducible exact hby2) | (with_reducible exact hbz2) | (with_reducible refine Blk.top _ _ ?_ _ _; simp; done) | with_reducible refine Blk.drew ?_ | with_reducible refine Blk.alloc ?_ _ | (with_reducible refine Blk.far ?_ (by first | omega | (simp <;> omega)) _))), by (repeat (first | (with_reducible exact hb12) | (with_reducible exact hbr2) | (with_reducible exact hbx2) | (with_reducible exact hby2) | (with_reducible exact hbz2) | (with_reducible refine Blk.top _ _ ?_ _ _; simp; done) | with_reducible refine Blk.drew ?_ | with_reducible refine Blk.alloc ?_ _ | (with_reducible refine Blk.far ?_ (by first | omega | (simp <;> omega)) _))), by (repeat (first | (with_reducible exact hb12) | (with_reducible exact hbr2) | (with_reducible exact hbx2) | (with_reducible exact hby2) | (with_reducible exact hbz2) | (with_reducible refine Blk.top _ _ ?_ _ _; simp; done) | with_reducible refine Blk.drew ?_ | with_reducible refine Blk.alloc ?_ _ | (with_reducible refine Blk.far ?_ (by first | omega | (simp <;> omega)) _))), by (repeat (first | (with_reducible exact hb12) | (with_reducible exact hbr2) | (with_reducible exact hbx2) | (with_reducible exact hby2) | (with_reducible exact hbz2) | (with_reducible refine Blk.top _ _ ?_ _ _; simp; done) | with_reducible refine Blk.drew ?_ | with_reducible refine Blk.alloc ?_ _ | (with_reducible refine Blk.far ?_ (by first | omega | (simp <;> omega)) _))), by repeat (first | (with_reducible exact kk2) | with_reducible apply Kept.alloc | with_reducible apply Kept.drew | (with_reducible refine Kept.setCell ?_ (Or.inr (by first | omega | (simp <;> omega))) _))⟩)
        case rest =>
          obtain ⟨b2, rfl, rfl, hb2, hb1, hbr, hbx, hby, hbz, hkept⟩ := hcut
          have p0 := hb1.cell 0 rfl
          have p1 := hb1.cell 1 rfl
          have p2 := hb1.cell 2 rfl
          have p3 := hb1.cell 3 rfl
          have p4 := hb1.cell 4 rfl
          have p5 := hb1.cell 5 rfl
          have q0 := hb2.cell 0 rfl
          have q1 := hb2.cell 1 rfl
          have q2 := hb2.cell 2 rfl
          have q3 := hb2.cell 3 rfl
          have q4 := hb2.cell 4 rfl
          have q5 := hb2.cell 5 rfl
          have cs := hbz.cell 1 rfl
          go_upto_region 10 with fail
          go_region_held3 (fun W => W.cell? ⟨b1, 0, none⟩ = some (.int .u8 M1.1.a) ∧ W.cell? ⟨b1, 1, none⟩ = some (.int .u8 M1.1.x) ∧ W.cell? ⟨b1, 2, none⟩ = some (.int .u8 M1.1.y) ∧ W.cell? ⟨b1, 3, none⟩ = some (.int .u8 M1.1.s) ∧ W.cell? ⟨b1, 4, none⟩ = some (.int .u8 M1.1.p) ∧ W.cell? ⟨b1, 5, none⟩ = some (.int .u16 M1.1.pc) ∧ W.cell? ⟨b2, 0, none⟩ = some (.int .u8 M2.1.a) ∧ W.cell? ⟨b2, 1, none⟩ = some (.int .u8 M2.1.x) ∧ W.cell? ⟨b2, 2, none⟩ = some (.int .u8 M2.1.y) ∧ W.cell? ⟨b2, 3, none⟩ = some (.int .u8 M2.1.s) ∧ W.cell? ⟨b2, 4, none⟩ = some (.int .u8 M2.1.p) ∧ W.cell? ⟨b2, 5, none⟩ = some (.int .u16 M2.1.pc) ∧ W.cell? ⟨w1.heap.size + 1 + 1, 1, none⟩ = some (.string ⟨#[65, 78, 68]⟩)) (first | (with_reducible exact ⟨n0, n1, n2, n3, n4, n5, m0, m1, m2, m3, m4, m5, ns⟩) | go_keep) (first | (
            go_at_call 23
            refine (reads_any _ ⟨#[65, 78, 68]⟩ M2.1 M2.2 okM.out okb.out).mono ?_
            rintro _ w2 ⟨_, rfl, rfl, k2⟩
            rw [ByteArray.toList_eq, e11.out]
            have hb22 := hb2.drew.kept k2 (by simp)
            have hb12 := hb1.drew.kept k2 (by simp)
            have hbr2 := hbr.drew.kept k2 (by simp)
            have hbx2 := hbx.drew.kept k2 (by simp)
            have hby2 := hby.drew.kept k2 (by simp)
            have hbz2 := hbz.drew.kept k2 (by simp)
            have kk2 := (hkept.drew).trans k2 (by simp)
            have n1 := hb12.cell 0 rfl
            have n0 := hb12.cell 0 rfl
            have n1 := hb12.cell 1 rfl
            have n2 := hb12.cell 2 rfl
            have n3 := hb12.cell 3 rfl
            have n4 := hb12.cell 4 rfl
            have n5 := hb12.cell 5 rfl
            have m0 := hb22.cell 0 rfl
            have m1 := hb22.cell 1 rfl
            have m2 := hb22.cell 2 rfl
            have m3 := hb22.cell 3 rfl
            have m4 := hb22.cell 4 rfl
            have m5 := hb22.cell 5 rfl
            have ns := hbz2.cell 1 rfl
            clear k2
            unfold Regs.val
            simp only []))
          go_wp2_with fail
          go_roundg 2
          case measure => omega
          case rel => exact ⟨2, by omega, rfl, hbr2, hbx2, hby2, hbz2, kk2⟩
    · obtain ⟨M1, h1⟩ : ∃ M, modifiesM [83, 82, 69] ⟨a, x, y, s, p, pc⟩ m = M := ⟨_, rfl⟩
      obtain ⟨M2, h2⟩ : ∃ M, modifiesM [76, 83, 82] ⟨a, x, y, s, p, pc⟩ m = M := ⟨_, rfl⟩
      have e12 : M1.2 = M2.2 := by rw [← h1, ← h2]; rfl
      have e11 : readsM [69, 79, 82] M2.1 M2.2 = M1.1 := by rw [← h1, ← h2]; rfl
      have sb := (shift_b hm hp).2.1
      have okM : M2.1.Ok := by rw [← h2]; exact ok_mk ha hx hy hs sb.2 hpc
      have okb : Byte M2.2 := by rw [← h2]; exact sb.1
      clear sb
      replace e11 := Lib.hid e11
      replace e12 := Lib.hid e12
      replace h1 := Lib.hid h1
      replace h2 := Lib.hid h2
      replace okM := Lib.hid okM
      replace okb := Lib.hid okb
      go_upto_region 8 with fail
      go_cut [10, 11] from 22 to 59 (fun v v2 wx => ∃ nb, v = .pointer (some ⟨nb, 0, none⟩) ∧ v2 = .int .u8 M2.2 ∧ Blk wx nb 29 [.int .u8 M1.1.a, .int .u8 M1.1.x, .int .u8 M1.1.y, .int .u8 M1.1.s, .int .u8 M1.1.p, .int .u16 M1.1.pc] ∧ Blk wx w.heap.size 29 [.int .u8 a, .int .u8 x, .int .u8 y, .int .u8 s, .int .u8 p, .int .u16 pc] ∧ Blk wx w1.heap.size 9 [.string ⟨#[83, 76, 79]⟩, .string ⟨#[82, 76, 65]⟩, .string ⟨#[83, 82, 69]⟩, .string ⟨#[82, 82, 65]⟩] ∧ Blk wx (w1.heap.size + 1) 9 [.string ⟨#[65, 83, 76]⟩, .string ⟨#[82, 79, 76]⟩, .string ⟨#[76, 83, 82]⟩, .string ⟨#[82, 79, 82]⟩] ∧ Blk wx (w1.heap.size + 1 + 1) 9 [.string ⟨#[79, 82, 65]⟩, .string ⟨#[65, 78, 68]⟩, .string ⟨#[69, 79, 82]⟩, .string ⟨#[65, 68, 67]⟩] ∧ Kept w wx [])
      case first =>
        have c0 := hbr.cell 0 rfl
        have c1 := hbr.cell 1 rfl
        have c2 := hbr.cell 2 rfl
        have c3 := hbr.cell 3 rfl
        have c4 := hbr.cell 4 rfl
        have c5 := hbr.cell 5 rfl
        have cs := hbx.cell 2 rfl
        go_region_held3 (fun W => W.cell? ⟨w.heap.size, 0, none⟩ = some (.int .u8 a) ∧ W.cell? ⟨w.heap.size, 1, none⟩ = some (.int .u8 x) ∧ W.cell? ⟨w.heap.size, 2, none⟩ = some (.int .u8 y) ∧ W.cell? ⟨w.heap.size, 3, none⟩ = some (.int .u8 s) ∧ W.cell? ⟨w.heap.size, 4, none⟩ = some (.int .u8 p) ∧ W.cell? ⟨w.heap.size, 5, none⟩ = some (.int .u16 pc) ∧ W.cell? ⟨w1.heap.size, 2, none⟩ = some (.string ⟨#[83, 82, 69]⟩)) (first | (have hb : ∀ W, Blk W w.heap.size 29 [.int .u8 a, .int .u8 x, .int .u8 y, .int .u8 s, .int .u8 p, .int .u16 pc] → Blk W w1.heap.size 9 [.string ⟨#[83, 76, 79]⟩, .string ⟨#[82, 76, 65]⟩, .string ⟨#[83, 82, 69]⟩, .string ⟨#[82, 82, 65]⟩] → (fun W => W.cell? ⟨w.heap.size, 0, none⟩ = some (.int .u8 a) ∧ W.cell? ⟨w.heap.size, 1, none⟩ = some (.int .u8 x) ∧ W.cell? ⟨w.heap.size, 2, none⟩ = some (.int .u8 y) ∧ W.cell? ⟨w.heap.size, 3, none⟩ = some (.int .u8 s) ∧ W.cell? ⟨w.heap.size, 4, none⟩ = some (.int .u8 p) ∧ W.cell? ⟨w.heap.size, 5, none⟩ = some (.int .u16 pc) ∧ W.cell? ⟨w1.heap.size, 2, none⟩ = some (.string ⟨#[83, 82, 69]⟩)) W := fun W h h2 => ⟨h.cell 0 rfl, h.cell 1 rfl, h.cell 2 rfl, h.cell 3 rfl, h.cell 4 rfl, h.cell 5 rfl, h2.cell 2 rfl⟩; apply hb <;> clear hb <;> ((repeat (first | (with_reducible exact hbr2) | (with_reducible exact hbx2) | (with_reducible exact hby2) | (with_reducible exact hbz2) | (with_reducible refine Blk.top _ _ ?_ _ _; simp; done) | with_reducible refine Blk.drew ?_ | with_reducible refine Blk.alloc ?_ _ | (with_reducible refine Blk.far ?_ (by first | omega | (simp <;> omega)) _))); done)) | (have hb : ∀ W, Blk W w.heap.size 29 [.int .u8 a, .int .u8 x, .int .u8 y, .int .u8 s, .int .u8 p, .int .u16 pc] → Blk W w1.heap.size 9 [.string ⟨#[83, 76, 79]⟩, .string ⟨#[82, 76, 65]⟩, .string ⟨#[83, 82, 69]⟩, .string ⟨#[82, 82, 65]⟩] → (fun W => W.cell? ⟨w.heap.size, 0, none⟩ = some (.int .u8 a) ∧ W.cell? ⟨w.heap.size, 1, none⟩ = some (.int .u8 x) ∧ W.cell? ⟨w.heap.size, 2, none⟩ = some (.int .u8 y) ∧ W.cell? ⟨w.heap.size, 3, none⟩ = some (.int .u8 s) ∧ W.cell? ⟨w.heap.size, 4, none⟩ = some (.int .u8 p) ∧ W.cell? ⟨w.heap.size, 5, none⟩ = some (.int .u16 pc) ∧ W.cell? ⟨w1.heap.size, 2, none⟩ = some (.string ⟨#[83, 82, 69]⟩)) W := fun W h h2 => ⟨h.cell 0 rfl, h.cell 1 rfl, h.cell 2 rfl, h.cell 3 rfl, h.cell 4 rfl, h.cell 5 rfl, h2.cell 2 rfl⟩; apply hb <;> clear hb <;> ((repeat (first | (with_reducible exact hbr) | (with_reducible exact hbx) | (with_reducible exact hby) | (with_reducible exact hbz) | (with_reducible refine Blk.top _ _ ?_ _ _; simp; done) | with_reducible refine Blk.drew ?_ | with_reducible refine Blk.alloc ?_ _ | (with_reducible refine Blk.far ?_ (by first | omega | (simp <;> omega)) _))); done)) | go_keep) (first | (
          go_at_call 14
          refine (modifies_any _ ⟨#[83, 82, 69]⟩ ⟨a, x, y, s, p, pc⟩ m ⟨ha, hx, hy, hs, hp, hpc⟩ hm).mono ?_
          rintro _ w2 ⟨_, rfl, rfl, k2⟩
          rw [ByteArray.toList_eq, h1.out]
          have hbr2 : Blk w2 w.heap.size 29 [.int .u8 a, .int .u8 x, .int .u8 y, .int .u8 s, .int .u8 p, .int .u16 pc] := by
            refine Blk.kept ?_ k2 (by simp)
            (repeat (first | (with_reducible exact hbr) | (with_reducible exact hbx) | (with_reducible exact hby) | (with_reducible exact hbz) | (with_reducible refine Blk.top _ _ ?_ _ _; simp; done) | with_reducible refine Blk.drew ?_ | with_reducible refine Blk.alloc ?_ _ | (with_reducible refine Blk.far ?_ (by first | omega | (simp <;> omega)) _)))
          have hbx2 : Blk w2 w1.heap.size 9 [.string ⟨#[83, 76, 79]⟩, .string ⟨#[82, 76, 65]⟩, .string ⟨#[83, 82, 69]⟩, .string ⟨#[82, 82, 65]⟩] := by
            refine Blk.kept ?_ k2 (by simp)
            (repeat (first | (with_reducible exact hbr) | (with_reducible exact hbx) | (with_reducible exact hby) | (with_reducible exact hbz) | (with_reducible refine Blk.top _ _ ?_ _ _; simp; done) | with_reducible refine Blk.drew ?_ | with_reducible refine Blk.alloc ?_ _ | (with_reducible refine Blk.far ?_ (by first | omega | (simp <;> omega)) _)))
          have hby2 : Blk w2 (w1.heap.size + 1) 9 [.string ⟨#[65, 83, 76]⟩, .string ⟨#[82, 79, 76]⟩, .string ⟨#[76, 83, 82]⟩, .string ⟨#[82, 79, 82]⟩] := by
            refine Blk.kept ?_ k2 (by simp)
            (repeat (first | (with_reducible exact hbr) | (with_reducible exact hbx) | (with_reducible exact hby) | (with_reducible exact hbz) | (with_reducible refine Blk.top _ _ ?_ _ _; simp; done) | with_reducible refine Blk.drew ?_ | with_reducible refine Blk.alloc ?_ _ | (with_reducible refine Blk.far ?_ (by first | omega | (simp <;> omega)) _)))
          have hbz2 : Blk w2 (w1.heap.size + 1 + 1) 9 [.string ⟨#[79, 82, 65]⟩, .string ⟨#[65, 78, 68]⟩, .string ⟨#[69, 79, 82]⟩, .string ⟨#[65, 68, 67]⟩] := by
            refine Blk.kept ?_ k2 (by simp)
            (repeat (first | (with_reducible exact hbr) | (with_reducible exact hbx) | (with_reducible exact hby) | (with_reducible exact hbz) | (with_reducible refine Blk.top _ _ ?_ _ _; simp; done) | with_reducible refine Blk.drew ?_ | with_reducible refine Blk.alloc ?_ _ | (with_reducible refine Blk.far ?_ (by first | omega | (simp <;> omega)) _)))
          have kk2 : Kept w w2 [] := by
            refine Kept.trans ?_ k2 (by simp)
            repeat (first | (with_reducible exact hkept) | with_reducible apply Kept.alloc | with_reducible apply Kept.drew)
          have sz2 := k2.size
          try simp only [World.size_alloc, World.size_drew] at sz2
          try (have hZ2 : Blk w2 wr.heap.size 29 [.int .u8 0, .int .u8 0, .int .u8 0, .int .u8 0, .int .u8 0, .int .u16 0] := by
                refine Blk.kept ?_ k2 (by simp)
                (repeat (first | (with_reducible refine Blk.top _ _ ?_ _ _; simp; done) | with_reducible refine Blk.drew ?_ | with_reducible refine Blk.alloc ?_ _ | (with_reducible refine Blk.far ?_ (by first | omega | (simp <;> omega)) _)))
                done)
          try have z0 := hZ2.cell 0 rfl
          try have zf0 := hZ2.free 0
          try have z1 := hZ2.cell 1 rfl
          try have zf1 := hZ2.free 1
          try have z2 := hZ2.cell 2 rfl
          try have zf2 := hZ2.free 2
          try have z3 := hZ2.cell 3 rfl
          try have zf3 := hZ2.free 3
          try have z4 := hZ2.cell 4 rfl
          try have zf4 := hZ2.free 4
          try have z5 := hZ2.cell 5 rfl
          try have zf5 := hZ2.free 5
          clear k2
          unfold Regs.val
          simp only []))
        all_goals (
          simp only [Exit.then]
          go_step
          go_meet
          case rel => exact ⟨_, rfl, by first | rfl | simp [e12.out], by (first | ((repeat (first | (with_reducible exact hbr2) | (with_reducible exact hbx2) | (with_reducible exact hby2) | (with_reducible exact hbz2) | (with_reducible refine Blk.top _ _ ?_ _ _; simp; done) | with_reducible refine Blk.drew ?_ | with_reducible refine Blk.alloc ?_ _ | (with_reducible refine Blk.far ?_ (by first | omega | (simp <;> omega)) _))); done) | (first | exact (((((((hZ2.set 0 _).set 1 _).set 2 _).set 3 _).set 4 _).set 5 _).to rfl))), by (repeat (first | (with_reducible exact hbr2) | (with_reducible exact hbx2) | (with_reducible exact hby2) | (with_reducible exact hbz2) | (with_reducible refine Blk.top _ _ ?_ _ _; simp; done) | with_reducible refine Blk.drew ?_ | with_reducible refine Blk.alloc ?_ _ | (with_reducible refine Blk.far ?_ (by first | omega | (simp <;> omega)) _))), by (repeat (first | (with_reducible exact hbr2) | (with_reducible exact hbx2) | (with_reducible exact hby2) | (with_reducible exact hbz2) | (with_reducible refine Blk.top _ _ ?_ _ _; simp; done) | with_reducible refine Blk.drew ?_ | with_reducible refine Blk.alloc ?_ _ | (with_reducible refine Blk.far ?_ (by first | omega | (simp <;> omega)) _))), by (repeat (first | (with_reducible exact hbr2) | (with_reducible exact hbx2) | (with_reducible exact hby2) | (with_reducible exact hbz2) | (with_reducible refine Blk.top _ _ ?_ _ _; simp; done) | with_reducible refine Blk.drew ?_ | with_reducible refine Blk.alloc ?_ _ | (with_reducible refine Blk.far ?_ (by first | omega | (simp <;> omega)) _))), by (repeat (first | (with_reducible exact hbr2) | (with_reducible exact hbx2) | (with_reducible exact hby2) | (with_reducible exact hbz2) | (with_reducible refine Blk.top _ _ ?_ _ _; simp; done) | with_reducible refine Blk.drew ?_ | with_reducible refine Blk.alloc ?_ _ | (with_reducible refine Blk.far ?_ (by first | omega | (simp <;> omega)) _))), by repeat (first | (with_reducible exact kk2) | with_reducible apply Kept.alloc | with_reducible apply Kept.drew | (with_reducible refine Kept.setCell ?_ (Or.inr (by first | omega | (simp <;> omega))) _))⟩)
      case rest =>
        obtain ⟨b1, rfl, rfl, hb1, hbr, hbx, hby, hbz, hkept⟩ := hcut
        have l0 := hbr.lt
        have l1 := hbx.lt
        have l2 := hby.lt
        have l3 := hbz.lt
        have l4 := hb1.lt
        go_upto_region 9 with fail
        go_cut [12, 13] from 22 to 59 (fun v v2 wx => ∃ nb, v = .pointer (some ⟨nb, 0, none⟩) ∧ v2 = .int .u8 M2.2 ∧ Blk wx nb 29 [.int .u8 M2.1.a, .int .u8 M2.1.x, .int .u8 M2.1.y, .int .u8 M2.1.s, .int .u8 M2.1.p, .int .u16 M2.1.pc] ∧ Blk wx b1 29 [.int .u8 M1.1.a, .int .u8 M1.1.x, .int .u8 M1.1.y, .int .u8 M1.1.s, .int .u8 M1.1.p, .int .u16 M1.1.pc] ∧ Blk wx w.heap.size 29 [.int .u8 a, .int .u8 x, .int .u8 y, .int .u8 s, .int .u8 p, .int .u16 pc] ∧ Blk wx w1.heap.size 9 [.string ⟨#[83, 76, 79]⟩, .string ⟨#[82, 76, 65]⟩, .string ⟨#[83, 82, 69]⟩, .string ⟨#[82, 82, 65]⟩] ∧ Blk wx (w1.heap.size + 1) 9 [.string ⟨#[65, 83, 76]⟩, .string ⟨#[82, 79, 76]⟩, .string ⟨#[76, 83, 82]⟩, .string ⟨#[82, 79, 82]⟩] ∧ Blk wx (w1.heap.size + 1 + 1) 9 [.string ⟨#[79, 82, 65]⟩, .string ⟨#[65, 78, 68]⟩, .string ⟨#[69, 79, 82]⟩, .string ⟨#[65, 68, 67]⟩] ∧ Kept w wx [])
        case first =>
          have c0 := hbr.cell 0 rfl
          have c1 := hbr.cell 1 rfl
          have c2 := hbr.cell 2 rfl
          have c3 := hbr.cell 3 rfl
          have c4 := hbr.cell 4 rfl
          have c5 := hbr.cell 5 rfl
          have cs := hby.cell 2 rfl
          go_region_held3 (fun W => W.cell? ⟨w.heap.size, 0, none⟩ = some (.int .u8 a) ∧ W.cell? ⟨w.heap.size, 1, none⟩ = some (.int .u8 x) ∧ W.cell? ⟨w.heap.size, 2, none⟩ = some (.int .u8 y) ∧ W.cell? ⟨w.heap.size, 3, none⟩ = some (.int .u8 s) ∧ W.cell? ⟨w.heap.size, 4, none⟩ = some (.int .u8 p) ∧ W.cell? ⟨w.heap.size, 5, none⟩ = some (.int .u16 pc) ∧ W.cell? ⟨(w1.heap.size + 1), 2, none⟩ = some (.string ⟨#[76, 83, 82]⟩)) (first | (have hb : ∀ W, Blk W w.heap.size 29 [.int .u8 a, .int .u8 x, .int .u8 y, .int .u8 s, .int .u8 p, .int .u16 pc] → Blk W (w1.heap.size + 1) 9 [.string ⟨#[65, 83, 76]⟩, .string ⟨#[82, 79, 76]⟩, .string ⟨#[76, 83, 82]⟩, .string ⟨#[82, 79, 82]⟩] → (fun W => W.cell? ⟨w.heap.size, 0, none⟩ = some (.int .u8 a) ∧ W.cell? ⟨w.heap.size, 1, none⟩ = some (.int .u8 x) ∧ W.cell? ⟨w.heap.size, 2, none⟩ = some (.int .u8 y) ∧ W.cell? ⟨w.heap.size, 3, none⟩ = some (.int .u8 s) ∧ W.cell? ⟨w.heap.size, 4, none⟩ = some (.int .u8 p) ∧ W.cell? ⟨w.heap.size, 5, none⟩ = some (.int .u16 pc) ∧ W.cell? ⟨(w1.heap.size + 1), 2, none⟩ = some (.string ⟨#[76, 83, 82]⟩)) W := fun W h h2 => ⟨h.cell 0 rfl, h.cell 1 rfl, h.cell 2 rfl, h.cell 3 rfl, h.cell 4 rfl, h.cell 5 rfl, h2.cell 2 rfl⟩; apply hb <;> clear hb <;> ((repeat (first | (with_reducible exact hb12) | (with_reducible exact hbr2) | (with_reducible exact hbx2) | (with_reducible exact hby2) | (with_reducible exact hbz2) | (with_reducible refine Blk.top _ _ ?_ _ _; simp; done) | with_reducible refine Blk.drew ?_ | with_reducible refine Blk.alloc ?_ _ | (with_reducible refine Blk.far ?_ (by first | omega | (simp <;> omega)) _))); done)) | (have hb : ∀ W, Blk W w.heap.size 29 [.int .u8 a, .int .u8 x, .int .u8 y, .int .u8 s, .int .u8 p, .int .u16 pc] → Blk W (w1.heap.size + 1) 9 [.string ⟨#[65, 83, 76]⟩, .string ⟨#[82, 79, 76]⟩, .string ⟨#[76, 83, 82]⟩, .string ⟨#[82, 79, 82]⟩] → (fun W => W.cell? ⟨w.heap.size, 0, none⟩ = some (.int .u8 a) ∧ W.cell? ⟨w.heap.size, 1, none⟩ = some (.int .u8 x) ∧ W.cell? ⟨w.heap.size, 2, none⟩ = some (.int .u8 y) ∧ W.cell? ⟨w.heap.size, 3, none⟩ = some (.int .u8 s) ∧ W.cell? ⟨w.heap.size, 4, none⟩ = some (.int .u8 p) ∧ W.cell? ⟨w.heap.size, 5, none⟩ = some (.int .u16 pc) ∧ W.cell? ⟨(w1.heap.size + 1), 2, none⟩ = some (.string ⟨#[76, 83, 82]⟩)) W := fun W h h2 => ⟨h.cell 0 rfl, h.cell 1 rfl, h.cell 2 rfl, h.cell 3 rfl, h.cell 4 rfl, h.cell 5 rfl, h2.cell 2 rfl⟩; apply hb <;> clear hb <;> ((repeat (first | (with_reducible exact hb1) | (with_reducible exact hbr) | (with_reducible exact hbx) | (with_reducible exact hby) | (with_reducible exact hbz) | (with_reducible refine Blk.top _ _ ?_ _ _; simp; done) | with_reducible refine Blk.drew ?_ | with_reducible refine Blk.alloc ?_ _ | (with_reducible refine Blk.far ?_ (by first | omega | (simp <;> omega)) _))); done)) | go_keep) (first | (
            go_at_call 14
            refine (modifies_any _ ⟨#[76, 83, 82]⟩ ⟨a, x, y, s, p, pc⟩ m ⟨ha, hx, hy, hs, hp, hpc⟩ hm).mono ?_
            rintro _ w2 ⟨_, rfl, rfl, k2⟩
            rw [ByteArray.toList_eq, h2.out]
            have hb12 : Blk w2 b1 29 [.int .u8 M1.1.a, .int .u8 M1.1.x, .int .u8 M1.1.y, .int .u8 M1.1.s, .int .u8 M1.1.p, .int .u16 M1.1.pc] := by
              refine Blk.kept ?_ k2 (by simp)
              (repeat (first | (with_reducible exact hb1) | (with_reducible exact hbr) | (with_reducible exact hbx) | (with_reducible exact hby) | (with_reducible exact hbz) | (with_reducible refine Blk.top _ _ ?_ _ _; simp; done) | with_reducible refine Blk.drew ?_ | with_reducible refine Blk.alloc ?_ _ | (with_reducible refine Blk.far ?_ (by first | omega | (simp <;> omega)) _)))
            have hbr2 : Blk w2 w.heap.size 29 [.int .u8 a, .int .u8 x, .int .u8 y, .int .u8 s, .int .u8 p, .int .u16 pc] := by
              refine Blk.kept ?_ k2 (by simp)
              (repeat (first | (with_reducible exact hb1) | (with_reducible exact hbr) | (with_reducible exact hbx) | (with_reducible exact hby) | (with_reducible exact hbz) | (with_reducible refine Blk.top _ _ ?_ _ _; simp; done) | with_reducible refine Blk.drew ?_ | with_reducible refine Blk.alloc ?_ _ | (with_reducible refine Blk.far ?_ (by first | omega | (simp <;> omega)) _)))
            have hbx2 : Blk w2 w1.heap.size 9 [.string ⟨#[83, 76, 79]⟩, .string ⟨#[82, 76, 65]⟩, .string ⟨#[83, 82, 69]⟩, .string ⟨#[82, 82, 65]⟩] := by
              refine Blk.kept ?_ k2 (by simp)
              (repeat (first | (with_reducible exact hb1) | (with_reducible exact hbr) | (with_reducible exact hbx) | (with_reducible exact hby) | (with_reducible exact hbz) | (with_reducible refine Blk.top _ _ ?_ _ _; simp; done) | with_reducible refine Blk.drew ?_ | with_reducible refine Blk.alloc ?_ _ | (with_reducible refine Blk.far ?_ (by first | omega | (simp <;> omega)) _)))
            have hby2 : Blk w2 (w1.heap.size + 1) 9 [.string ⟨#[65, 83, 76]⟩, .string ⟨#[82, 79, 76]⟩, .string ⟨#[76, 83, 82]⟩, .string ⟨#[82, 79, 82]⟩] := by
              refine Blk.kept ?_ k2 (by simp)
              (repeat (first | (with_reducible exact hb1) | (with_reducible exact hbr) | (with_reducible exact hbx) | (with_reducible exact hby) | (with_reducible exact hbz) | (with_reducible refine Blk.top _ _ ?_ _ _; simp; done) | with_reducible refine Blk.drew ?_ | with_reducible refine Blk.alloc ?_ _ | (with_reducible refine Blk.far ?_ (by first | omega | (simp <;> omega)) _)))
            have hbz2 : Blk w2 (w1.heap.size + 1 + 1) 9 [.string ⟨#[79, 82, 65]⟩, .string ⟨#[65, 78, 68]⟩, .string ⟨#[69, 79, 82]⟩, .string ⟨#[65, 68, 67]⟩] := by
              refine Blk.kept ?_ k2 (by simp)
              (repeat (first | (with_reducible exact hb1) | (with_reducible exact hbr) | (with_reducible exact hbx) | (with_reducible exact hby) | (with_reducible exact hbz) | (with_reducible refine Blk.top _ _ ?_ _ _; simp; done) | with_reducible refine Blk.drew ?_ | with_reducible refine Blk.alloc ?_ _ | (with_reducible refine Blk.far ?_ (by first | omega | (simp <;> omega)) _)))
            have kk2 : Kept w w2 [] := by
              refine Kept.trans ?_ k2 (by simp)
              repeat (first | (with_reducible exact hkept) | with_reducible apply Kept.alloc | with_reducible apply Kept.drew)
            have sz2 := k2.size
            try simp only [World.size_alloc, World.size_drew] at sz2
            try (have hZ2 : Blk w2 wc.heap.size 29 [.int .u8 0, .int .u8 0, .int .u8 0, .int .u8 0, .int .u8 0, .int .u16 0] := by
                  refine Blk.kept ?_ k2 (by simp)
                  (repeat (first | (with_reducible refine Blk.top _ _ ?_ _ _; simp; done) | with_reducible refine Blk.drew ?_ | with_reducible refine Blk.alloc ?_ _ | (with_reducible refine Blk.far ?_ (by first | omega | (simp <;> omega)) _)))
                  done)
            try have z0 := hZ2.cell 0 rfl
            try have zf0 := hZ2.free 0
            try have z1 := hZ2.cell 1 rfl
            try have zf1 := hZ2.free 1
            try have z2 := hZ2.cell 2 rfl
            try have zf2 := hZ2.free 2
            try have z3 := hZ2.cell 3 rfl
            try have zf3 := hZ2.free 3
            try have z4 := hZ2.cell 4 rfl
            try have zf4 := hZ2.free 4
            try have z5 := hZ2.cell 5 rfl
            try have zf5 := hZ2.free 5
            clear k2
            unfold Regs.val
            simp only []))
          all_goals (
            simp only [Exit.then]
            go_step
            go_meet
            case rel => exact ⟨_, rfl, by first | rfl | simp [e12], by (first | ((repeat (first | (with_reducible exact hb12) | (with_reducible exact hbr2) | (with_reducible exact hbx2) | (with_reducible exact hby2) | (with_reducible exact hbz2) | (with_reducible refine Blk.top _ _ ?_ _ _; simp; done) | with_reducible refine Blk.drew ?_ | with_reducible refine Blk.alloc ?_ _ | (with_reducible refine Blk.far ?_ (by first | omega | (simp <;> omega)) _))); done) | (first | exact (((((((hZ2.set 0 _).set 1 _).set 2 _).set 3 _).set 4 _).set 5 _).to rfl))), by (repeat (first | (with_reducible exact hb12) | (with_reducible exact hbr2) | (with_reducible exact hbx2) | (with_reducible exact hby2) | (with_reducible exact hbz2) | (with_reducible refine Blk.top _ _ ?_ _ _; simp; done) | with_reducible refine Blk.drew ?_ | with_reducible refine Blk.alloc ?_ _ | (with_reducible refine Blk.far ?_ (by first | omega | (simp <;> omega)) _))), by (repeat (first | (with_reducible exact hb12) | (with_reducible exact hbr2) | (with_reducible exact hbx2) | (with_reducible exact hby2) | (with_reducible exact hbz2) | (with_reducible refine Blk.top _ _ ?_ _ _; simp; done) | with_reducible refine Blk.drew ?_ | with_reducible refine Blk.alloc ?_ _ | (with_reducible refine Blk.far ?_ (by first | omega | (simp <;> omega)) _))), by (repeat (first | (with_reducible exact hb12) | (with_reducible exact hbr2) | (with_reducible exact hbx2) | (with_reducible exact hby2) | (with_reducible exact hbz2) | (with_reducible refine Blk.top _ _ ?_ _ _; simp; done) | with_reducible refine Blk.drew ?_ | with_reducible refine Blk.alloc ?_ _ | (with_reducible refine Blk.far ?_ (by first | omega | (simp <;> omega)) _))), by (repeat (first | (with_reducible exact hb12) | (with_reducible exact hbr2) | (with_reducible exact hbx2) | (with_reducible exact hby2) | (with_reducible exact hbz2) | (with_reducible refine Blk.top _ _ ?_ _ _; simp; done) | with_reducible refine Blk.drew ?_ | with_reducible refine Blk.alloc ?_ _ | (with_reducible refine Blk.far ?_ (by first | omega | (simp <;> omega)) _))), by (repeat (first | (with_reducible exact hb12) | (with_reducible exact hbr2) | (with_reducible exact hbx2) | (with_reducible exact hby2) | (with_reducible exact hbz2) | (with_reducible refine Blk.top _ _ ?_ _ _; simp; done) | with_reducible refine Blk.drew ?_ | with_reducible refine Blk.alloc ?_ _ | (with_reducible refine Blk.far ?_ (by first | omega | (simp <;> omega)) _))), by repeat (first | (with_reducible exact kk2) | with_reducible apply Kept.alloc | with_reducible apply Kept.drew | (with_reducible refine Kept.setCell ?_ (Or.inr (by first | omega | (simp <;> omega))) _))⟩)
        case rest =>
          obtain ⟨b2, rfl, rfl, hb2, hb1, hbr, hbx, hby, hbz, hkept⟩ := hcut
          have p0 := hb1.cell 0 rfl
          have p1 := hb1.cell 1 rfl
          have p2 := hb1.cell 2 rfl
          have p3 := hb1.cell 3 rfl
          have p4 := hb1.cell 4 rfl
          have p5 := hb1.cell 5 rfl
          have q0 := hb2.cell 0 rfl
          have q1 := hb2.cell 1 rfl
          have q2 := hb2.cell 2 rfl
          have q3 := hb2.cell 3 rfl
          have q4 := hb2.cell 4 rfl
          have q5 := hb2.cell 5 rfl
          have cs := hbz.cell 2 rfl
          go_upto_region 10 with fail
          go_region_held3 (fun W => W.cell? ⟨b1, 0, none⟩ = some (.int .u8 M1.1.a) ∧ W.cell? ⟨b1, 1, none⟩ = some (.int .u8 M1.1.x) ∧ W.cell? ⟨b1, 2, none⟩ = some (.int .u8 M1.1.y) ∧ W.cell? ⟨b1, 3, none⟩ = some (.int .u8 M1.1.s) ∧ W.cell? ⟨b1, 4, none⟩ = some (.int .u8 M1.1.p) ∧ W.cell? ⟨b1, 5, none⟩ = some (.int .u16 M1.1.pc) ∧ W.cell? ⟨b2, 0, none⟩ = some (.int .u8 M2.1.a) ∧ W.cell? ⟨b2, 1, none⟩ = some (.int .u8 M2.1.x) ∧ W.cell? ⟨b2, 2, none⟩ = some (.int .u8 M2.1.y) ∧ W.cell? ⟨b2, 3, none⟩ = some (.int .u8 M2.1.s) ∧ W.cell? ⟨b2, 4, none⟩ = some (.int .u8 M2.1.p) ∧ W.cell? ⟨b2, 5, none⟩ = some (.int .u16 M2.1.pc) ∧ W.cell? ⟨w1.heap.size + 1 + 1, 2, none⟩ = some (.string ⟨#[69, 79, 82]⟩)) (first | (with_reducible exact ⟨n0, n1, n2, n3, n4, n5, m0, m1, m2, m3, m4, m5, ns⟩) | go_keep) (first | (
            go_at_call 23
            refine (reads_any _ ⟨#[69, 79, 82]⟩ M2.1 M2.2 okM.out okb.out).mono ?_
            rintro _ w2 ⟨_, rfl, rfl, k2⟩
            rw [ByteArray.toList_eq, e11.out]
            have hb22 := hb2.drew.kept k2 (by simp)
            have hb12 := hb1.drew.kept k2 (by simp)
            have hbr2 := hbr.drew.kept k2 (by simp)
            have hbx2 := hbx.drew.kept k2 (by simp)
            have hby2 := hby.drew.kept k2 (by simp)
            have hbz2 := hbz.drew.kept k2 (by simp)
            have kk2 := (hkept.drew).trans k2 (by simp)
            have n1 := hb12.cell 0 rfl
            have n0 := hb12.cell 0 rfl
            have n1 := hb12.cell 1 rfl
            have n2 := hb12.cell 2 rfl
            have n3 := hb12.cell 3 rfl
            have n4 := hb12.cell 4 rfl
            have n5 := hb12.cell 5 rfl
            have m0 := hb22.cell 0 rfl
            have m1 := hb22.cell 1 rfl
            have m2 := hb22.cell 2 rfl
            have m3 := hb22.cell 3 rfl
            have m4 := hb22.cell 4 rfl
            have m5 := hb22.cell 5 rfl
            have ns := hbz2.cell 2 rfl
            clear k2
            unfold Regs.val
            simp only []))
          go_wp2_with fail
          go_roundg 1
          case measure => omega
          case rel => exact ⟨3, by omega, rfl, hbr2, hbx2, hby2, hbz2, kk2⟩
    · obtain ⟨M1, h1⟩ : ∃ M, modifiesM [82, 82, 65] ⟨a, x, y, s, p, pc⟩ m = M := ⟨_, rfl⟩
      obtain ⟨M2, h2⟩ : ∃ M, modifiesM [82, 79, 82] ⟨a, x, y, s, p, pc⟩ m = M := ⟨_, rfl⟩
      have e12 : M1.2 = M2.2 := by rw [← h1, ← h2]; rfl
      have e11 : readsM [65, 68, 67] M2.1 M2.2 = M1.1 := by rw [← h1, ← h2]; rfl
      have sb := (shift_b hm hp).2.2.2
      have okM : M2.1.Ok := by rw [← h2]; exact ok_mk ha hx hy hs sb.2 hpc
      have okb : Byte M2.2 := by rw [← h2]; exact sb.1
      clear sb
      replace e11 := Lib.hid e11
      replace e12 := Lib.hid e12
      replace h1 := Lib.hid h1
      replace h2 := Lib.hid h2
      replace okM := Lib.hid okM
      replace okb := Lib.hid okb
      go_upto_region 8 with fail
      go_cut [10, 11] from 22 to 59 (fun v v2 wx => ∃ nb, v = .pointer (some ⟨nb, 0, none⟩) ∧ v2 = .int .u8 M2.2 ∧ Blk wx nb 29 [.int .u8 M1.1.a, .int .u8 M1.1.x, .int .u8 M1.1.y, .int .u8 M1.1.s, .int .u8 M1.1.p, .int .u16 M1.1.pc] ∧ Blk wx w.heap.size 29 [.int .u8 a, .int .u8 x, .int .u8 y, .int .u8 s, .int .u8 p, .int .u16 pc] ∧ Blk wx w1.heap.size 9 [.string ⟨#[83, 76, 79]⟩, .string ⟨#[82, 76, 65]⟩, .string ⟨#[83, 82, 69]⟩, .string ⟨#[82, 82, 65]⟩] ∧ Blk wx (w1.heap.size + 1) 9 [.string ⟨#[65, 83, 76]⟩, .string ⟨#[82, 79, 76]⟩, .string ⟨#[76, 83, 82]⟩, .string ⟨#[82, 79, 82]⟩] ∧ Blk wx (w1.heap.size + 1 + 1) 9 [.string ⟨#[79, 82, 65]⟩, .string ⟨#[65, 78, 68]⟩, .string ⟨#[69, 79, 82]⟩, .string ⟨#[65, 68, 67]⟩] ∧ Kept w wx [])
      case first =>
        have c0 := hbr.cell 0 rfl
        have c1 := hbr.cell 1 rfl
        have c2 := hbr.cell 2 rfl
        have c3 := hbr.cell 3 rfl
        have c4 := hbr.cell 4 rfl
        have c5 := hbr.cell 5 rfl
        have cs := hbx.cell 3 rfl
        go_region_held3 (fun W => W.cell? ⟨w.heap.size, 0, none⟩ = some (.int .u8 a) ∧ W.cell? ⟨w.heap.size, 1, none⟩ = some (.int .u8 x) ∧ W.cell? ⟨w.heap.size, 2, none⟩ = some (.int .u8 y) ∧ W.cell? ⟨w.heap.size, 3, none⟩ = some (.int .u8 s) ∧ W.cell? ⟨w.heap.size, 4, none⟩ = some (.int .u8 p) ∧ W.cell? ⟨w.heap.size, 5, none⟩ = some (.int .u16 pc) ∧ W.cell? ⟨w1.heap.size, 3, none⟩ = some (.string ⟨#[82, 82, 65]⟩)) (first | (have hb : ∀ W, Blk W w.heap.size 29 [.int .u8 a, .int .u8 x, .int .u8 y, .int .u8 s, .int .u8 p, .int .u16 pc] → Blk W w1.heap.size 9 [.string ⟨#[83, 76, 79]⟩, .string ⟨#[82, 76, 65]⟩, .string ⟨#[83, 82, 69]⟩, .string ⟨#[82, 82, 65]⟩] → (fun W => W.cell? ⟨w.heap.size, 0, none⟩ = some (.int .u8 a) ∧ W.cell? ⟨w.heap.size, 1, none⟩ = some (.int .u8 x) ∧ W.cell? ⟨w.heap.size, 2, none⟩ = some (.int .u8 y) ∧ W.cell? ⟨w.heap.size, 3, none⟩ = some (.int .u8 s) ∧ W.cell? ⟨w.heap.size, 4, none⟩ = some (.int .u8 p) ∧ W.cell? ⟨w.heap.size, 5, none⟩ = some (.int .u16 pc) ∧ W.cell? ⟨w1.heap.size, 3, none⟩ = some (.string ⟨#[82, 82, 65]⟩)) W := fun W h h2 => ⟨h.cell 0 rfl, h.cell 1 rfl, h.cell 2 rfl, h.cell 3 rfl, h.cell 4 rfl, h.cell 5 rfl, h2.cell 3 rfl⟩; apply hb <;> clear hb <;> ((repeat (first | (with_reducible exact hbr2) | (with_reducible exact hbx2) | (with_reducible exact hby2) | (with_reducible exact hbz2) | (with_reducible refine Blk.top _ _ ?_ _ _; simp; done) | with_reducible refine Blk.drew ?_ | with_reducible refine Blk.alloc ?_ _ | (with_reducible refine Blk.far ?_ (by first | omega | (simp <;> omega)) _))); done)) | (have hb : ∀ W, Blk W w.heap.size 29 [.int .u8 a, .int .u8 x, .int .u8 y, .int .u8 s, .int .u8 p, .int .u16 pc] → Blk W w1.heap.size 9 [.string ⟨#[83, 76, 79]⟩, .string ⟨#[82, 76, 65]⟩, .string ⟨#[83, 82, 69]⟩, .string ⟨#[82, 82, 65]⟩] → (fun W => W.cell? ⟨w.heap.size, 0, none⟩ = some (.int .u8 a) ∧ W.cell? ⟨w.heap.size, 1, none⟩ = some (.int .u8 x) ∧ W.cell? ⟨w.heap.size, 2, none⟩ = some (.int .u8 y) ∧ W.cell? ⟨w.heap.size, 3, none⟩ = some (.int .u8 s) ∧ W.cell? ⟨w.heap.size, 4, none⟩ = some (.int .u8 p) ∧ W.cell? ⟨w.heap.size, 5, none⟩ = some (.int .u16 pc) ∧ W.cell? ⟨w1.heap.size, 3, none⟩ = some (.string ⟨#[82, 82, 65]⟩)) W := fun W h h2 => ⟨h.cell 0 rfl, h.cell 1 rfl, h.cell 2 rfl, h.cell 3 rfl, h.cell 4 rfl, h.cell 5 rfl, h2.cell 3 rfl⟩; apply hb <;> clear hb <;> ((repeat (first | (with_reducible exact hbr) | (with_reducible exact hbx) | (with_reducible exact hby) | (with_reducible exact hbz) | (with_reducible refine Blk.top _ _ ?_ _ _; simp; done) | with_reducible refine Blk.drew ?_ | with_reducible refine Blk.alloc ?_ _ | (with_reducible refine Blk.far ?_ (by first | omega | (simp <;> omega)) _))); done)) | go_keep) (first | (
          go_at_call 14
          refine (modifies_any _ ⟨#[82, 82, 65]⟩ ⟨a, x, y, s, p, pc⟩ m ⟨ha, hx, hy, hs, hp, hpc⟩ hm).mono ?_
          rintro _ w2 ⟨_, rfl, rfl, k2⟩
          rw [ByteArray.toList_eq, h1.out]
          have hbr2 : Blk w2 w.heap.size 29 [.int .u8 a, .int .u8 x, .int .u8 y, .int .u8 s, .int .u8 p, .int .u16 pc] := by
            refine Blk.kept ?_ k2 (by simp)
            (repeat (first | (with_reducible exact hbr) | (with_reducible exact hbx) | (with_reducible exact hby) | (with_reducible exact hbz) | (with_reducible refine Blk.top _ _ ?_ _ _; simp; done) | with_reducible refine Blk.drew ?_ | with_reducible refine Blk.alloc ?_ _ | (with_reducible refine Blk.far ?_ (by first | omega | (simp <;> omega)) _)))
          have hbx2 : Blk w2 w1.heap.size 9 [.string ⟨#[83, 76, 79]⟩, .string ⟨#[82, 76, 65]⟩, .string ⟨#[83, 82, 69]⟩, .string ⟨#[82, 82, 65]⟩] := by
            refine Blk.kept ?_ k2 (by simp)
            (repeat (first | (with_reducible exact hbr) | (with_reducible exact hbx) | (with_reducible exact hby) | (with_reducible exact hbz) | (with_reducible refine Blk.top _ _ ?_ _ _; simp; done) | with_reducible refine Blk.drew ?_ | with_reducible refine Blk.alloc ?_ _ | (with_reducible refine Blk.far ?_ (by first | omega | (simp <;> omega)) _)))
          have hby2 : Blk w2 (w1.heap.size + 1) 9 [.string ⟨#[65, 83, 76]⟩, .string ⟨#[82, 79, 76]⟩, .string ⟨#[76, 83, 82]⟩, .string ⟨#[82, 79, 82]⟩] := by
            refine Blk.kept ?_ k2 (by simp)
            (repeat (first | (with_reducible exact hbr) | (with_reducible exact hbx) | (with_reducible exact hby) | (with_reducible exact hbz) | (with_reducible refine Blk.top _ _ ?_ _ _; simp; done) | with_reducible refine Blk.drew ?_ | with_reducible refine Blk.alloc ?_ _ | (with_reducible refine Blk.far ?_ (by first | omega | (simp <;> omega)) _)))
          have hbz2 : Blk w2 (w1.heap.size + 1 + 1) 9 [.string ⟨#[79, 82, 65]⟩, .string ⟨#[65, 78, 68]⟩, .string ⟨#[69, 79, 82]⟩, .string ⟨#[65, 68, 67]⟩] := by
            refine Blk.kept ?_ k2 (by simp)
            (repeat (first | (with_reducible exact hbr) | (with_reducible exact hbx) | (with_reducible exact hby) | (with_reducible exact hbz) | (with_reducible refine Blk.top _ _ ?_ _ _; simp; done) | with_reducible refine Blk.drew ?_ | with_reducible refine Blk.alloc ?_ _ | (with_reducible refine Blk.far ?_ (by first | omega | (simp <;> omega)) _)))
          have kk2 : Kept w w2 [] := by
            refine Kept.trans ?_ k2 (by simp)
            repeat (first | (with_reducible exact hkept) | with_reducible apply Kept.alloc | with_reducible apply Kept.drew)
          have sz2 := k2.size
          try simp only [World.size_alloc, World.size_drew] at sz2
          try (have hZ2 : Blk w2 wr.heap.size 29 [.int .u8 0, .int .u8 0, .int .u8 0, .int .u8 0, .int .u8 0, .int .u16 0] := by
                refine Blk.kept ?_ k2 (by simp)
                (repeat (first | (with_reducible refine Blk.top _ _ ?_ _ _; simp; done) | with_reducible refine Blk.drew ?_ | with_reducible refine Blk.alloc ?_ _ | (with_reducible refine Blk.far ?_ (by first | omega | (simp <;> omega)) _)))
                done)
          try have z0 := hZ2.cell 0 rfl
          try have zf0 := hZ2.free 0
          try have z1 := hZ2.cell 1 rfl
          try have zf1 := hZ2.free 1
          try have z2 := hZ2.cell 2 rfl
          try have zf2 := hZ2.free 2
          try have z3 := hZ2.cell 3 rfl
          try have zf3 := hZ2.free 3
          try have z4 := hZ2.cell 4 rfl
          try have zf4 := hZ2.free 4
          try have z5 := hZ2.cell 5 rfl
          try have zf5 := hZ2.free 5
          clear k2
          unfold Regs.val
          simp only []))
        all_goals (
          simp only [Exit.then]
          go_step
          go_meet
          case rel => exact ⟨_, rfl, by first | rfl | simp [e12.out], by (first | ((repeat (first | (with_reducible exact hbr2) | (with_reducible exact hbx2) | (with_reducible exact hby2) | (with_reducible exact hbz2) | (with_reducible refine Blk.top _ _ ?_ _ _; simp; done) | with_reducible refine Blk.drew ?_ | with_reducible refine Blk.alloc ?_ _ | (with_reducible refine Blk.far ?_ (by first | omega | (simp <;> omega)) _))); done) | (first | exact (((((((hZ2.set 0 _).set 1 _).set 2 _).set 3 _).set 4 _).set 5 _).to rfl))), by (repeat (first | (with_reducible exact hbr2) | (with_reducible exact hbx2) | (with_reducible exact hby2) | (with_reducible exact hbz2) | (with_reducible refine Blk.top _ _ ?_ _ _; simp; done) | with_reducible refine Blk.drew ?_ | with_reducible refine Blk.alloc ?_ _ | (with_reducible refine Blk.far ?_ (by first | omega | (simp <;> omega)) _))), by (repeat (first | (with_reducible exact hbr2) | (with_reducible exact hbx2) | (with_reducible exact hby2) | (with_reducible exact hbz2) | (with_reducible refine Blk.top _ _ ?_ _ _; simp; done) | with_reducible refine Blk.drew ?_ | with_reducible refine Blk.alloc ?_ _ | (with_reducible refine Blk.far ?_ (by first | omega | (simp <;> omega)) _))), by (repeat (first | (with_reducible exact hbr2) | (with_reducible exact hbx2) | (with_reducible exact hby2) | (with_reducible exact hbz2) | (with_reducible refine Blk.top _ _ ?_ _ _; simp; done) | with_reducible refine Blk.drew ?_ | with_reducible refine Blk.alloc ?_ _ | (with_reducible refine Blk.far ?_ (by first | omega | (simp <;> omega)) _))), by (repeat (first | (with_reducible exact hbr2) | (with_reducible exact hbx2) | (with_reducible exact hby2) | (with_reducible exact hbz2) | (with_reducible refine Blk.top _ _ ?_ _ _; simp; done) | with_reducible refine Blk.drew ?_ | with_reducible refine Blk.alloc ?_ _ | (with_reducible refine Blk.far ?_ (by first | omega | (simp <;> omega)) _))), by repeat (first | (with_reducible exact kk2) | with_reducible apply Kept.alloc | with_reducible apply Kept.drew | (with_reducible refine Kept.setCell ?_ (Or.inr (by first | omega | (simp <;> omega))) _))⟩)
      case rest =>
        obtain ⟨b1, rfl, rfl, hb1, hbr, hbx, hby, hbz, hkept⟩ := hcut
        have l0 := hbr.lt
        have l1 := hbx.lt
        have l2 := hby.lt
        have l3 := hbz.lt
        have l4 := hb1.lt
        go_upto_region 9 with fail
        go_cut [12, 13] from 22 to 59 (fun v v2 wx => ∃ nb, v = .pointer (some ⟨nb, 0, none⟩) ∧ v2 = .int .u8 M2.2 ∧ Blk wx nb 29 [.int .u8 M2.1.a, .int .u8 M2.1.x, .int .u8 M2.1.y, .int .u8 M2.1.s, .int .u8 M2.1.p, .int .u16 M2.1.pc] ∧ Blk wx b1 29 [.int .u8 M1.1.a, .int .u8 M1.1.x, .int .u8 M1.1.y, .int .u8 M1.1.s, .int .u8 M1.1.p, .int .u16 M1.1.pc] ∧ Blk wx w.heap.size 29 [.int .u8 a, .int .u8 x, .int .u8 y, .int .u8 s, .int .u8 p, .int .u16 pc] ∧ Blk wx w1.heap.size 9 [.string ⟨#[83, 76, 79]⟩, .string ⟨#[82, 76, 65]⟩, .string ⟨#[83, 82, 69]⟩, .string ⟨#[82, 82, 65]⟩] ∧ Blk wx (w1.heap.size + 1) 9 [.string ⟨#[65, 83, 76]⟩, .string ⟨#[82, 79, 76]⟩, .string ⟨#[76, 83, 82]⟩, .string ⟨#[82, 79, 82]⟩] ∧ Blk wx (w1.heap.size + 1 + 1) 9 [.string ⟨#[79, 82, 65]⟩, .string ⟨#[65, 78, 68]⟩, .string ⟨#[69, 79, 82]⟩, .string ⟨#[65, 68, 67]⟩] ∧ Kept w wx [])
        case first =>
          have c0 := hbr.cell 0 rfl
          have c1 := hbr.cell 1 rfl
          have c2 := hbr.cell 2 rfl
          have c3 := hbr.cell 3 rfl
          have c4 := hbr.cell 4 rfl
          have c5 := hbr.cell 5 rfl
          have cs := hby.cell 3 rfl
          go_region_held3 (fun W => W.cell? ⟨w.heap.size, 0, none⟩ = some (.int .u8 a) ∧ W.cell? ⟨w.heap.size, 1, none⟩ = some (.int .u8 x) ∧ W.cell? ⟨w.heap.size, 2, none⟩ = some (.int .u8 y) ∧ W.cell? ⟨w.heap.size, 3, none⟩ = some (.int .u8 s) ∧ W.cell? ⟨w.heap.size, 4, none⟩ = some (.int .u8 p) ∧ W.cell? ⟨w.heap.size, 5, none⟩ = some (.int .u16 pc) ∧ W.cell? ⟨(w1.heap.size + 1), 3, none⟩ = some (.string ⟨#[82, 79, 82]⟩)) (first | (have hb : ∀ W, Blk W w.heap.size 29 [.int .u8 a, .int .u8 x, .int .u8 y, .int .u8 s, .int .u8 p, .int .u16 pc] → Blk W (w1.heap.size + 1) 9 [.string ⟨#[65, 83, 76]⟩, .string ⟨#[82, 79, 76]⟩, .string ⟨#[76, 83, 82]⟩, .string ⟨#[82, 79, 82]⟩] → (fun W => W.cell? ⟨w.heap.size, 0, none⟩ = some (.int .u8 a) ∧ W.cell? ⟨w.heap.size, 1, none⟩ = some (.int .u8 x) ∧ W.cell? ⟨w.heap.size, 2, none⟩ = some (.int .u8 y) ∧ W.cell? ⟨w.heap.size, 3, none⟩ = some (.int .u8 s) ∧ W.cell? ⟨w.heap.size, 4, none⟩ = some (.int .u8 p) ∧ W.cell? ⟨w.heap.size, 5, none⟩ = some (.int .u16 pc) ∧ W.cell? ⟨(w1.heap.size + 1), 3, none⟩ = some (.string ⟨#[82, 79, 82]⟩)) W := fun W h h2 => ⟨h.cell 0 rfl, h.cell 1 rfl, h.cell 2 rfl, h.cell 3 rfl, h.cell 4 rfl, h.cell 5 rfl, h2.cell 3 rfl⟩; apply hb <;> clear hb <;> ((repeat (first | (with_reducible exact hb12) | (with_reducible exact hbr2) | (with_reducible exact hbx2) | (with_reducible exact hby2) | (with_reducible exact hbz2) | (with_reducible refine Blk.top _ _ ?_ _ _; simp; done) | with_reducible refine Blk.drew ?_ | with_reducible refine Blk.alloc ?_ _ | (with_reducible refine Blk.far ?_ (by first | omega | (simp <;> omega)) _))); done)) | (have hb : ∀ W, Blk W w.heap.size 29 [.int .u8 a, .int .u8 x, .int .u8 y, .int .u8 s, .int .u8 p, .int .u16 pc] → Blk W (w1.heap.size + 1) 9 [.string ⟨#[65, 83, 76]⟩, .string ⟨#[82, 79, 76]⟩, .string ⟨#[76, 83, 82]⟩, .string ⟨#[82, 79, 82]⟩] → (fun W => W.cell? ⟨w.heap.size, 0, none⟩ = some (.int .u8 a) ∧ W.cell? ⟨w.heap.size, 1, none⟩ = some (.int .u8 x) ∧ W.cell? ⟨w.heap.size, 2, none⟩ = some (.int .u8 y) ∧ W.cell? ⟨w.heap.size, 3, none⟩ = some (.int .u8 s) ∧ W.cell? ⟨w.heap.size, 4, none⟩ = some (.int .u8 p) ∧ W.cell? ⟨w.heap.size, 5, none⟩ = some (.int .u16 pc) ∧ W.cell? ⟨(w1.heap.size + 1), 3, none⟩ = some (.string ⟨#[82, 79, 82]⟩)) W := fun W h h2 => ⟨h.cell 0 rfl, h.cell 1 rfl, h.cell 2 rfl, h.cell 3 rfl, h.cell 4 rfl, h.cell 5 rfl, h2.cell 3 rfl⟩; apply hb <;> clear hb <;> ((repeat (first | (with_reducible exact hb1) | (with_reducible exact hbr) | (with_reducible exact hbx) | (with_reducible exact hby) | (with_reducible exact hbz) | (with_reducible refine Blk.top _ _ ?_ _ _; simp; done) | with_reducible refine Blk.drew ?_ | with_reducible refine Blk.alloc ?_ _ | (with_reducible refine Blk.far ?_ (by first | omega | (simp <;> omega)) _))); done)) | go_keep) (first | (
            go_at_call 14
            refine (modifies_any _ ⟨#[82, 79, 82]⟩ ⟨a, x, y, s, p, pc⟩ m ⟨ha, hx, hy, hs, hp, hpc⟩ hm).mono ?_
            rintro _ w2 ⟨_, rfl, rfl, k2⟩
            rw [ByteArray.toList_eq, h2.out]
            have hb12 : Blk w2 b1 29 [.int .u8 M1.1.a, .int .u8 M1.1.x, .int .u8 M1.1.y, .int .u8 M1.1.s, .int .u8 M1.1.p, .int .u16 M1.1.pc] := by
              refine Blk.kept ?_ k2 (by simp)
              (repeat (first | (with_reducible exact hb1) | (with_reducible exact hbr) | (with_reducible exact hbx) | (with_reducible exact hby) | (with_reducible exact hbz) | (with_reducible refine Blk.top _ _ ?_ _ _; simp; done) | with_reducible refine Blk.drew ?_ | with_reducible refine Blk.alloc ?_ _ | (with_reducible refine Blk.far ?_ (by first | omega | (simp <;> omega)) _)))
            have hbr2 : Blk w2 w.heap.size 29 [.int .u8 a, .int .u8 x, .int .u8 y, .int .u8 s, .int .u8 p, .int .u16 pc] := by
              refine Blk.kept ?_ k2 (by simp)
              (repeat (first | (with_reducible exact hb1) | (with_reducible exact hbr) | (with_reducible exact hbx) | (with_reducible exact hby) | (with_reducible exact hbz) | (with_reducible refine Blk.top _ _ ?_ _ _; simp; done) | with_reducible refine Blk.drew ?_ | with_reducible refine Blk.alloc ?_ _ | (with_reducible refine Blk.far ?_ (by first | omega | (simp <;> omega)) _)))
            have hbx2 : Blk w2 w1.heap.size 9 [.string ⟨#[83, 76, 79]⟩, .string ⟨#[82, 76, 65]⟩, .string ⟨#[83, 82, 69]⟩, .string ⟨#[82, 82, 65]⟩] := by
              refine Blk.kept ?_ k2 (by simp)
              (repeat (first | (with_reducible exact hb1) | (with_reducible exact hbr) | (with_reducible exact hbx) | (with_reducible exact hby) | (with_reducible exact hbz) | (with_reducible refine Blk.top _ _ ?_ _ _; simp; done) | with_reducible refine Blk.drew ?_ | with_reducible refine Blk.alloc ?_ _ | (with_reducible refine Blk.far ?_ (by first | omega | (simp <;> omega)) _)))
            have hby2 : Blk w2 (w1.heap.size + 1) 9 [.string ⟨#[65, 83, 76]⟩, .string ⟨#[82, 79, 76]⟩, .string ⟨#[76, 83, 82]⟩, .string ⟨#[82, 79, 82]⟩] := by
              refine Blk.kept ?_ k2 (by simp)
              (repeat (first | (with_reducible exact hb1) | (with_reducible exact hbr) | (with_reducible exact hbx) | (with_reducible exact hby) | (with_reducible exact hbz) | (with_reducible refine Blk.top _ _ ?_ _ _; simp; done) | with_reducible refine Blk.drew ?_ | with_reducible refine Blk.alloc ?_ _ | (with_reducible refine Blk.far ?_ (by first | omega | (simp <;> omega)) _)))
            have hbz2 : Blk w2 (w1.heap.size + 1 + 1) 9 [.string ⟨#[79, 82, 65]⟩, .string ⟨#[65, 78, 68]⟩, .string ⟨#[69, 79, 82]⟩, .string ⟨#[65, 68, 67]⟩] := by
              refine Blk.kept ?_ k2 (by simp)
              (repeat (first | (with_reducible exact hb1) | (with_reducible exact hbr) | (with_reducible exact hbx) | (with_reducible exact hby) | (with_reducible exact hbz) | (with_reducible refine Blk.top _ _ ?_ _ _; simp; done) | with_reducible refine Blk.drew ?_ | with_reducible refine Blk.alloc ?_ _ | (with_reducible refine Blk.far ?_ (by first | omega | (simp <;> omega)) _)))
            have kk2 : Kept w w2 [] := by
              refine Kept.trans ?_ k2 (by simp)
              repeat (first | (with_reducible exact hkept) | with_reducible apply Kept.alloc | with_reducible apply Kept.drew)
            have sz2 := k2.size
            try simp only [World.size_alloc, World.size_drew] at sz2
            try (have hZ2 : Blk w2 wc.heap.size 29 [.int .u8 0, .int .u8 0, .int .u8 0, .int .u8 0, .int .u8 0, .int .u16 0] := by
                  refine Blk.kept ?_ k2 (by simp)
                  (repeat (first | (with_reducible refine Blk.top _ _ ?_ _ _; simp; done) | with_reducible refine Blk.drew ?_ | with_reducible refine Blk.alloc ?_ _ | (with_reducible refine Blk.far ?_ (by first | omega | (simp <;> omega)) _)))
                  done)
            try have z0 := hZ2.cell 0 rfl
            try have zf0 := hZ2.free 0
            try have z1 := hZ2.cell 1 rfl
            try have zf1 := hZ2.free 1
            try have z2 := hZ2.cell 2 rfl
            try have zf2 := hZ2.free 2
            try have z3 := hZ2.cell 3 rfl
            try have zf3 := hZ2.free 3
            try have z4 := hZ2.cell 4 rfl
            try have zf4 := hZ2.free 4
            try have z5 := hZ2.cell 5 rfl
            try have zf5 := hZ2.free 5
            clear k2
            unfold Regs.val
            simp only []))
          all_goals (
            simp only [Exit.then]
            go_step
            go_meet
            case rel => exact ⟨_, rfl, by first | rfl | simp [e12], by (first | ((repeat (first | (with_reducible exact hb12) | (with_reducible exact hbr2) | (with_reducible exact hbx2) | (with_reducible exact hby2) | (with_reducible exact hbz2) | (with_reducible refine Blk.top _ _ ?_ _ _; simp; done) | with_reducible refine Blk.drew ?_ | with_reducible refine Blk.alloc ?_ _ | (with_reducible refine Blk.far ?_ (by first | omega | (simp <;> omega)) _))); done) | (first | exact (((((((hZ2.set 0 _).set 1 _).set 2 _).set 3 _).set 4 _).set 5 _).to rfl))), by (repeat (first | (with_reducible exact hb12) | (with_reducible exact hbr2) | (with_reducible exact hbx2) | (with_reducible exact hby2) | (with_reducible exact hbz2) | (with_reducible refine Blk.top _ _ ?_ _ _; simp; done) | with_reducible refine Blk.drew ?_ | with_reducible refine Blk.alloc ?_ _ | (with_reducible refine Blk.far ?_ (by first | omega | (simp <;> omega)) _))), by (repeat (first | (with_reducible exact hb12) | (with_reducible exact hbr2) | (with_reducible exact hbx2) | (with_reducible exact hby2) | (with_reducible exact hbz2) | (with_reducible refine Blk.top _ _ ?_ _ _; simp; done) | with_reducible refine Blk.drew ?_ | with_reducible refine Blk.alloc ?_ _ | (with_reducible refine Blk.far ?_ (by first | omega | (simp <;> omega)) _))), by (repeat (first | (with_reducible exact hb12) | (with_reducible exact hbr2) | (with_reducible exact hbx2) | (with_reducible exact hby2) | (with_reducible exact hbz2) | (with_reducible refine Blk.top _ _ ?_ _ _; simp; done) | with_reducible refine Blk.drew ?_ | with_reducible refine Blk.alloc ?_ _ | (with_reducible refine Blk.far ?_ (by first | omega | (simp <;> omega)) _))), by (repeat (first | (with_reducible exact hb12) | (with_reducible exact hbr2) | (with_reducible exact hbx2) | (with_reducible exact hby2) | (with_reducible exact hbz2) | (with_reducible refine Blk.top _ _ ?_ _ _; simp; done) | with_reducible refine Blk.drew ?_ | with_reducible refine Blk.alloc ?_ _ | (with_reducible refine Blk.far ?_ (by first | omega | (simp <;> omega)) _))), by (repeat (first | (with_reducible exact hb12) | (with_reducible exact hbr2) | (with_reducible exact hbx2) | (with_reducible exact hby2) | (with_reducible exact hbz2) | (with_reducible refine Blk.top _ _ ?_ _ _; simp; done) | with_reducible refine Blk.drew ?_ | with_reducible refine Blk.alloc ?_ _ | (with_reducible refine Blk.far ?_ (by first | omega | (simp <;> omega)) _))), by repeat (first | (with_reducible exact kk2) | with_reducible apply Kept.alloc | with_reducible apply Kept.drew | (with_reducible refine Kept.setCell ?_ (Or.inr (by first | omega | (simp <;> omega))) _))⟩)
        case rest =>
          obtain ⟨b2, rfl, rfl, hb2, hb1, hbr, hbx, hby, hbz, hkept⟩ := hcut
          have p0 := hb1.cell 0 rfl
          have p1 := hb1.cell 1 rfl
          have p2 := hb1.cell 2 rfl
          have p3 := hb1.cell 3 rfl
          have p4 := hb1.cell 4 rfl
          have p5 := hb1.cell 5 rfl
          have q0 := hb2.cell 0 rfl
          have q1 := hb2.cell 1 rfl
          have q2 := hb2.cell 2 rfl
          have q3 := hb2.cell 3 rfl
          have q4 := hb2.cell 4 rfl
          have q5 := hb2.cell 5 rfl
          have cs := hbz.cell 3 rfl
          go_upto_region 10 with fail
          go_region_held3 (fun W => W.cell? ⟨b1, 0, none⟩ = some (.int .u8 M1.1.a) ∧ W.cell? ⟨b1, 1, none⟩ = some (.int .u8 M1.1.x) ∧ W.cell? ⟨b1, 2, none⟩ = some (.int .u8 M1.1.y) ∧ W.cell? ⟨b1, 3, none⟩ = some (.int .u8 M1.1.s) ∧ W.cell? ⟨b1, 4, none⟩ = some (.int .u8 M1.1.p) ∧ W.cell? ⟨b1, 5, none⟩ = some (.int .u16 M1.1.pc) ∧ W.cell? ⟨b2, 0, none⟩ = some (.int .u8 M2.1.a) ∧ W.cell? ⟨b2, 1, none⟩ = some (.int .u8 M2.1.x) ∧ W.cell? ⟨b2, 2, none⟩ = some (.int .u8 M2.1.y) ∧ W.cell? ⟨b2, 3, none⟩ = some (.int .u8 M2.1.s) ∧ W.cell? ⟨b2, 4, none⟩ = some (.int .u8 M2.1.p) ∧ W.cell? ⟨b2, 5, none⟩ = some (.int .u16 M2.1.pc) ∧ W.cell? ⟨w1.heap.size + 1 + 1, 3, none⟩ = some (.string ⟨#[65, 68, 67]⟩)) (first | (with_reducible exact ⟨n0, n1, n2, n3, n4, n5, m0, m1, m2, m3, m4, m5, ns⟩) | go_keep) (first | (
            go_at_call 23
            refine (reads_any _ ⟨#[65, 68, 67]⟩ M2.1 M2.2 okM.out okb.out).mono ?_
            rintro _ w2 ⟨_, rfl, rfl, k2⟩
            rw [ByteArray.toList_eq, e11.out]
            have hb22 := hb2.drew.kept k2 (by simp)
            have hb12 := hb1.drew.kept k2 (by simp)
            have hbr2 := hbr.drew.kept k2 (by simp)
            have hbx2 := hbx.drew.kept k2 (by simp)
            have hby2 := hby.drew.kept k2 (by simp)
            have hbz2 := hbz.drew.kept k2 (by simp)
            have kk2 := (hkept.drew).trans k2 (by simp)
            have n1 := hb12.cell 0 rfl
            have n0 := hb12.cell 0 rfl
            have n1 := hb12.cell 1 rfl
            have n2 := hb12.cell 2 rfl
            have n3 := hb12.cell 3 rfl
            have n4 := hb12.cell 4 rfl
            have n5 := hb12.cell 5 rfl
            have m0 := hb22.cell 0 rfl
            have m1 := hb22.cell 1 rfl
            have m2 := hb22.cell 2 rfl
            have m3 := hb22.cell 3 rfl
            have m4 := hb22.cell 4 rfl
            have m5 := hb22.cell 5 rfl
            have ns := hbz2.cell 3 rfl
            clear k2
            unfold Regs.val
            simp only []))
          go_wp2_with fail
          go_roundg 0
          case measure => omega
          case rel => exact ⟨4, by omega, rfl, hbr2, hbx2, hby2, hbz2, kk2⟩
    · clear hk hbx hby hbz hz l0 l1 l2 l3
      have hk := hkept
      clear hkept
      have c0 := hbr.cell 0 rfl
      have c1 := hbr.cell 1 rfl
      have c2 := hbr.cell 2 rfl
      have c3 := hbr.cell 3 rfl
      have c4 := hbr.cell 4 rfl
      have c5 := hbr.cell 5 rfl
      go_wp2_with fail
      refine (reads_any _ ⟨#[76, 65, 88]⟩ ⟨a, x, y, s, p, pc⟩ m ⟨ha, hx, hy, hs, hp, hpc⟩ hm).mono ?_
      rintro _ k1w ⟨_, rfl, rfl, k1⟩
      rw [ByteArray.toList_eq, readsM_LAX]
      unfold Regs.val
      simp only []
      go_upto_region 13 with fail
      obtain ⟨b12, hb12⟩ : ∃ b12, k1w.heap.size = b12 := ⟨_, rfl⟩
      refine open_world (fun W => Blk W w.heap.size 29 [.int .u8 a, .int .u8 x, .int .u8 y, .int .u8 s, .int .u8 p, .int .u16 pc] ∧ Blk W k1w.heap.size 29 [.int .u8 m, .int .u8 m, .int .u8 y, .int .u8 s, .int .u8 (nzM p m), .int .u16 pc] ∧ Kept w W []) ⟨(hbr.kept k1 (by simp)).alloc _, Blk.new _ _ _, Kept.alloc (Kept.trans hk k1 (by simp)) _⟩ ?_
      clear hbr hk k1
      rintro wd12 ⟨hbr, hbc, hk⟩
      rw [hb12] at hbc ⊢
      clear hb12
      clear c0 c1 c2 c3 c4 c5
      have c0 := hbr.cell 0 rfl
      have c1 := hbr.cell 1 rfl
      have c2 := hbr.cell 2 rfl
      have c3 := hbr.cell 3 rfl
      have c4 := hbr.cell 4 rfl
      have c5 := hbr.cell 5 rfl
      go_wp2_with fail
      refine (reads_any _ ⟨#[76, 68, 88]⟩ ⟨a, x, y, s, p, pc⟩ m ⟨ha, hx, hy, hs, hp, hpc⟩ hm).mono ?_
      rintro _ k1w ⟨_, rfl, rfl, k1⟩
      rw [ByteArray.toList_eq, readsM_LDX]
      go_wp2_with fail
      refine (reads_any _ ⟨#[76, 68, 65]⟩ ⟨a, m, y, s, nzM p m, pc⟩ m (ok_mk ha hm hy hs (nzM_b hp) hpc) hm).mono ?_
      rintro _ k2w ⟨_, rfl, rfl, k2⟩
      rw [ByteArray.toList_eq, readsM_LDA]
      unfold Regs.val
      simp only []
      go_upto_region 14 with fail
      obtain ⟨b13, hb13⟩ : ∃ b13, k2w.heap.size = b13 := ⟨_, rfl⟩
      refine open_world (fun W => Blk W w.heap.size 29 [.int .u8 a, .int .u8 x, .int .u8 y, .int .u8 s, .int .u8 p, .int .u16 pc] ∧ Blk W b12 29 [.int .u8 m, .int .u8 m, .int .u8 y, .int .u8 s, .int .u8 (nzM p m), .int .u16 pc] ∧ Blk W k2w.heap.size 29 [.int .u8 m, .int .u8 m, .int .u8 y, .int .u8 s, .int .u8 (nzM (nzM p m) m), .int .u16 pc] ∧ Kept w W []) ⟨((hbr.kept k1 (by simp)).kept k2 (by simp)).alloc _, ((hbc.kept k1 (by simp)).kept k2 (by simp)).alloc _, Blk.new _ _ _, Kept.alloc (Kept.trans (Kept.trans hk k1 (by simp)) k2 (by simp)) _⟩ ?_
      clear hbr hbc hk k1 k2
      rintro wd13 ⟨hbr, hbc, hbd, hk⟩
      rw [hb13] at hbd ⊢
      clear hb13
      clear c0 c1 c2 c3 c4 c5
      have c0 := hbr.cell 0 rfl
      have c1 := hbr.cell 1 rfl
      have c2 := hbr.cell 2 rfl
      have c3 := hbr.cell 3 rfl
      have c4 := hbr.cell 4 rfl
      have c5 := hbr.cell 5 rfl
      go_wp2_with fail
      refine (writes_any _ ⟨#[83, 65, 88]⟩ ⟨a, x, y, s, p, pc⟩ 0 ⟨ha, hx, hy, hs, hp, hpc⟩ (by simp [Byte])).mono ?_
      rintro _ k1w ⟨_, rfl, rfl, k1⟩
      rw [ByteArray.toList_eq, writesM_SAX]
      unfold Regs.val
      simp only []
      go_upto_region 15 with fail
      obtain ⟨b14, hb14⟩ : ∃ b14, k1w.heap.size = b14 := ⟨_, rfl⟩
      refine open_world (fun W => Blk W w.heap.size 29 [.int .u8 a, .int .u8 x, .int .u8 y, .int .u8 s, .int .u8 p, .int .u16 pc] ∧ Blk W b12 29 [.int .u8 m, .int .u8 m, .int .u8 y, .int .u8 s, .int .u8 (nzM p m), .int .u16 pc] ∧ Blk W b13 29 [.int .u8 m, .int .u8 m, .int .u8 y, .int .u8 s, .int .u8 (nzM (nzM p m) m), .int .u16 pc] ∧ Blk W k1w.heap.size 29 [.int .u8 a, .int .u8 x, .int .u8 y, .int .u8 s, .int .u8 p, .int .u16 pc] ∧ Kept w W []) ⟨(hbr.kept k1 (by simp)).alloc _, (hbc.kept k1 (by simp)).alloc _, (hbd.kept k1 (by simp)).alloc _, Blk.new _ _ _, Kept.alloc (Kept.trans hk k1 (by simp)) _⟩ ?_
      clear hbr hbc hbd hk k1
      rintro wd14 ⟨hbr, hbc, hbd, hbe, hk⟩
      rw [hb14] at hbe ⊢
      clear hb14
      rw [nz_nz hp] at hbd
      clear c0 c1 c2 c3 c4 c5
      have fhbr0 := hbr.cell 0 rfl
      have fhbr1 := hbr.cell 1 rfl
      have fhbr2 := hbr.cell 2 rfl
      have fhbr3 := hbr.cell 3 rfl
      have fhbr4 := hbr.cell 4 rfl
      have fhbr5 := hbr.cell 5 rfl
      have fhbc0 := hbc.cell 0 rfl
      have fhbc1 := hbc.cell 1 rfl
      have fhbc2 := hbc.cell 2 rfl
      have fhbc3 := hbc.cell 3 rfl
      have fhbc4 := hbc.cell 4 rfl
      have fhbc5 := hbc.cell 5 rfl
      have fhbd0 := hbd.cell 0 rfl
      have fhbd1 := hbd.cell 1 rfl
      have fhbd2 := hbd.cell 2 rfl
      have fhbd3 := hbd.cell 3 rfl
      have fhbd4 := hbd.cell 4 rfl
      have fhbd5 := hbd.cell 5 rfl
      have fhbe0 := hbe.cell 0 rfl
      have fhbe1 := hbe.cell 1 rfl
      have fhbe2 := hbe.cell 2 rfl
      have fhbe3 := hbe.cell 3 rfl
      have fhbe4 := hbe.cell 4 rfl
      have fhbe5 := hbe.cell 5 rfl
      clear hbc hbd hbe hbr
      go_wp2_with fail
      go_ret
      exact ⟨by simp, hk.below _ (Nat.le_refl _) (by simp)⟩

end Go.Proofs.Ytmiihcaccejklaa
