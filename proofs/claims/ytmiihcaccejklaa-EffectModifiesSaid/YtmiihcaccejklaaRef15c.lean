/- PROVED: the contract of keepsakeref15.Reads, name by name, the first names. No conditions beyond those that each theorem states. -/
import Derived.Test.YtmiihcaccejklaaRef15a
import Derived.Test.YtmiihcaccejklaaRef13c
import Derived.Test.YtmiihcaccejklaaRef13f
import Derived.Test.YtmiihcaccejklaaRef13g
import Derived.Deep.RegionHeld3
import Derived.Deep.RegionWith
namespace Go.Proofs.Ytmiihcaccejklaa
open Go.RowKit Go.Proofs.YtmiihcaccejklaaLib
set_option linter.unusedSimpArgs false
set_option linter.unusedVariables false

set_option maxHeartbeats 1000000 in
theorem rsetA_x (w : World) (r : Regs) (v : Int) (hr : r.Ok) (hv : Byte v) :
    Calls Try.prog 35 #[r.val, .int .u8 v] w fun e W => e = .returned ({ r with a := v, p := nzM r.p v } : Regs).val ∧
      (w.alloc (.cells #[.int .u8 v, .int .u8 r.x, .int .u8 r.y, .int .u8 r.s, .int .u8 (nzM r.p v), .int .u16 r.pc] 29)).alloc (.cells #[.int .u8 v, .int .u8 r.x, .int .u8 r.y, .int .u8 r.s, .int .u8 (nzM r.p v), .int .u16 r.pc] 29) = W := by
  obtain ⟨a, x, y, s, p, pc⟩ := r
  obtain ⟨ha, hx, hy, hs, hp, hpc⟩ := hr
  unfold Regs.val
  go_enter Try.func35, Try.ntmps35
  go_wp2_with fail
  refine (rnz_any _ p v hp hv).mono ?_
  rintro _ _ ⟨rfl, rfl⟩
  go_wp2_with fail
  go_returns
  exact ⟨rfl, rfl⟩

set_option maxRecDepth 100000 in
set_option maxHeartbeats 2000000 in
theorem rreads_LDA (w : World) (n : ByteArray) (r : Regs) (m : Int) (hr : r.Ok) (hm : Byte m) (q0 : (n.toList == [76, 68, 65]) = true) :
    Calls Try.prog 24 #[.string n, r.val, .int .u8 m] w (Post w [] fun v W => v = ({ r with a := m, p := nzM r.p m } : Regs).val) := by
  obtain ⟨a, x, y, s, p, pc⟩ := r
  have HM := Lib.hid hm
  have HA := Lib.hid hr.a
  have HX := Lib.hid hr.x
  have HY := Lib.hid hr.y
  have HS := Lib.hid hr.s
  have HP := Lib.hid hr.p
  have HR := Lib.hid hr
  obtain ⟨ha, hx, hy, hs, hp, hpc⟩ := hr
  dsimp only at HA HX HY HS HP
  unfold Regs.val
  go_enter Try.func24, Try.ntmps24
  go_wp2_with fail
  refine (rsetA_x _ ⟨a, x, y, s, p, pc⟩ m HR.out HM.out).mono ?_
  rintro _ _ ⟨rfl, rfl⟩
  (try unfold Regs.val)
  go_wp2_with fail
  all_goals (
    go_returns
    exact ⟨_, rfl, rfl, by repeat (first | with_reducible exact Kept.refl _ _ | with_reducible assumption | with_reducible apply Kept.alloc | with_reducible apply Kept.drew | with_reducible apply Kept.drewN | (with_reducible refine Kept.setCell ?_ (Or.inr (by simp <;> omega)) _))⟩)

set_option maxRecDepth 100000 in
set_option maxHeartbeats 2000000 in
theorem rreads_LDX (w : World) (n : ByteArray) (r : Regs) (m : Int) (hr : r.Ok) (hm : Byte m) (q0 : (n.toList == [76, 68, 65]) = false) (q1 : (n.toList == [76, 68, 88]) = true) :
    Calls Try.prog 24 #[.string n, r.val, .int .u8 m] w (Post w [] fun v W => v = ({ r with x := m, p := nzM r.p m } : Regs).val) := by
  obtain ⟨a, x, y, s, p, pc⟩ := r
  have HM := Lib.hid hm
  have HA := Lib.hid hr.a
  have HX := Lib.hid hr.x
  have HY := Lib.hid hr.y
  have HS := Lib.hid hr.s
  have HP := Lib.hid hr.p
  have HR := Lib.hid hr
  obtain ⟨ha, hx, hy, hs, hp, hpc⟩ := hr
  dsimp only at HA HX HY HS HP
  unfold Regs.val
  go_enter Try.func24, Try.ntmps24
  go_wp2_with fail
  refine (rnz_any _ p (m) HP.out (by (first | exact HM.out | exact HA.out | exact HX.out | exact HY.out | exact HS.out | exact HP.out | exact byte_bits _ _ _ | exact mod_b _ | (simp [Byte]; done) | (with_reducible assumption)))).mono ?_
  rintro _ _ ⟨rfl, rfl⟩
  (try unfold Regs.val)
  go_wp2_with fail
  all_goals (
    go_returns
    exact ⟨_, rfl, rfl, by repeat (first | with_reducible exact Kept.refl _ _ | with_reducible assumption | with_reducible apply Kept.alloc | with_reducible apply Kept.drew | with_reducible apply Kept.drewN | (with_reducible refine Kept.setCell ?_ (Or.inr (by simp <;> omega)) _))⟩)

set_option maxRecDepth 100000 in
set_option maxHeartbeats 2000000 in
theorem rreads_LDY (w : World) (n : ByteArray) (r : Regs) (m : Int) (hr : r.Ok) (hm : Byte m) (q0 : (n.toList == [76, 68, 65]) = false) (q1 : (n.toList == [76, 68, 88]) = false) (q2 : (n.toList == [76, 68, 89]) = true) :
    Calls Try.prog 24 #[.string n, r.val, .int .u8 m] w (Post w [] fun v W => v = ({ r with y := m, p := nzM r.p m } : Regs).val) := by
  obtain ⟨a, x, y, s, p, pc⟩ := r
  have HM := Lib.hid hm
  have HA := Lib.hid hr.a
  have HX := Lib.hid hr.x
  have HY := Lib.hid hr.y
  have HS := Lib.hid hr.s
  have HP := Lib.hid hr.p
  have HR := Lib.hid hr
  obtain ⟨ha, hx, hy, hs, hp, hpc⟩ := hr
  dsimp only at HA HX HY HS HP
  unfold Regs.val
  go_enter Try.func24, Try.ntmps24
  go_wp2_with fail
  refine (rnz_any _ p (m) HP.out (by (first | exact HM.out | exact HA.out | exact HX.out | exact HY.out | exact HS.out | exact HP.out | exact byte_bits _ _ _ | exact mod_b _ | (simp [Byte]; done) | (with_reducible assumption)))).mono ?_
  rintro _ _ ⟨rfl, rfl⟩
  (try unfold Regs.val)
  go_wp2_with fail
  all_goals (
    go_returns
    exact ⟨_, rfl, rfl, by repeat (first | with_reducible exact Kept.refl _ _ | with_reducible assumption | with_reducible apply Kept.alloc | with_reducible apply Kept.drew | with_reducible apply Kept.drewN | (with_reducible refine Kept.setCell ?_ (Or.inr (by simp <;> omega)) _))⟩)

set_option maxRecDepth 100000 in
set_option maxHeartbeats 2000000 in
theorem rreads_LAX (w : World) (n : ByteArray) (r : Regs) (m : Int) (hr : r.Ok) (hm : Byte m) (q0 : (n.toList == [76, 68, 65]) = false) (q1 : (n.toList == [76, 68, 88]) = false) (q2 : (n.toList == [76, 68, 89]) = false) (q3 : (n.toList == [76, 65, 88]) = true) :
    Calls Try.prog 24 #[.string n, r.val, .int .u8 m] w (Post w [] fun v W => v = ({ r with a := m, x := m, p := nzM r.p m } : Regs).val) := by
  obtain ⟨a, x, y, s, p, pc⟩ := r
  have HM := Lib.hid hm
  have HA := Lib.hid hr.a
  have HX := Lib.hid hr.x
  have HY := Lib.hid hr.y
  have HS := Lib.hid hr.s
  have HP := Lib.hid hr.p
  have HR := Lib.hid hr
  obtain ⟨ha, hx, hy, hs, hp, hpc⟩ := hr
  dsimp only at HA HX HY HS HP
  unfold Regs.val
  go_enter Try.func24, Try.ntmps24
  go_wp2_with fail
  refine (rsetA_x _ ⟨a, m, y, s, p, pc⟩ m ⟨ha, hm, hy, hs, hp, hpc⟩ HM.out).mono ?_
  rintro _ _ ⟨rfl, rfl⟩
  (try unfold Regs.val)
  go_wp2_with fail
  all_goals (
    go_returns
    exact ⟨_, rfl, rfl, by repeat (first | with_reducible exact Kept.refl _ _ | with_reducible assumption | with_reducible apply Kept.alloc | with_reducible apply Kept.drew | with_reducible apply Kept.drewN | (with_reducible refine Kept.setCell ?_ (Or.inr (by simp <;> omega)) _))⟩)

set_option maxRecDepth 100000 in
set_option maxHeartbeats 2000000 in
theorem rreads_ORA (w : World) (n : ByteArray) (r : Regs) (m : Int) (hr : r.Ok) (hm : Byte m) (q0 : (n.toList == [76, 68, 65]) = false) (q1 : (n.toList == [76, 68, 88]) = false) (q2 : (n.toList == [76, 68, 89]) = false) (q3 : (n.toList == [76, 65, 88]) = false) (q4 : (n.toList == [79, 82, 65]) = true) :
    Calls Try.prog 24 #[.string n, r.val, .int .u8 m] w (Post w [] fun v W => v = ({ r with a := bits .or .u8 r.a m, p := nzM r.p (bits .or .u8 r.a m) } : Regs).val) := by
  obtain ⟨a, x, y, s, p, pc⟩ := r
  have HM := Lib.hid hm
  have HA := Lib.hid hr.a
  have HX := Lib.hid hr.x
  have HY := Lib.hid hr.y
  have HS := Lib.hid hr.s
  have HP := Lib.hid hr.p
  have HR := Lib.hid hr
  obtain ⟨ha, hx, hy, hs, hp, hpc⟩ := hr
  dsimp only at HA HX HY HS HP
  unfold Regs.val
  go_enter Try.func24, Try.ntmps24
  go_wp2_with fail
  go_region_held3 (fun W => W.cell? ⟨w.heap.size, 0, none⟩ = some (.int .u8 a) ∧ W.cell? ⟨w.heap.size, 1, none⟩ = some (.int .u8 x) ∧ W.cell? ⟨w.heap.size, 2, none⟩ = some (.int .u8 y) ∧ W.cell? ⟨w.heap.size, 3, none⟩ = some (.int .u8 s) ∧ W.cell? ⟨w.heap.size, 4, none⟩ = some (.int .u8 p) ∧ W.cell? ⟨w.heap.size, 5, none⟩ = some (.int .u16 pc)) (go_keep) (first | (go_at_call 36; refine (refor_any _ _ _ (by (first | exact HM.out | exact HA.out | exact HX.out | exact HY.out | exact HS.out | exact HP.out | exact byte_bits _ _ _ | exact mod_b _ | (simp [Byte]; done) | (with_reducible assumption))) (by (first | exact HM.out | exact HA.out | exact HX.out | exact HY.out | exact HS.out | exact HP.out | exact byte_bits _ _ _ | exact mod_b _ | (simp [Byte]; done) | (with_reducible assumption)))).mono ?_; rintro _ _ ⟨rfl, rfl⟩; (try unfold Regs.val); simp only []) | (go_at_call 35; refine (rsetA_x _ ⟨a, x, y, s, p, pc⟩ _ HR.out (by (first | exact HM.out | exact HA.out | exact HX.out | exact HY.out | exact HS.out | exact HP.out | exact byte_bits _ _ _ | exact mod_b _ | (simp [Byte]; done) | (with_reducible assumption)))).mono ?_; rintro _ _ ⟨rfl, rfl⟩; (try unfold Regs.val); simp only []))
  go_wp2_with fail
  all_goals (
    go_returns
    exact ⟨_, rfl, rfl, by repeat (first | with_reducible exact Kept.refl _ _ | with_reducible assumption | with_reducible apply Kept.alloc | with_reducible apply Kept.drew | with_reducible apply Kept.drewN | (with_reducible refine Kept.setCell ?_ (Or.inr (by simp <;> omega)) _))⟩)

set_option maxRecDepth 100000 in
set_option maxHeartbeats 2000000 in
theorem rreads_AND (w : World) (n : ByteArray) (r : Regs) (m : Int) (hr : r.Ok) (hm : Byte m) (q0 : (n.toList == [76, 68, 65]) = false) (q1 : (n.toList == [76, 68, 88]) = false) (q2 : (n.toList == [76, 68, 89]) = false) (q3 : (n.toList == [76, 65, 88]) = false) (q4 : (n.toList == [79, 82, 65]) = false) (q5 : (n.toList == [65, 78, 68]) = true) :
    Calls Try.prog 24 #[.string n, r.val, .int .u8 m] w (Post w [] fun v W => v = ({ r with a := bits .and .u8 r.a m, p := nzM r.p (bits .and .u8 r.a m) } : Regs).val) := by
  obtain ⟨a, x, y, s, p, pc⟩ := r
  have HM := Lib.hid hm
  have HA := Lib.hid hr.a
  have HX := Lib.hid hr.x
  have HY := Lib.hid hr.y
  have HS := Lib.hid hr.s
  have HP := Lib.hid hr.p
  have HR := Lib.hid hr
  obtain ⟨ha, hx, hy, hs, hp, hpc⟩ := hr
  dsimp only at HA HX HY HS HP
  unfold Regs.val
  go_enter Try.func24, Try.ntmps24
  go_wp2_with fail
  go_region_held3 (fun W => W.cell? ⟨w.heap.size, 0, none⟩ = some (.int .u8 a) ∧ W.cell? ⟨w.heap.size, 1, none⟩ = some (.int .u8 x) ∧ W.cell? ⟨w.heap.size, 2, none⟩ = some (.int .u8 y) ∧ W.cell? ⟨w.heap.size, 3, none⟩ = some (.int .u8 s) ∧ W.cell? ⟨w.heap.size, 4, none⟩ = some (.int .u8 p) ∧ W.cell? ⟨w.heap.size, 5, none⟩ = some (.int .u16 pc)) (go_keep) (first | (go_at_call 37; refine (rand_any _ _ _ (by (first | exact HM.out | exact HA.out | exact HX.out | exact HY.out | exact HS.out | exact HP.out | exact byte_bits _ _ _ | exact mod_b _ | (simp [Byte]; done) | (with_reducible assumption))) (by (first | exact HM.out | exact HA.out | exact HX.out | exact HY.out | exact HS.out | exact HP.out | exact byte_bits _ _ _ | exact mod_b _ | (simp [Byte]; done) | (with_reducible assumption)))).mono ?_; rintro _ _ ⟨rfl, rfl⟩; (try unfold Regs.val); simp only []) | (go_at_call 35; refine (rsetA_x _ ⟨a, x, y, s, p, pc⟩ _ HR.out (by (first | exact HM.out | exact HA.out | exact HX.out | exact HY.out | exact HS.out | exact HP.out | exact byte_bits _ _ _ | exact mod_b _ | (simp [Byte]; done) | (with_reducible assumption)))).mono ?_; rintro _ _ ⟨rfl, rfl⟩; (try unfold Regs.val); simp only []))
  go_wp2_with fail
  all_goals (
    go_returns
    exact ⟨_, rfl, rfl, by repeat (first | with_reducible exact Kept.refl _ _ | with_reducible assumption | with_reducible apply Kept.alloc | with_reducible apply Kept.drew | with_reducible apply Kept.drewN | (with_reducible refine Kept.setCell ?_ (Or.inr (by simp <;> omega)) _))⟩)

set_option maxRecDepth 100000 in
set_option maxHeartbeats 2000000 in
theorem rreads_EOR (w : World) (n : ByteArray) (r : Regs) (m : Int) (hr : r.Ok) (hm : Byte m) (q0 : (n.toList == [76, 68, 65]) = false) (q1 : (n.toList == [76, 68, 88]) = false) (q2 : (n.toList == [76, 68, 89]) = false) (q3 : (n.toList == [76, 65, 88]) = false) (q4 : (n.toList == [79, 82, 65]) = false) (q5 : (n.toList == [65, 78, 68]) = false) (q6 : (n.toList == [69, 79, 82]) = true) :
    Calls Try.prog 24 #[.string n, r.val, .int .u8 m] w (Post w [] fun v W => v = ({ r with a := bits .xor .u8 r.a m, p := nzM r.p (bits .xor .u8 r.a m) } : Regs).val) := by
  obtain ⟨a, x, y, s, p, pc⟩ := r
  have HM := Lib.hid hm
  have HA := Lib.hid hr.a
  have HX := Lib.hid hr.x
  have HY := Lib.hid hr.y
  have HS := Lib.hid hr.s
  have HP := Lib.hid hr.p
  have HR := Lib.hid hr
  obtain ⟨ha, hx, hy, hs, hp, hpc⟩ := hr
  dsimp only at HA HX HY HS HP
  unfold Regs.val
  go_enter Try.func24, Try.ntmps24
  go_wp2_with fail
  go_region_held3 (fun W => W.cell? ⟨w.heap.size, 0, none⟩ = some (.int .u8 a) ∧ W.cell? ⟨w.heap.size, 1, none⟩ = some (.int .u8 x) ∧ W.cell? ⟨w.heap.size, 2, none⟩ = some (.int .u8 y) ∧ W.cell? ⟨w.heap.size, 3, none⟩ = some (.int .u8 s) ∧ W.cell? ⟨w.heap.size, 4, none⟩ = some (.int .u8 p) ∧ W.cell? ⟨w.heap.size, 5, none⟩ = some (.int .u16 pc)) (go_keep) (first | (go_at_call 38; refine (refxor_any _ _ _ (by (first | exact HM.out | exact HA.out | exact HX.out | exact HY.out | exact HS.out | exact HP.out | exact byte_bits _ _ _ | exact mod_b _ | (simp [Byte]; done) | (with_reducible assumption))) (by (first | exact HM.out | exact HA.out | exact HX.out | exact HY.out | exact HS.out | exact HP.out | exact byte_bits _ _ _ | exact mod_b _ | (simp [Byte]; done) | (with_reducible assumption)))).mono ?_; rintro _ _ ⟨rfl, rfl⟩; (try unfold Regs.val); simp only []) | (go_at_call 35; refine (rsetA_x _ ⟨a, x, y, s, p, pc⟩ _ HR.out (by (first | exact HM.out | exact HA.out | exact HX.out | exact HY.out | exact HS.out | exact HP.out | exact byte_bits _ _ _ | exact mod_b _ | (simp [Byte]; done) | (with_reducible assumption)))).mono ?_; rintro _ _ ⟨rfl, rfl⟩; (try unfold Regs.val); simp only []))
  go_wp2_with fail
  all_goals (
    go_returns
    exact ⟨_, rfl, rfl, by repeat (first | with_reducible exact Kept.refl _ _ | with_reducible assumption | with_reducible apply Kept.alloc | with_reducible apply Kept.drew | with_reducible apply Kept.drewN | (with_reducible refine Kept.setCell ?_ (Or.inr (by simp <;> omega)) _))⟩)

set_option maxRecDepth 100000 in
set_option maxHeartbeats 2000000 in
theorem rreads_ADC (w : World) (n : ByteArray) (r : Regs) (m : Int) (hr : r.Ok) (hm : Byte m) (q0 : (n.toList == [76, 68, 65]) = false) (q1 : (n.toList == [76, 68, 88]) = false) (q2 : (n.toList == [76, 68, 89]) = false) (q3 : (n.toList == [76, 65, 88]) = false) (q4 : (n.toList == [79, 82, 65]) = false) (q5 : (n.toList == [65, 78, 68]) = false) (q6 : (n.toList == [69, 79, 82]) = false) (q7 : (n.toList == [65, 68, 67]) = true) :
    Calls Try.prog 24 #[.string n, r.val, .int .u8 m] w (Post w [] fun v W => v = ({ r with a := (adcM r.a m r.p).1, p := (adcM r.a m r.p).2 } : Regs).val) := by
  obtain ⟨a, x, y, s, p, pc⟩ := r
  have HM := Lib.hid hm
  have HA := Lib.hid hr.a
  have HX := Lib.hid hr.x
  have HY := Lib.hid hr.y
  have HS := Lib.hid hr.s
  have HP := Lib.hid hr.p
  have HR := Lib.hid hr
  obtain ⟨ha, hx, hy, hs, hp, hpc⟩ := hr
  dsimp only at HA HX HY HS HP
  unfold Regs.val
  go_enter Try.func24, Try.ntmps24
  go_wp2_with fail
  refine (radc_any _ a m p HA.out HM.out HP.out).mono ?_
  rintro _ _ ⟨rfl, rfl⟩
  (try unfold Regs.val)
  go_wp2_with fail
  all_goals (
    go_returns
    exact ⟨_, rfl, rfl, by repeat (first | with_reducible exact Kept.refl _ _ | with_reducible assumption | with_reducible apply Kept.alloc | with_reducible apply Kept.drew | with_reducible apply Kept.drewN | (with_reducible refine Kept.setCell ?_ (Or.inr (by simp <;> omega)) _))⟩)

set_option maxRecDepth 100000 in
set_option maxHeartbeats 2000000 in
theorem rreads_SBC (w : World) (n : ByteArray) (r : Regs) (m : Int) (hr : r.Ok) (hm : Byte m) (q0 : (n.toList == [76, 68, 65]) = false) (q1 : (n.toList == [76, 68, 88]) = false) (q2 : (n.toList == [76, 68, 89]) = false) (q3 : (n.toList == [76, 65, 88]) = false) (q4 : (n.toList == [79, 82, 65]) = false) (q5 : (n.toList == [65, 78, 68]) = false) (q6 : (n.toList == [69, 79, 82]) = false) (q7 : (n.toList == [65, 68, 67]) = false) (q8 : (n.toList == [83, 66, 67]) = true) :
    Calls Try.prog 24 #[.string n, r.val, .int .u8 m] w (Post w [] fun v W => v = ({ r with a := (sbcM r.a m r.p).1, p := (sbcM r.a m r.p).2 } : Regs).val) := by
  obtain ⟨a, x, y, s, p, pc⟩ := r
  have HM := Lib.hid hm
  have HA := Lib.hid hr.a
  have HX := Lib.hid hr.x
  have HY := Lib.hid hr.y
  have HS := Lib.hid hr.s
  have HP := Lib.hid hr.p
  have HR := Lib.hid hr
  obtain ⟨ha, hx, hy, hs, hp, hpc⟩ := hr
  dsimp only at HA HX HY HS HP
  unfold Regs.val
  go_enter Try.func24, Try.ntmps24
  go_wp2_with fail
  refine (rsbc_any _ a m p HA.out HM.out HP.out).mono ?_
  rintro _ _ ⟨rfl, rfl⟩
  (try unfold Regs.val)
  go_wp2_with fail
  all_goals (
    go_returns
    exact ⟨_, rfl, rfl, by repeat (first | with_reducible exact Kept.refl _ _ | with_reducible assumption | with_reducible apply Kept.alloc | with_reducible apply Kept.drew | with_reducible apply Kept.drewN | (with_reducible refine Kept.setCell ?_ (Or.inr (by simp <;> omega)) _))⟩)

set_option maxRecDepth 100000 in
set_option maxHeartbeats 2000000 in
theorem rreads_CMP (w : World) (n : ByteArray) (r : Regs) (m : Int) (hr : r.Ok) (hm : Byte m) (q0 : (n.toList == [76, 68, 65]) = false) (q1 : (n.toList == [76, 68, 88]) = false) (q2 : (n.toList == [76, 68, 89]) = false) (q3 : (n.toList == [76, 65, 88]) = false) (q4 : (n.toList == [79, 82, 65]) = false) (q5 : (n.toList == [65, 78, 68]) = false) (q6 : (n.toList == [69, 79, 82]) = false) (q7 : (n.toList == [65, 68, 67]) = false) (q8 : (n.toList == [83, 66, 67]) = false) (q9 : (n.toList == [67, 77, 80]) = true) :
    Calls Try.prog 24 #[.string n, r.val, .int .u8 m] w (Post w [] fun v W => v = ({ r with p := cmpM r.a m r.p } : Regs).val) := by
  obtain ⟨a, x, y, s, p, pc⟩ := r
  have HM := Lib.hid hm
  have HA := Lib.hid hr.a
  have HX := Lib.hid hr.x
  have HY := Lib.hid hr.y
  have HS := Lib.hid hr.s
  have HP := Lib.hid hr.p
  have HR := Lib.hid hr
  obtain ⟨ha, hx, hy, hs, hp, hpc⟩ := hr
  dsimp only at HA HX HY HS HP
  unfold Regs.val
  go_enter Try.func24, Try.ntmps24
  go_wp2_with fail
  refine (rcmp_any _ a m p HA.out HM.out HP.out).mono ?_
  rintro _ _ ⟨rfl, rfl⟩
  (try unfold Regs.val)
  go_wp2_with fail
  all_goals (
    go_returns
    exact ⟨_, rfl, rfl, by repeat (first | with_reducible exact Kept.refl _ _ | with_reducible assumption | with_reducible apply Kept.alloc | with_reducible apply Kept.drew | with_reducible apply Kept.drewN | (with_reducible refine Kept.setCell ?_ (Or.inr (by simp <;> omega)) _))⟩)

set_option maxRecDepth 100000 in
set_option maxHeartbeats 2000000 in
theorem rreads_CPX (w : World) (n : ByteArray) (r : Regs) (m : Int) (hr : r.Ok) (hm : Byte m) (q0 : (n.toList == [76, 68, 65]) = false) (q1 : (n.toList == [76, 68, 88]) = false) (q2 : (n.toList == [76, 68, 89]) = false) (q3 : (n.toList == [76, 65, 88]) = false) (q4 : (n.toList == [79, 82, 65]) = false) (q5 : (n.toList == [65, 78, 68]) = false) (q6 : (n.toList == [69, 79, 82]) = false) (q7 : (n.toList == [65, 68, 67]) = false) (q8 : (n.toList == [83, 66, 67]) = false) (q9 : (n.toList == [67, 77, 80]) = false) (q10 : (n.toList == [67, 80, 88]) = true) :
    Calls Try.prog 24 #[.string n, r.val, .int .u8 m] w (Post w [] fun v W => v = ({ r with p := cmpM r.x m r.p } : Regs).val) := by
  obtain ⟨a, x, y, s, p, pc⟩ := r
  have HM := Lib.hid hm
  have HA := Lib.hid hr.a
  have HX := Lib.hid hr.x
  have HY := Lib.hid hr.y
  have HS := Lib.hid hr.s
  have HP := Lib.hid hr.p
  have HR := Lib.hid hr
  obtain ⟨ha, hx, hy, hs, hp, hpc⟩ := hr
  dsimp only at HA HX HY HS HP
  unfold Regs.val
  go_enter Try.func24, Try.ntmps24
  go_wp2_with fail
  refine (rcmp_any _ x m p HX.out HM.out HP.out).mono ?_
  rintro _ _ ⟨rfl, rfl⟩
  (try unfold Regs.val)
  go_wp2_with fail
  all_goals (
    go_returns
    exact ⟨_, rfl, rfl, by repeat (first | with_reducible exact Kept.refl _ _ | with_reducible assumption | with_reducible apply Kept.alloc | with_reducible apply Kept.drew | with_reducible apply Kept.drewN | (with_reducible refine Kept.setCell ?_ (Or.inr (by simp <;> omega)) _))⟩)

set_option maxRecDepth 100000 in
set_option maxHeartbeats 2000000 in
theorem rreads_CPY (w : World) (n : ByteArray) (r : Regs) (m : Int) (hr : r.Ok) (hm : Byte m) (q0 : (n.toList == [76, 68, 65]) = false) (q1 : (n.toList == [76, 68, 88]) = false) (q2 : (n.toList == [76, 68, 89]) = false) (q3 : (n.toList == [76, 65, 88]) = false) (q4 : (n.toList == [79, 82, 65]) = false) (q5 : (n.toList == [65, 78, 68]) = false) (q6 : (n.toList == [69, 79, 82]) = false) (q7 : (n.toList == [65, 68, 67]) = false) (q8 : (n.toList == [83, 66, 67]) = false) (q9 : (n.toList == [67, 77, 80]) = false) (q10 : (n.toList == [67, 80, 88]) = false) (q11 : (n.toList == [67, 80, 89]) = true) :
    Calls Try.prog 24 #[.string n, r.val, .int .u8 m] w (Post w [] fun v W => v = ({ r with p := cmpM r.y m r.p } : Regs).val) := by
  obtain ⟨a, x, y, s, p, pc⟩ := r
  have HM := Lib.hid hm
  have HA := Lib.hid hr.a
  have HX := Lib.hid hr.x
  have HY := Lib.hid hr.y
  have HS := Lib.hid hr.s
  have HP := Lib.hid hr.p
  have HR := Lib.hid hr
  obtain ⟨ha, hx, hy, hs, hp, hpc⟩ := hr
  dsimp only at HA HX HY HS HP
  unfold Regs.val
  go_enter Try.func24, Try.ntmps24
  go_wp2_with fail
  refine (rcmp_any _ y m p HY.out HM.out HP.out).mono ?_
  rintro _ _ ⟨rfl, rfl⟩
  (try unfold Regs.val)
  go_wp2_with fail
  all_goals (
    go_returns
    exact ⟨_, rfl, rfl, by repeat (first | with_reducible exact Kept.refl _ _ | with_reducible assumption | with_reducible apply Kept.alloc | with_reducible apply Kept.drew | with_reducible apply Kept.drewN | (with_reducible refine Kept.setCell ?_ (Or.inr (by simp <;> omega)) _))⟩)

set_option maxRecDepth 100000 in
set_option maxHeartbeats 2000000 in
theorem rreads_BIT (w : World) (n : ByteArray) (r : Regs) (m : Int) (hr : r.Ok) (hm : Byte m) (q0 : (n.toList == [76, 68, 65]) = false) (q1 : (n.toList == [76, 68, 88]) = false) (q2 : (n.toList == [76, 68, 89]) = false) (q3 : (n.toList == [76, 65, 88]) = false) (q4 : (n.toList == [79, 82, 65]) = false) (q5 : (n.toList == [65, 78, 68]) = false) (q6 : (n.toList == [69, 79, 82]) = false) (q7 : (n.toList == [65, 68, 67]) = false) (q8 : (n.toList == [83, 66, 67]) = false) (q9 : (n.toList == [67, 77, 80]) = false) (q10 : (n.toList == [67, 80, 88]) = false) (q11 : (n.toList == [67, 80, 89]) = false) (q12 : (n.toList == [66, 73, 84]) = true) :
    Calls Try.prog 24 #[.string n, r.val, .int .u8 m] w (Post w [] fun v W => v = ({ r with p := bitM r.a m r.p } : Regs).val) := by
  obtain ⟨a, x, y, s, p, pc⟩ := r
  have HM := Lib.hid hm
  have HA := Lib.hid hr.a
  have HX := Lib.hid hr.x
  have HY := Lib.hid hr.y
  have HS := Lib.hid hr.s
  have HP := Lib.hid hr.p
  have HR := Lib.hid hr
  obtain ⟨ha, hx, hy, hs, hp, hpc⟩ := hr
  dsimp only at HA HX HY HS HP
  unfold Regs.val
  go_enter Try.func24, Try.ntmps24
  go_wp2_with fail
  refine (rbit_any _ a m p HA.out HM.out HP.out).mono ?_
  rintro _ _ ⟨rfl, rfl⟩
  (try unfold Regs.val)
  go_wp2_with fail
  all_goals (
    go_returns
    exact ⟨_, rfl, rfl, by repeat (first | with_reducible exact Kept.refl _ _ | with_reducible assumption | with_reducible apply Kept.alloc | with_reducible apply Kept.drew | with_reducible apply Kept.drewN | (with_reducible refine Kept.setCell ?_ (Or.inr (by simp <;> omega)) _))⟩)

end Go.Proofs.Ytmiihcaccejklaa
