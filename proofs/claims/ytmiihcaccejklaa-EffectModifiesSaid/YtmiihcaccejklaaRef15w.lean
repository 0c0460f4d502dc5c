/- PROVED: the contract of keepsakeref15.Writes. No conditions beyond those that each theorem states. -/
import Derived.Test.YtmiihcaccejklaaRef15a
import Derived.Test.YtmiihcaccejklaaRef13c
import Derived.Test.YtmiihcaccejklaaRef13f
import Derived.Test.YtmiihcaccejklaaRef15c
namespace Go.Proofs.Ytmiihcaccejklaa
open Go.RowKit Go.Proofs.YtmiihcaccejklaaLib
set_option linter.unusedSimpArgs false
set_option linter.unusedVariables false

set_option maxRecDepth 100000 in
set_option maxHeartbeats 2000000 in
theorem rwrites_STA (w : World) (n : ByteArray) (r : Regs) (m : Int) (hr : r.Ok) (hm : Byte m) (q0 : (n.toList == [83, 84, 65]) = true) :
    Calls Try.prog 17 #[.string n, r.val, .int .u8 m] w (Post w [] fun v W => v = .tuple #[((r, r.a) : Regs × Int).1.val, .int .u8 ((r, r.a) : Regs × Int).2]) := by
  obtain ⟨a, x, y, s, p, pc⟩ := r
  have HM := Lib.hid hm
  have HA := Lib.hid hr.a
  have HX := Lib.hid hr.x
  have HY := Lib.hid hr.y
  have HS := Lib.hid hr.s
  have HP := Lib.hid hr.p
  have HR := Lib.hid hr
  obtain ⟨ha, hx, hy, hs, hp, hpc⟩ := hr
  dsimp only at HA HX HY HS HP
  unfold Regs.val
  obtain ⟨m0, m1⟩ := HM.out
  go_enter Try.func17, Try.ntmps17
  go_wp2_with fail
  go_region
  all_goals (go_wp2_with fail)
  all_goals (
    go_returns
    exact ⟨_, rfl, rfl, by repeat (first | with_reducible exact Kept.refl _ _ | with_reducible assumption | with_reducible apply Kept.alloc | with_reducible apply Kept.drew | with_reducible apply Kept.drewN | (with_reducible refine Kept.setCell ?_ (Or.inr (by simp <;> omega)) _))⟩)

set_option maxRecDepth 100000 in
set_option maxHeartbeats 2000000 in
theorem rwrites_STX (w : World) (n : ByteArray) (r : Regs) (m : Int) (hr : r.Ok) (hm : Byte m) (q0 : (n.toList == [83, 84, 65]) = false) (q1 : (n.toList == [83, 84, 88]) = true) :
    Calls Try.prog 17 #[.string n, r.val, .int .u8 m] w (Post w [] fun v W => v = .tuple #[((r, r.x) : Regs × Int).1.val, .int .u8 ((r, r.x) : Regs × Int).2]) := by
  obtain ⟨a, x, y, s, p, pc⟩ := r
  have HM := Lib.hid hm
  have HA := Lib.hid hr.a
  have HX := Lib.hid hr.x
  have HY := Lib.hid hr.y
  have HS := Lib.hid hr.s
  have HP := Lib.hid hr.p
  have HR := Lib.hid hr
  obtain ⟨ha, hx, hy, hs, hp, hpc⟩ := hr
  dsimp only at HA HX HY HS HP
  unfold Regs.val
  obtain ⟨m0, m1⟩ := HM.out
  go_enter Try.func17, Try.ntmps17
  go_wp2_with fail
  go_region
  all_goals (go_wp2_with fail)
  all_goals (
    go_returns
    exact ⟨_, rfl, rfl, by repeat (first | with_reducible exact Kept.refl _ _ | with_reducible assumption | with_reducible apply Kept.alloc | with_reducible apply Kept.drew | with_reducible apply Kept.drewN | (with_reducible refine Kept.setCell ?_ (Or.inr (by simp <;> omega)) _))⟩)

set_option maxRecDepth 100000 in
set_option maxHeartbeats 2000000 in
theorem rwrites_STY (w : World) (n : ByteArray) (r : Regs) (m : Int) (hr : r.Ok) (hm : Byte m) (q0 : (n.toList == [83, 84, 65]) = false) (q1 : (n.toList == [83, 84, 88]) = false) (q2 : (n.toList == [83, 84, 89]) = true) :
    Calls Try.prog 17 #[.string n, r.val, .int .u8 m] w (Post w [] fun v W => v = .tuple #[((r, r.y) : Regs × Int).1.val, .int .u8 ((r, r.y) : Regs × Int).2]) := by
  obtain ⟨a, x, y, s, p, pc⟩ := r
  have HM := Lib.hid hm
  have HA := Lib.hid hr.a
  have HX := Lib.hid hr.x
  have HY := Lib.hid hr.y
  have HS := Lib.hid hr.s
  have HP := Lib.hid hr.p
  have HR := Lib.hid hr
  obtain ⟨ha, hx, hy, hs, hp, hpc⟩ := hr
  dsimp only at HA HX HY HS HP
  unfold Regs.val
  obtain ⟨m0, m1⟩ := HM.out
  go_enter Try.func17, Try.ntmps17
  go_wp2_with fail
  go_region
  all_goals (go_wp2_with fail)
  all_goals (
    go_returns
    exact ⟨_, rfl, rfl, by repeat (first | with_reducible exact Kept.refl _ _ | with_reducible assumption | with_reducible apply Kept.alloc | with_reducible apply Kept.drew | with_reducible apply Kept.drewN | (with_reducible refine Kept.setCell ?_ (Or.inr (by simp <;> omega)) _))⟩)

set_option maxRecDepth 100000 in
set_option maxHeartbeats 2000000 in
theorem rwrites_SAX (w : World) (n : ByteArray) (r : Regs) (m : Int) (hr : r.Ok) (hm : Byte m) (q0 : (n.toList == [83, 84, 65]) = false) (q1 : (n.toList == [83, 84, 88]) = false) (q2 : (n.toList == [83, 84, 89]) = false) (q3 : (n.toList == [83, 65, 88]) = true) :
    Calls Try.prog 17 #[.string n, r.val, .int .u8 m] w (Post w [] fun v W => v = .tuple #[((r, bits .and .u8 r.a r.x) : Regs × Int).1.val, .int .u8 ((r, bits .and .u8 r.a r.x) : Regs × Int).2]) := by
  obtain ⟨a, x, y, s, p, pc⟩ := r
  have HM := Lib.hid hm
  have HA := Lib.hid hr.a
  have HX := Lib.hid hr.x
  have HY := Lib.hid hr.y
  have HS := Lib.hid hr.s
  have HP := Lib.hid hr.p
  have HR := Lib.hid hr
  obtain ⟨ha, hx, hy, hs, hp, hpc⟩ := hr
  dsimp only at HA HX HY HS HP
  unfold Regs.val
  obtain ⟨m0, m1⟩ := HM.out
  go_enter Try.func17, Try.ntmps17
  go_wp2_with fail
  go_region_held3 (fun W => W.cell? ⟨w.heap.size, 0, none⟩ = some (.int .u8 a) ∧ W.cell? ⟨w.heap.size, 1, none⟩ = some (.int .u8 x) ∧ W.cell? ⟨w.heap.size, 2, none⟩ = some (.int .u8 y) ∧ W.cell? ⟨w.heap.size, 3, none⟩ = some (.int .u8 s) ∧ W.cell? ⟨w.heap.size, 4, none⟩ = some (.int .u8 p) ∧ W.cell? ⟨w.heap.size, 5, none⟩ = some (.int .u16 pc)) (go_keep) (first | (go_at_call 37; refine (rand_any _ _ _ (by (first | exact HM.out | exact HA.out | exact HX.out | exact HY.out | exact HS.out | exact HP.out | exact byte_bits _ _ _ | exact mod_b _ | (simp [Byte]; done) | (with_reducible assumption) | exact HF.out.1.1 | exact HF.out.2.1.1 | exact HF.out.2.2.1.1 | exact HF.out.2.2.2.1)) (by (first | exact HM.out | exact HA.out | exact HX.out | exact HY.out | exact HS.out | exact HP.out | exact byte_bits _ _ _ | exact mod_b _ | (simp [Byte]; done) | (with_reducible assumption) | exact HF.out.1.1 | exact HF.out.2.1.1 | exact HF.out.2.2.1.1 | exact HF.out.2.2.2.1))).mono ?_; rintro _ _ ⟨rfl, rfl⟩; (try unfold Regs.val); simp only []))
  go_wp2_with fail
  all_goals (
    go_returns
    exact ⟨_, rfl, rfl, by repeat (first | with_reducible exact Kept.refl _ _ | with_reducible assumption | with_reducible apply Kept.alloc | with_reducible apply Kept.drew | with_reducible apply Kept.drewN | (with_reducible refine Kept.setCell ?_ (Or.inr (by simp <;> omega)) _))⟩)

set_option maxRecDepth 100000 in
set_option maxHeartbeats 2000000 in
theorem rwrites_SHA (w : World) (n : ByteArray) (r : Regs) (m : Int) (hr : r.Ok) (hm : Byte m) (q0 : (n.toList == [83, 84, 65]) = false) (q1 : (n.toList == [83, 84, 88]) = false) (q2 : (n.toList == [83, 84, 89]) = false) (q3 : (n.toList == [83, 65, 88]) = false) (q4 : (n.toList == [83, 72, 65]) = true) :
    Calls Try.prog 17 #[.string n, r.val, .int .u8 m] w (Post w [] fun v W => v = .tuple #[((r, bits .and .u8 (bits .and .u8 r.a r.x) ((m + 1) % 256)) : Regs × Int).1.val, .int .u8 ((r, bits .and .u8 (bits .and .u8 r.a r.x) ((m + 1) % 256)) : Regs × Int).2]) := by
  obtain ⟨a, x, y, s, p, pc⟩ := r
  have HM := Lib.hid hm
  have HA := Lib.hid hr.a
  have HX := Lib.hid hr.x
  have HY := Lib.hid hr.y
  have HS := Lib.hid hr.s
  have HP := Lib.hid hr.p
  have HR := Lib.hid hr
  obtain ⟨ha, hx, hy, hs, hp, hpc⟩ := hr
  dsimp only at HA HX HY HS HP
  unfold Regs.val
  obtain ⟨m0, m1⟩ := HM.out
  go_enter Try.func17, Try.ntmps17
  go_wp2_with fail
  go_region_held3 (fun W => W.cell? ⟨w.heap.size, 0, none⟩ = some (.int .u8 a) ∧ W.cell? ⟨w.heap.size, 1, none⟩ = some (.int .u8 x) ∧ W.cell? ⟨w.heap.size, 2, none⟩ = some (.int .u8 y) ∧ W.cell? ⟨w.heap.size, 3, none⟩ = some (.int .u8 s) ∧ W.cell? ⟨w.heap.size, 4, none⟩ = some (.int .u8 p) ∧ W.cell? ⟨w.heap.size, 5, none⟩ = some (.int .u16 pc)) (go_keep) (first | (go_at_call 37; refine (rand_any _ _ _ (by (first | exact HM.out | exact HA.out | exact HX.out | exact HY.out | exact HS.out | exact HP.out | exact byte_bits _ _ _ | exact mod_b _ | (simp [Byte]; done) | (with_reducible assumption) | exact HF.out.1.1 | exact HF.out.2.1.1 | exact HF.out.2.2.1.1 | exact HF.out.2.2.2.1)) (by (first | exact HM.out | exact HA.out | exact HX.out | exact HY.out | exact HS.out | exact HP.out | exact byte_bits _ _ _ | exact mod_b _ | (simp [Byte]; done) | (with_reducible assumption) | exact HF.out.1.1 | exact HF.out.2.1.1 | exact HF.out.2.2.1.1 | exact HF.out.2.2.2.1))).mono ?_; rintro _ _ ⟨rfl, rfl⟩; (try unfold Regs.val); simp only []))
  go_wp2_with fail
  all_goals (
    go_returns
    exact ⟨_, rfl, rfl, by repeat (first | with_reducible exact Kept.refl _ _ | with_reducible assumption | with_reducible apply Kept.alloc | with_reducible apply Kept.drew | with_reducible apply Kept.drewN | (with_reducible refine Kept.setCell ?_ (Or.inr (by simp <;> omega)) _))⟩)

set_option maxRecDepth 100000 in
set_option maxHeartbeats 2000000 in
theorem rwrites_SHX (w : World) (n : ByteArray) (r : Regs) (m : Int) (hr : r.Ok) (hm : Byte m) (q0 : (n.toList == [83, 84, 65]) = false) (q1 : (n.toList == [83, 84, 88]) = false) (q2 : (n.toList == [83, 84, 89]) = false) (q3 : (n.toList == [83, 65, 88]) = false) (q4 : (n.toList == [83, 72, 65]) = false) (q5 : (n.toList == [83, 72, 88]) = true) :
    Calls Try.prog 17 #[.string n, r.val, .int .u8 m] w (Post w [] fun v W => v = .tuple #[((r, bits .and .u8 r.x ((m + 1) % 256)) : Regs × Int).1.val, .int .u8 ((r, bits .and .u8 r.x ((m + 1) % 256)) : Regs × Int).2]) := by
  obtain ⟨a, x, y, s, p, pc⟩ := r
  have HM := Lib.hid hm
  have HA := Lib.hid hr.a
  have HX := Lib.hid hr.x
  have HY := Lib.hid hr.y
  have HS := Lib.hid hr.s
  have HP := Lib.hid hr.p
  have HR := Lib.hid hr
  obtain ⟨ha, hx, hy, hs, hp, hpc⟩ := hr
  dsimp only at HA HX HY HS HP
  unfold Regs.val
  obtain ⟨m0, m1⟩ := HM.out
  go_enter Try.func17, Try.ntmps17
  go_wp2_with fail
  go_region_held3 (fun W => W.cell? ⟨w.heap.size, 0, none⟩ = some (.int .u8 a) ∧ W.cell? ⟨w.heap.size, 1, none⟩ = some (.int .u8 x) ∧ W.cell? ⟨w.heap.size, 2, none⟩ = some (.int .u8 y) ∧ W.cell? ⟨w.heap.size, 3, none⟩ = some (.int .u8 s) ∧ W.cell? ⟨w.heap.size, 4, none⟩ = some (.int .u8 p) ∧ W.cell? ⟨w.heap.size, 5, none⟩ = some (.int .u16 pc)) (go_keep) (first | (go_at_call 37; refine (rand_any _ _ _ (by (first | exact HM.out | exact HA.out | exact HX.out | exact HY.out | exact HS.out | exact HP.out | exact byte_bits _ _ _ | exact mod_b _ | (simp [Byte]; done) | (with_reducible assumption) | exact HF.out.1.1 | exact HF.out.2.1.1 | exact HF.out.2.2.1.1 | exact HF.out.2.2.2.1)) (by (first | exact HM.out | exact HA.out | exact HX.out | exact HY.out | exact HS.out | exact HP.out | exact byte_bits _ _ _ | exact mod_b _ | (simp [Byte]; done) | (with_reducible assumption) | exact HF.out.1.1 | exact HF.out.2.1.1 | exact HF.out.2.2.1.1 | exact HF.out.2.2.2.1))).mono ?_; rintro _ _ ⟨rfl, rfl⟩; (try unfold Regs.val); simp only []))
  go_wp2_with fail
  all_goals (
    go_returns
    exact ⟨_, rfl, rfl, by repeat (first | with_reducible exact Kept.refl _ _ | with_reducible assumption | with_reducible apply Kept.alloc | with_reducible apply Kept.drew | with_reducible apply Kept.drewN | (with_reducible refine Kept.setCell ?_ (Or.inr (by simp <;> omega)) _))⟩)

set_option maxRecDepth 100000 in
set_option maxHeartbeats 2000000 in
theorem rwrites_SHY (w : World) (n : ByteArray) (r : Regs) (m : Int) (hr : r.Ok) (hm : Byte m) (q0 : (n.toList == [83, 84, 65]) = false) (q1 : (n.toList == [83, 84, 88]) = false) (q2 : (n.toList == [83, 84, 89]) = false) (q3 : (n.toList == [83, 65, 88]) = false) (q4 : (n.toList == [83, 72, 65]) = false) (q5 : (n.toList == [83, 72, 88]) = false) (q6 : (n.toList == [83, 72, 89]) = true) :
    Calls Try.prog 17 #[.string n, r.val, .int .u8 m] w (Post w [] fun v W => v = .tuple #[((r, bits .and .u8 r.y ((m + 1) % 256)) : Regs × Int).1.val, .int .u8 ((r, bits .and .u8 r.y ((m + 1) % 256)) : Regs × Int).2]) := by
  obtain ⟨a, x, y, s, p, pc⟩ := r
  have HM := Lib.hid hm
  have HA := Lib.hid hr.a
  have HX := Lib.hid hr.x
  have HY := Lib.hid hr.y
  have HS := Lib.hid hr.s
  have HP := Lib.hid hr.p
  have HR := Lib.hid hr
  obtain ⟨ha, hx, hy, hs, hp, hpc⟩ := hr
  dsimp only at HA HX HY HS HP
  unfold Regs.val
  obtain ⟨m0, m1⟩ := HM.out
  go_enter Try.func17, Try.ntmps17
  go_wp2_with fail
  go_region_held3 (fun W => W.cell? ⟨w.heap.size, 0, none⟩ = some (.int .u8 a) ∧ W.cell? ⟨w.heap.size, 1, none⟩ = some (.int .u8 x) ∧ W.cell? ⟨w.heap.size, 2, none⟩ = some (.int .u8 y) ∧ W.cell? ⟨w.heap.size, 3, none⟩ = some (.int .u8 s) ∧ W.cell? ⟨w.heap.size, 4, none⟩ = some (.int .u8 p) ∧ W.cell? ⟨w.heap.size, 5, none⟩ = some (.int .u16 pc)) (go_keep) (first | (go_at_call 37; refine (rand_any _ _ _ (by (first | exact HM.out | exact HA.out | exact HX.out | exact HY.out | exact HS.out | exact HP.out | exact byte_bits _ _ _ | exact mod_b _ | (simp [Byte]; done) | (with_reducible assumption) | exact HF.out.1.1 | exact HF.out.2.1.1 | exact HF.out.2.2.1.1 | exact HF.out.2.2.2.1)) (by (first | exact HM.out | exact HA.out | exact HX.out | exact HY.out | exact HS.out | exact HP.out | exact byte_bits _ _ _ | exact mod_b _ | (simp [Byte]; done) | (with_reducible assumption) | exact HF.out.1.1 | exact HF.out.2.1.1 | exact HF.out.2.2.1.1 | exact HF.out.2.2.2.1))).mono ?_; rintro _ _ ⟨rfl, rfl⟩; (try unfold Regs.val); simp only []))
  go_wp2_with fail
  all_goals (
    go_returns
    exact ⟨_, rfl, rfl, by repeat (first | with_reducible exact Kept.refl _ _ | with_reducible assumption | with_reducible apply Kept.alloc | with_reducible apply Kept.drew | with_reducible apply Kept.drewN | (with_reducible refine Kept.setCell ?_ (Or.inr (by simp <;> omega)) _))⟩)

set_option maxRecDepth 100000 in
set_option maxHeartbeats 2000000 in
theorem rwrites_TAS (w : World) (n : ByteArray) (r : Regs) (m : Int) (hr : r.Ok) (hm : Byte m) (q0 : (n.toList == [83, 84, 65]) = false) (q1 : (n.toList == [83, 84, 88]) = false) (q2 : (n.toList == [83, 84, 89]) = false) (q3 : (n.toList == [83, 65, 88]) = false) (q4 : (n.toList == [83, 72, 65]) = false) (q5 : (n.toList == [83, 72, 88]) = false) (q6 : (n.toList == [83, 72, 89]) = false) (q7 : (n.toList == [84, 65, 83]) = true) :
    Calls Try.prog 17 #[.string n, r.val, .int .u8 m] w (Post w [] fun v W => v = .tuple #[(({ r with s := bits .and .u8 r.a r.x }, bits .and .u8 (bits .and .u8 r.a r.x) ((m + 1) % 256)) : Regs × Int).1.val, .int .u8 (({ r with s := bits .and .u8 r.a r.x }, bits .and .u8 (bits .and .u8 r.a r.x) ((m + 1) % 256)) : Regs × Int).2]) := by
  obtain ⟨a, x, y, s, p, pc⟩ := r
  have HM := Lib.hid hm
  have HA := Lib.hid hr.a
  have HX := Lib.hid hr.x
  have HY := Lib.hid hr.y
  have HS := Lib.hid hr.s
  have HP := Lib.hid hr.p
  have HR := Lib.hid hr
  obtain ⟨ha, hx, hy, hs, hp, hpc⟩ := hr
  dsimp only at HA HX HY HS HP
  unfold Regs.val
  obtain ⟨m0, m1⟩ := HM.out
  go_enter Try.func17, Try.ntmps17
  go_wp2_with fail
  refine (rand_any _ a x HA.out HX.out).mono ?_
  rintro _ _ ⟨rfl, rfl⟩
  (try unfold Regs.val)
  go_wp2_with fail
  go_region_held3 (fun W => W.cell? ⟨w.heap.size, 0, none⟩ = some (.int .u8 a) ∧ W.cell? ⟨w.heap.size, 1, none⟩ = some (.int .u8 x) ∧ W.cell? ⟨w.heap.size, 2, none⟩ = some (.int .u8 y) ∧ W.cell? ⟨w.heap.size, 3, none⟩ = some (.int .u8 (bits .and .u8 a x)) ∧ W.cell? ⟨w.heap.size, 4, none⟩ = some (.int .u8 p) ∧ W.cell? ⟨w.heap.size, 5, none⟩ = some (.int .u16 pc)) (go_keep) (first | (go_at_call 37; refine (rand_any _ _ _ (by (first | exact HM.out | exact HA.out | exact HX.out | exact HY.out | exact HS.out | exact HP.out | exact byte_bits _ _ _ | exact mod_b _ | (simp [Byte]; done) | (with_reducible assumption) | exact HF.out.1.1 | exact HF.out.2.1.1 | exact HF.out.2.2.1.1 | exact HF.out.2.2.2.1)) (by (first | exact HM.out | exact HA.out | exact HX.out | exact HY.out | exact HS.out | exact HP.out | exact byte_bits _ _ _ | exact mod_b _ | (simp [Byte]; done) | (with_reducible assumption) | exact HF.out.1.1 | exact HF.out.2.1.1 | exact HF.out.2.2.1.1 | exact HF.out.2.2.2.1))).mono ?_; rintro _ _ ⟨rfl, rfl⟩; (try unfold Regs.val); simp only []))
  go_wp2_with fail
  all_goals (
    go_returns
    exact ⟨_, rfl, rfl, by repeat (first | with_reducible exact Kept.refl _ _ | with_reducible assumption | with_reducible apply Kept.alloc | with_reducible apply Kept.drew | with_reducible apply Kept.drewN | (with_reducible refine Kept.setCell ?_ (Or.inr (by simp <;> omega)) _))⟩)

set_option maxRecDepth 100000 in
set_option maxHeartbeats 2000000 in
theorem rwrites_other (w : World) (n : ByteArray) (r : Regs) (m : Int) (hr : r.Ok) (hm : Byte m) (q0 : (n.toList == [83, 84, 65]) = false) (q1 : (n.toList == [83, 84, 88]) = false) (q2 : (n.toList == [83, 84, 89]) = false) (q3 : (n.toList == [83, 65, 88]) = false) (q4 : (n.toList == [83, 72, 65]) = false) (q5 : (n.toList == [83, 72, 88]) = false) (q6 : (n.toList == [83, 72, 89]) = false) (q7 : (n.toList == [84, 65, 83]) = false) :
    Calls Try.prog 17 #[.string n, r.val, .int .u8 m] w (Post w [] fun v W => v = .tuple #[((r, 0) : Regs × Int).1.val, .int .u8 ((r, 0) : Regs × Int).2]) := by
  obtain ⟨a, x, y, s, p, pc⟩ := r
  have HM := Lib.hid hm
  have HA := Lib.hid hr.a
  have HX := Lib.hid hr.x
  have HY := Lib.hid hr.y
  have HS := Lib.hid hr.s
  have HP := Lib.hid hr.p
  have HR := Lib.hid hr
  obtain ⟨ha, hx, hy, hs, hp, hpc⟩ := hr
  dsimp only at HA HX HY HS HP
  unfold Regs.val
  obtain ⟨m0, m1⟩ := HM.out
  go_enter Try.func17, Try.ntmps17
  go_wp2_with fail
  all_goals (
    go_returns
    exact ⟨_, rfl, rfl, by repeat (first | with_reducible exact Kept.refl _ _ | with_reducible assumption | with_reducible apply Kept.alloc | with_reducible apply Kept.drew | with_reducible apply Kept.drewN | (with_reducible refine Kept.setCell ?_ (Or.inr (by simp <;> omega)) _))⟩)

def rwritesM (n : List UInt8) (r : Regs) (m : Int) : Regs × Int :=
  if (n == [83, 84, 65]) = true then (r, r.a) else
  if (n == [83, 84, 88]) = true then (r, r.x) else
  if (n == [83, 84, 89]) = true then (r, r.y) else
  if (n == [83, 65, 88]) = true then (r, bits .and .u8 r.a r.x) else
  if (n == [83, 72, 65]) = true then (r, bits .and .u8 (bits .and .u8 r.a r.x) ((m + 1) % 256)) else
  if (n == [83, 72, 88]) = true then (r, bits .and .u8 r.x ((m + 1) % 256)) else
  if (n == [83, 72, 89]) = true then (r, bits .and .u8 r.y ((m + 1) % 256)) else
  if (n == [84, 65, 83]) = true then ({ r with s := bits .and .u8 r.a r.x }, bits .and .u8 (bits .and .u8 r.a r.x) ((m + 1) % 256)) else
  (r, 0)
theorem rwrites_any (w : World) (n : ByteArray) (r : Regs) (m : Int) (hr : r.Ok) (hm : Byte m) :
    Calls Try.prog 17 #[.string n, r.val, .int .u8 m] w (Post w [] fun v W => v = .tuple #[(rwritesM n.toList r m).1.val, .int .u8 (rwritesM n.toList r m).2]) := by
  unfold rwritesM
  by_cases q0 : (n.toList == [83, 84, 65]) = true
  · rw [if_pos q0]
    exact rwrites_STA w n r m hr hm  q0
  rw [if_neg q0]
  have q0 : (n.toList == [83, 84, 65]) = false := by simpa using q0
  by_cases q1 : (n.toList == [83, 84, 88]) = true
  · rw [if_pos q1]
    exact rwrites_STX w n r m hr hm q0 q1
  rw [if_neg q1]
  have q1 : (n.toList == [83, 84, 88]) = false := by simpa using q1
  by_cases q2 : (n.toList == [83, 84, 89]) = true
  · rw [if_pos q2]
    exact rwrites_STY w n r m hr hm q0 q1 q2
  rw [if_neg q2]
  have q2 : (n.toList == [83, 84, 89]) = false := by simpa using q2
  by_cases q3 : (n.toList == [83, 65, 88]) = true
  · rw [if_pos q3]
    exact rwrites_SAX w n r m hr hm q0 q1 q2 q3
  rw [if_neg q3]
  have q3 : (n.toList == [83, 65, 88]) = false := by simpa using q3
  by_cases q4 : (n.toList == [83, 72, 65]) = true
  · rw [if_pos q4]
    exact rwrites_SHA w n r m hr hm q0 q1 q2 q3 q4
  rw [if_neg q4]
  have q4 : (n.toList == [83, 72, 65]) = false := by simpa using q4
  by_cases q5 : (n.toList == [83, 72, 88]) = true
  · rw [if_pos q5]
    exact rwrites_SHX w n r m hr hm q0 q1 q2 q3 q4 q5
  rw [if_neg q5]
  have q5 : (n.toList == [83, 72, 88]) = false := by simpa using q5
  by_cases q6 : (n.toList == [83, 72, 89]) = true
  · rw [if_pos q6]
    exact rwrites_SHY w n r m hr hm q0 q1 q2 q3 q4 q5 q6
  rw [if_neg q6]
  have q6 : (n.toList == [83, 72, 89]) = false := by simpa using q6
  by_cases q7 : (n.toList == [84, 65, 83]) = true
  · rw [if_pos q7]
    exact rwrites_TAS w n r m hr hm q0 q1 q2 q3 q4 q5 q6 q7
  rw [if_neg q7]
  have q7 : (n.toList == [84, 65, 83]) = false := by simpa using q7
  exact rwrites_other w n r m hr hm q0 q1 q2 q3 q4 q5 q6 q7

theorem rwritesM_eq (n : List UInt8) (r : Regs) (m : Int) : rwritesM n r m = writesM n r m := by
  by_cases h0 : n = [83, 84, 65]
  · subst h0; rfl
  by_cases h1 : n = [83, 84, 88]
  · subst h1; rfl
  by_cases h2 : n = [83, 84, 89]
  · subst h2; rfl
  by_cases h3 : n = [83, 65, 88]
  · subst h3; rfl
  by_cases h4 : n = [83, 72, 65]
  · subst h4; rfl
  by_cases h5 : n = [83, 72, 88]
  · subst h5; rfl
  by_cases h6 : n = [83, 72, 89]
  · subst h6; rfl
  by_cases h7 : n = [84, 65, 83]
  · subst h7; rfl
  have g0 : (n == [83, 84, 65]) = false := by rw [beq_eq_false_iff_ne]; exact h0
  have g1 : (n == [83, 84, 88]) = false := by rw [beq_eq_false_iff_ne]; exact h1
  have g2 : (n == [83, 84, 89]) = false := by rw [beq_eq_false_iff_ne]; exact h2
  have g3 : (n == [83, 65, 88]) = false := by rw [beq_eq_false_iff_ne]; exact h3
  have g4 : (n == [83, 72, 65]) = false := by rw [beq_eq_false_iff_ne]; exact h4
  have g5 : (n == [83, 72, 88]) = false := by rw [beq_eq_false_iff_ne]; exact h5
  have g6 : (n == [83, 72, 89]) = false := by rw [beq_eq_false_iff_ne]; exact h6
  have g7 : (n == [84, 65, 83]) = false := by rw [beq_eq_false_iff_ne]; exact h7
  unfold rwritesM writesM
  simp only [g0, g1, g2, g3, g4, g5, g6, g7, Bool.false_eq_true, if_false]

end Go.Proofs.Ytmiihcaccejklaa
