/- PROVED: the contracts of effect.loads, effect.ands and effect.compares, name by name. No conditions beyond those that each theorem states. -/
import Derived.Test.YtmiihcaccejklaaEff
namespace Go.Proofs.Ytmiihcaccejklaa
open Go.RowKit Go.Proofs.YtmiihcaccejklaaLib
set_option linter.unusedSimpArgs false
set_option linter.unusedVariables false

theorem anc_eq (v q : Int) (hv : 0 ≤ v ∧ v ≤ 255) (hq : 0 ≤ q ∧ q ≤ 255) : bits .or .u8 (bits .andNot .u8 q 1) (v / 2 ^ 7) = setF q 1 (decide (127 < v)) := by
  have h : v / 2 ^ 7 = 0 ∨ v / 2 ^ 7 = 1 := by omega
  rcases h with h | h <;> rw [h]
  · rw [show decide (127 < v) = false from by rw [decide_eq_false_iff_not]; omega]
    exact byte_cases (P := fun q => bits .or .u8 (bits .andNot .u8 q 1) 0 = setF q 1 false) (by decide +kernel) q hq.1 hq.2
  · rw [show decide (127 < v) = true from by rw [decide_eq_true_eq]; omega]
    exact byte_cases (P := fun q => bits .or .u8 (bits .andNot .u8 q 1) 1 = setF q 1 true) (by decide +kernel) q hq.1 hq.2
def loadsM (n : List UInt8) (r : Regs) (m : Int) : Regs :=
  if (n == [76, 68, 88]) = true then { r with x := m, p := nzM r.p m } else
  if (n == [76, 68, 89]) = true then { r with y := m, p := nzM r.p m } else
  if (n == [76, 65, 88]) = true then { r with a := m, x := m, p := nzM r.p m } else
  if (n == [76, 88, 65]) = true then { r with a := bits .and .u8 (bits .or .u8 r.a 238) m, x := bits .and .u8 (bits .or .u8 r.a 238) m, p := nzM r.p (bits .and .u8 (bits .or .u8 r.a 238) m) } else
  if (n == [76, 65, 83]) = true then { r with a := bits .and .u8 m r.s, x := bits .and .u8 m r.s, s := bits .and .u8 m r.s, p := nzM r.p (bits .and .u8 m r.s) } else
  if (n == [83, 66, 88]) = true then { r with x := (sbxM (bits .and .u8 r.a r.x) m r.p).1, p := (sbxM (bits .and .u8 r.a r.x) m r.p).2 } else
  r
set_option maxHeartbeats 400000 in
theorem loads_LDX (w : World) (n : ByteArray) (r : Regs) (m : Int) (hr : r.Ok) (hm : Byte m) (q0 : (n.toList == [76, 68, 88]) = true) :
    Calls Try.prog 47 #[.string n, r.val, .int .u8 m] w (Post w [] fun v W => v = ({ r with x := m, p := nzM r.p m } : Regs).val) := by
  obtain ⟨a, x, y, s, p, pc⟩ := r
  obtain ⟨ha, hx, hy, hs, hp, hpc⟩ := hr
  unfold Regs.val
  go_enter Try.func47, Try.ntmps47
  go_wp2_with fail
  have hb := (Blk.new w 29 [.int .u8 a, .int .u8 x, .int .u8 y, .int .u8 s, .int .u8 p, .int .u16 pc]).alloc (.cells #[.int .u8 0, .int .u8 0, .int .u8 0, .int .u8 0, .int .u8 0, .int .u16 0] 29)
  refine (set_any _ _ _ _ _ _ (hb.cell 1 rfl) (hb.cell 4 rfl) (hb.free 1) (hb.free 4) (by simp) hp.1 hp.2).mono ?_
  rintro _ _ ⟨rfl, rfl⟩
  clear hb
  go_wp2_with fail
  go_returns
  exact ⟨_, rfl, rfl, by repeat (first | exact Kept.refl _ _ | apply Kept.alloc)⟩

set_option maxHeartbeats 400000 in
theorem loads_LDY (w : World) (n : ByteArray) (r : Regs) (m : Int) (hr : r.Ok) (hm : Byte m) (q0 : (n.toList == [76, 68, 88]) = false) (q1 : (n.toList == [76, 68, 89]) = true) :
    Calls Try.prog 47 #[.string n, r.val, .int .u8 m] w (Post w [] fun v W => v = ({ r with y := m, p := nzM r.p m } : Regs).val) := by
  obtain ⟨a, x, y, s, p, pc⟩ := r
  obtain ⟨ha, hx, hy, hs, hp, hpc⟩ := hr
  unfold Regs.val
  go_enter Try.func47, Try.ntmps47
  go_wp2_with fail
  have hb := (Blk.new w 29 [.int .u8 a, .int .u8 x, .int .u8 y, .int .u8 s, .int .u8 p, .int .u16 pc]).alloc (.cells #[.int .u8 0, .int .u8 0, .int .u8 0, .int .u8 0, .int .u8 0, .int .u16 0] 29)
  refine (set_any _ _ _ _ _ _ (hb.cell 2 rfl) (hb.cell 4 rfl) (hb.free 2) (hb.free 4) (by simp) hp.1 hp.2).mono ?_
  rintro _ _ ⟨rfl, rfl⟩
  clear hb
  go_wp2_with fail
  go_returns
  exact ⟨_, rfl, rfl, by repeat (first | exact Kept.refl _ _ | apply Kept.alloc)⟩

set_option maxHeartbeats 400000 in
theorem loads_LAX (w : World) (n : ByteArray) (r : Regs) (m : Int) (hr : r.Ok) (hm : Byte m) (q0 : (n.toList == [76, 68, 88]) = false) (q1 : (n.toList == [76, 68, 89]) = false) (q2 : (n.toList == [76, 65, 88]) = true) :
    Calls Try.prog 47 #[.string n, r.val, .int .u8 m] w (Post w [] fun v W => v = ({ r with a := m, x := m, p := nzM r.p m } : Regs).val) := by
  obtain ⟨a, x, y, s, p, pc⟩ := r
  obtain ⟨ha, hx, hy, hs, hp, hpc⟩ := hr
  unfold Regs.val
  go_enter Try.func47, Try.ntmps47
  go_wp2_with fail
  have hb := (Blk.new w 29 [.int .u8 a, .int .u8 x, .int .u8 y, .int .u8 s, .int .u8 p, .int .u16 pc]).alloc (.cells #[.int .u8 0, .int .u8 0, .int .u8 0, .int .u8 0, .int .u8 0, .int .u16 0] 29)
  refine (set_any _ _ _ _ _ _ (hb.cell 0 rfl) (hb.cell 4 rfl) (hb.free 0) (hb.free 4) (by simp) hp.1 hp.2).mono ?_
  rintro _ _ ⟨rfl, rfl⟩
  clear hb
  go_wp2_with fail
  go_returns
  exact ⟨_, rfl, rfl, by repeat (first | exact Kept.refl _ _ | apply Kept.alloc)⟩

set_option maxHeartbeats 400000 in
theorem loads_LXA (w : World) (n : ByteArray) (r : Regs) (m : Int) (hr : r.Ok) (hm : Byte m) (q0 : (n.toList == [76, 68, 88]) = false) (q1 : (n.toList == [76, 68, 89]) = false) (q2 : (n.toList == [76, 65, 88]) = false) (q3 : (n.toList == [76, 88, 65]) = true) :
    Calls Try.prog 47 #[.string n, r.val, .int .u8 m] w (Post w [] fun v W => v = ({ r with a := bits .and .u8 (bits .or .u8 r.a 238) m, x := bits .and .u8 (bits .or .u8 r.a 238) m, p := nzM r.p (bits .and .u8 (bits .or .u8 r.a 238) m) } : Regs).val) := by
  obtain ⟨a, x, y, s, p, pc⟩ := r
  obtain ⟨ha, hx, hy, hs, hp, hpc⟩ := hr
  unfold Regs.val
  go_enter Try.func47, Try.ntmps47
  go_wp2_with fail
  have hb := (Blk.new w 29 [.int .u8 a, .int .u8 x, .int .u8 y, .int .u8 s, .int .u8 p, .int .u16 pc]).alloc (.cells #[.int .u8 0, .int .u8 0, .int .u8 0, .int .u8 0, .int .u8 0, .int .u16 0] 29)
  refine (set_any _ _ _ _ _ _ (hb.cell 0 rfl) (hb.cell 4 rfl) (hb.free 0) (hb.free 4) (by simp) hp.1 hp.2).mono ?_
  rintro _ _ ⟨rfl, rfl⟩
  clear hb
  go_wp2_with fail
  go_returns
  exact ⟨_, rfl, rfl, by repeat (first | exact Kept.refl _ _ | apply Kept.alloc)⟩

set_option maxHeartbeats 400000 in
theorem loads_LAS (w : World) (n : ByteArray) (r : Regs) (m : Int) (hr : r.Ok) (hm : Byte m) (q0 : (n.toList == [76, 68, 88]) = false) (q1 : (n.toList == [76, 68, 89]) = false) (q2 : (n.toList == [76, 65, 88]) = false) (q3 : (n.toList == [76, 88, 65]) = false) (q4 : (n.toList == [76, 65, 83]) = true) :
    Calls Try.prog 47 #[.string n, r.val, .int .u8 m] w (Post w [] fun v W => v = ({ r with a := bits .and .u8 m r.s, x := bits .and .u8 m r.s, s := bits .and .u8 m r.s, p := nzM r.p (bits .and .u8 m r.s) } : Regs).val) := by
  obtain ⟨a, x, y, s, p, pc⟩ := r
  obtain ⟨ha, hx, hy, hs, hp, hpc⟩ := hr
  unfold Regs.val
  go_enter Try.func47, Try.ntmps47
  go_wp2_with fail
  have hb := (Blk.new w 29 [.int .u8 a, .int .u8 x, .int .u8 y, .int .u8 s, .int .u8 p, .int .u16 pc]).alloc (.cells #[.int .u8 0, .int .u8 0, .int .u8 0, .int .u8 0, .int .u8 0, .int .u16 0] 29)
  refine (set_any _ _ _ _ _ _ (hb.cell 0 rfl) (hb.cell 4 rfl) (hb.free 0) (hb.free 4) (by simp) hp.1 hp.2).mono ?_
  rintro _ _ ⟨rfl, rfl⟩
  clear hb
  go_wp2_with fail
  go_returns
  exact ⟨_, rfl, rfl, by repeat (first | exact Kept.refl _ _ | apply Kept.alloc)⟩

set_option maxHeartbeats 400000 in
theorem loads_SBX (w : World) (n : ByteArray) (r : Regs) (m : Int) (hr : r.Ok) (hm : Byte m) (q0 : (n.toList == [76, 68, 88]) = false) (q1 : (n.toList == [76, 68, 89]) = false) (q2 : (n.toList == [76, 65, 88]) = false) (q3 : (n.toList == [76, 88, 65]) = false) (q4 : (n.toList == [76, 65, 83]) = false) (q5 : (n.toList == [83, 66, 88]) = true) :
    Calls Try.prog 47 #[.string n, r.val, .int .u8 m] w (Post w [] fun v W => v = ({ r with x := (sbxM (bits .and .u8 r.a r.x) m r.p).1, p := (sbxM (bits .and .u8 r.a r.x) m r.p).2 } : Regs).val) := by
  obtain ⟨a, x, y, s, p, pc⟩ := r
  obtain ⟨ha, hx, hy, hs, hp, hpc⟩ := hr
  unfold Regs.val
  go_enter Try.func47, Try.ntmps47
  go_wp2_with fail
  refine (sbx_any _ _ _ _ hp.1 hp.2).mono ?_
  rintro _ _ ⟨rfl, rfl⟩
  go_wp2_with fail
  go_returns
  exact ⟨_, rfl, rfl, by repeat (first | exact Kept.refl _ _ | apply Kept.alloc)⟩

set_option maxHeartbeats 400000 in
theorem loads_other (w : World) (n : ByteArray) (r : Regs) (m : Int) (hr : r.Ok) (hm : Byte m) (q0 : (n.toList == [76, 68, 88]) = false) (q1 : (n.toList == [76, 68, 89]) = false) (q2 : (n.toList == [76, 65, 88]) = false) (q3 : (n.toList == [76, 88, 65]) = false) (q4 : (n.toList == [76, 65, 83]) = false) (q5 : (n.toList == [83, 66, 88]) = false) :
    Calls Try.prog 47 #[.string n, r.val, .int .u8 m] w (Post w [] fun v W => v = (r : Regs).val) := by
  obtain ⟨a, x, y, s, p, pc⟩ := r
  obtain ⟨ha, hx, hy, hs, hp, hpc⟩ := hr
  unfold Regs.val
  go_enter Try.func47, Try.ntmps47
  go_wp2_with fail
  go_returns
  exact ⟨_, rfl, rfl, by repeat (first | exact Kept.refl _ _ | apply Kept.alloc)⟩

theorem loads_any (w : World) (n : ByteArray) (r : Regs) (m : Int) (hr : r.Ok) (hm : Byte m) :
    Calls Try.prog 47 #[.string n, r.val, .int .u8 m] w (Post w [] fun v W => v = (loadsM n.toList r m).val) := by
  unfold loadsM
  by_cases q0 : (n.toList == [76, 68, 88]) = true
  · rw [if_pos q0]
    exact loads_LDX w n r m hr hm  q0
  rw [if_neg q0]
  have q0 : (n.toList == [76, 68, 88]) = false := by simpa using q0
  by_cases q1 : (n.toList == [76, 68, 89]) = true
  · rw [if_pos q1]
    exact loads_LDY w n r m hr hm q0 q1
  rw [if_neg q1]
  have q1 : (n.toList == [76, 68, 89]) = false := by simpa using q1
  by_cases q2 : (n.toList == [76, 65, 88]) = true
  · rw [if_pos q2]
    exact loads_LAX w n r m hr hm q0 q1 q2
  rw [if_neg q2]
  have q2 : (n.toList == [76, 65, 88]) = false := by simpa using q2
  by_cases q3 : (n.toList == [76, 88, 65]) = true
  · rw [if_pos q3]
    exact loads_LXA w n r m hr hm q0 q1 q2 q3
  rw [if_neg q3]
  have q3 : (n.toList == [76, 88, 65]) = false := by simpa using q3
  by_cases q4 : (n.toList == [76, 65, 83]) = true
  · rw [if_pos q4]
    exact loads_LAS w n r m hr hm q0 q1 q2 q3 q4
  rw [if_neg q4]
  have q4 : (n.toList == [76, 65, 83]) = false := by simpa using q4
  by_cases q5 : (n.toList == [83, 66, 88]) = true
  · rw [if_pos q5]
    exact loads_SBX w n r m hr hm q0 q1 q2 q3 q4 q5
  rw [if_neg q5]
  have q5 : (n.toList == [83, 66, 88]) = false := by simpa using q5
  exact loads_other w n r m hr hm q0 q1 q2 q3 q4 q5

def andsM (n : List UInt8) (r : Regs) (m : Int) : Regs :=
  if (n == [65, 78, 67]) = true then { r with a := bits .and .u8 r.a m, p := setF (nzM r.p (bits .and .u8 r.a m)) 1 (decide (127 < bits .and .u8 r.a m)) } else
  if (n == [65, 76, 82]) = true then { r with a := (lsr (bits .and .u8 r.a m) r.p).1, p := (lsr (bits .and .u8 r.a m) r.p).2 } else
  if (n == [65, 82, 82]) = true then { r with a := (arrM r.a m r.p).1, p := (arrM r.a m r.p).2 } else
  if (n == [65, 78, 69]) = true then { r with a := bits .and .u8 (bits .and .u8 (bits .or .u8 r.a 238) r.x) m, p := nzM r.p (bits .and .u8 (bits .and .u8 (bits .or .u8 r.a 238) r.x) m) } else
  r
set_option maxHeartbeats 400000 in
theorem ands_ANC (w : World) (n : ByteArray) (r : Regs) (m : Int) (hr : r.Ok) (hm : Byte m) (q0 : (n.toList == [65, 78, 67]) = true) :
    Calls Try.prog 48 #[.string n, r.val, .int .u8 m] w (Post w [] fun v W => v = ({ r with a := bits .and .u8 r.a m, p := setF (nzM r.p (bits .and .u8 r.a m)) 1 (decide (127 < bits .and .u8 r.a m)) } : Regs).val) := by
  obtain ⟨a, x, y, s, p, pc⟩ := r
  obtain ⟨ha, hx, hy, hs, hp, hpc⟩ := hr
  have HF := Lib.hid (anc_eq (bits .and .u8 a m) (nzM p (bits .and .u8 a m)) (bits_byte .and a m) (nzM_byte p _ hp.1 hp.2))
  unfold Regs.val
  go_enter Try.func48, Try.ntmps48
  go_wp2_with fail
  have hb := (Blk.new w 29 [.int .u8 a, .int .u8 x, .int .u8 y, .int .u8 s, .int .u8 p, .int .u16 pc]).alloc (.cells #[.int .u8 0, .int .u8 0, .int .u8 0, .int .u8 0, .int .u8 0, .int .u16 0] 29)
  refine (set_any _ _ _ _ _ _ (hb.cell 0 rfl) (hb.cell 4 rfl) (hb.free 0) (hb.free 4) (by simp) hp.1 hp.2).mono ?_
  rintro _ _ ⟨rfl, rfl⟩
  clear hb
  go_wp2_with fail
  go_returns
  exact ⟨_, rfl, (by dsimp only; rw [← HF.out]; rfl), by repeat (first | exact Kept.refl _ _ | apply Kept.alloc)⟩

set_option maxHeartbeats 400000 in
theorem ands_ALR (w : World) (n : ByteArray) (r : Regs) (m : Int) (hr : r.Ok) (hm : Byte m) (q0 : (n.toList == [65, 78, 67]) = false) (q1 : (n.toList == [65, 76, 82]) = true) :
    Calls Try.prog 48 #[.string n, r.val, .int .u8 m] w (Post w [] fun v W => v = ({ r with a := (lsr (bits .and .u8 r.a m) r.p).1, p := (lsr (bits .and .u8 r.a m) r.p).2 } : Regs).val) := by
  obtain ⟨a, x, y, s, p, pc⟩ := r
  obtain ⟨ha, hx, hy, hs, hp, hpc⟩ := hr
  unfold Regs.val
  go_enter Try.func48, Try.ntmps48
  go_wp2_with fail
  refine (lsr_any _ _ _ (bits_byte .and a m).1 (bits_byte .and a m).2 hp.1 hp.2).mono ?_
  rintro _ _ ⟨rfl, rfl⟩
  go_wp2_with fail
  go_returns
  exact ⟨_, rfl, rfl, by repeat (first | exact Kept.refl _ _ | apply Kept.alloc)⟩

set_option maxHeartbeats 400000 in
theorem ands_ARR (w : World) (n : ByteArray) (r : Regs) (m : Int) (hr : r.Ok) (hm : Byte m) (q0 : (n.toList == [65, 78, 67]) = false) (q1 : (n.toList == [65, 76, 82]) = false) (q2 : (n.toList == [65, 82, 82]) = true) :
    Calls Try.prog 48 #[.string n, r.val, .int .u8 m] w (Post w [] fun v W => v = ({ r with a := (arrM r.a m r.p).1, p := (arrM r.a m r.p).2 } : Regs).val) := by
  obtain ⟨a, x, y, s, p, pc⟩ := r
  obtain ⟨ha, hx, hy, hs, hp, hpc⟩ := hr
  unfold Regs.val
  go_enter Try.func48, Try.ntmps48
  go_wp2_with fail
  refine (arr_any _ _ _ _ ha.1 ha.2 hm.1 hm.2 hp.1 hp.2).mono ?_
  rintro _ _ ⟨rfl, rfl⟩
  go_wp2_with fail
  go_returns
  exact ⟨_, rfl, rfl, by repeat (first | exact Kept.refl _ _ | apply Kept.alloc)⟩

set_option maxHeartbeats 400000 in
theorem ands_ANE (w : World) (n : ByteArray) (r : Regs) (m : Int) (hr : r.Ok) (hm : Byte m) (q0 : (n.toList == [65, 78, 67]) = false) (q1 : (n.toList == [65, 76, 82]) = false) (q2 : (n.toList == [65, 82, 82]) = false) (q3 : (n.toList == [65, 78, 69]) = true) :
    Calls Try.prog 48 #[.string n, r.val, .int .u8 m] w (Post w [] fun v W => v = ({ r with a := bits .and .u8 (bits .and .u8 (bits .or .u8 r.a 238) r.x) m, p := nzM r.p (bits .and .u8 (bits .and .u8 (bits .or .u8 r.a 238) r.x) m) } : Regs).val) := by
  obtain ⟨a, x, y, s, p, pc⟩ := r
  obtain ⟨ha, hx, hy, hs, hp, hpc⟩ := hr
  unfold Regs.val
  go_enter Try.func48, Try.ntmps48
  go_wp2_with fail
  have hb := (Blk.new w 29 [.int .u8 a, .int .u8 x, .int .u8 y, .int .u8 s, .int .u8 p, .int .u16 pc]).alloc (.cells #[.int .u8 0, .int .u8 0, .int .u8 0, .int .u8 0, .int .u8 0, .int .u16 0] 29)
  refine (set_any _ _ _ _ _ _ (hb.cell 0 rfl) (hb.cell 4 rfl) (hb.free 0) (hb.free 4) (by simp) hp.1 hp.2).mono ?_
  rintro _ _ ⟨rfl, rfl⟩
  clear hb
  go_wp2_with fail
  go_returns
  exact ⟨_, rfl, rfl, by repeat (first | exact Kept.refl _ _ | apply Kept.alloc)⟩

set_option maxHeartbeats 400000 in
theorem ands_other (w : World) (n : ByteArray) (r : Regs) (m : Int) (hr : r.Ok) (hm : Byte m) (q0 : (n.toList == [65, 78, 67]) = false) (q1 : (n.toList == [65, 76, 82]) = false) (q2 : (n.toList == [65, 82, 82]) = false) (q3 : (n.toList == [65, 78, 69]) = false) :
    Calls Try.prog 48 #[.string n, r.val, .int .u8 m] w (Post w [] fun v W => v = (r : Regs).val) := by
  obtain ⟨a, x, y, s, p, pc⟩ := r
  obtain ⟨ha, hx, hy, hs, hp, hpc⟩ := hr
  unfold Regs.val
  go_enter Try.func48, Try.ntmps48
  go_wp2_with fail
  go_returns
  exact ⟨_, rfl, rfl, by repeat (first | exact Kept.refl _ _ | apply Kept.alloc)⟩

theorem ands_any (w : World) (n : ByteArray) (r : Regs) (m : Int) (hr : r.Ok) (hm : Byte m) :
    Calls Try.prog 48 #[.string n, r.val, .int .u8 m] w (Post w [] fun v W => v = (andsM n.toList r m).val) := by
  unfold andsM
  by_cases q0 : (n.toList == [65, 78, 67]) = true
  · rw [if_pos q0]
    exact ands_ANC w n r m hr hm  q0
  rw [if_neg q0]
  have q0 : (n.toList == [65, 78, 67]) = false := by simpa using q0
  by_cases q1 : (n.toList == [65, 76, 82]) = true
  · rw [if_pos q1]
    exact ands_ALR w n r m hr hm q0 q1
  rw [if_neg q1]
  have q1 : (n.toList == [65, 76, 82]) = false := by simpa using q1
  by_cases q2 : (n.toList == [65, 82, 82]) = true
  · rw [if_pos q2]
    exact ands_ARR w n r m hr hm q0 q1 q2
  rw [if_neg q2]
  have q2 : (n.toList == [65, 82, 82]) = false := by simpa using q2
  by_cases q3 : (n.toList == [65, 78, 69]) = true
  · rw [if_pos q3]
    exact ands_ANE w n r m hr hm q0 q1 q2 q3
  rw [if_neg q3]
  have q3 : (n.toList == [65, 78, 69]) = false := by simpa using q3
  exact ands_other w n r m hr hm q0 q1 q2 q3

def comparesM (n : List UInt8) (r : Regs) (m : Int) : Regs :=
  if (n == [67, 77, 80]) = true then { r with p := cmpM r.a m r.p } else
  if (n == [67, 80, 88]) = true then { r with p := cmpM r.x m r.p } else
  if (n == [67, 80, 89]) = true then { r with p := cmpM r.y m r.p } else
  if (n == [66, 73, 84]) = true then { r with p := bitM r.a m r.p } else
  r
set_option maxHeartbeats 400000 in
theorem compares_CMP (w : World) (n : ByteArray) (r : Regs) (m : Int) (hr : r.Ok) (hm : Byte m) (q0 : (n.toList == [67, 77, 80]) = true) :
    Calls Try.prog 46 #[.string n, r.val, .int .u8 m] w (Post w [] fun v W => v = ({ r with p := cmpM r.a m r.p } : Regs).val) := by
  obtain ⟨a, x, y, s, p, pc⟩ := r
  obtain ⟨ha, hx, hy, hs, hp, hpc⟩ := hr
  unfold Regs.val
  go_enter Try.func46, Try.ntmps46
  go_wp2_with fail
  refine (cmp_any _ _ _ _ hp.1 hp.2).mono ?_
  rintro _ _ ⟨rfl, rfl⟩
  go_wp2_with fail
  go_returns
  exact ⟨_, rfl, rfl, by repeat (first | exact Kept.refl _ _ | apply Kept.alloc)⟩

set_option maxHeartbeats 400000 in
theorem compares_CPX (w : World) (n : ByteArray) (r : Regs) (m : Int) (hr : r.Ok) (hm : Byte m) (q0 : (n.toList == [67, 77, 80]) = false) (q1 : (n.toList == [67, 80, 88]) = true) :
    Calls Try.prog 46 #[.string n, r.val, .int .u8 m] w (Post w [] fun v W => v = ({ r with p := cmpM r.x m r.p } : Regs).val) := by
  obtain ⟨a, x, y, s, p, pc⟩ := r
  obtain ⟨ha, hx, hy, hs, hp, hpc⟩ := hr
  unfold Regs.val
  go_enter Try.func46, Try.ntmps46
  go_wp2_with fail
  refine (cmp_any _ _ _ _ hp.1 hp.2).mono ?_
  rintro _ _ ⟨rfl, rfl⟩
  go_wp2_with fail
  go_returns
  exact ⟨_, rfl, rfl, by repeat (first | exact Kept.refl _ _ | apply Kept.alloc)⟩

set_option maxHeartbeats 400000 in
theorem compares_CPY (w : World) (n : ByteArray) (r : Regs) (m : Int) (hr : r.Ok) (hm : Byte m) (q0 : (n.toList == [67, 77, 80]) = false) (q1 : (n.toList == [67, 80, 88]) = false) (q2 : (n.toList == [67, 80, 89]) = true) :
    Calls Try.prog 46 #[.string n, r.val, .int .u8 m] w (Post w [] fun v W => v = ({ r with p := cmpM r.y m r.p } : Regs).val) := by
  obtain ⟨a, x, y, s, p, pc⟩ := r
  obtain ⟨ha, hx, hy, hs, hp, hpc⟩ := hr
  unfold Regs.val
  go_enter Try.func46, Try.ntmps46
  go_wp2_with fail
  refine (cmp_any _ _ _ _ hp.1 hp.2).mono ?_
  rintro _ _ ⟨rfl, rfl⟩
  go_wp2_with fail
  go_returns
  exact ⟨_, rfl, rfl, by repeat (first | exact Kept.refl _ _ | apply Kept.alloc)⟩

set_option maxHeartbeats 400000 in
theorem compares_BIT (w : World) (n : ByteArray) (r : Regs) (m : Int) (hr : r.Ok) (hm : Byte m) (q0 : (n.toList == [67, 77, 80]) = false) (q1 : (n.toList == [67, 80, 88]) = false) (q2 : (n.toList == [67, 80, 89]) = false) (q3 : (n.toList == [66, 73, 84]) = true) :
    Calls Try.prog 46 #[.string n, r.val, .int .u8 m] w (Post w [] fun v W => v = ({ r with p := bitM r.a m r.p } : Regs).val) := by
  obtain ⟨a, x, y, s, p, pc⟩ := r
  obtain ⟨ha, hx, hy, hs, hp, hpc⟩ := hr
  unfold Regs.val
  go_enter Try.func46, Try.ntmps46
  go_wp2_with fail
  refine (bit_any _ _ _ _ hm.1 hm.2 hp.1 hp.2).mono ?_
  rintro _ _ ⟨rfl, rfl⟩
  go_wp2_with fail
  go_returns
  exact ⟨_, rfl, rfl, by repeat (first | exact Kept.refl _ _ | apply Kept.alloc)⟩

set_option maxHeartbeats 400000 in
theorem compares_other (w : World) (n : ByteArray) (r : Regs) (m : Int) (hr : r.Ok) (hm : Byte m) (q0 : (n.toList == [67, 77, 80]) = false) (q1 : (n.toList == [67, 80, 88]) = false) (q2 : (n.toList == [67, 80, 89]) = false) (q3 : (n.toList == [66, 73, 84]) = false) :
    Calls Try.prog 46 #[.string n, r.val, .int .u8 m] w (Post w [] fun v W => v = (r : Regs).val) := by
  obtain ⟨a, x, y, s, p, pc⟩ := r
  obtain ⟨ha, hx, hy, hs, hp, hpc⟩ := hr
  unfold Regs.val
  go_enter Try.func46, Try.ntmps46
  go_wp2_with fail
  go_returns
  exact ⟨_, rfl, rfl, by repeat (first | exact Kept.refl _ _ | apply Kept.alloc)⟩

theorem compares_any (w : World) (n : ByteArray) (r : Regs) (m : Int) (hr : r.Ok) (hm : Byte m) :
    Calls Try.prog 46 #[.string n, r.val, .int .u8 m] w (Post w [] fun v W => v = (comparesM n.toList r m).val) := by
  unfold comparesM
  by_cases q0 : (n.toList == [67, 77, 80]) = true
  · rw [if_pos q0]
    exact compares_CMP w n r m hr hm  q0
  rw [if_neg q0]
  have q0 : (n.toList == [67, 77, 80]) = false := by simpa using q0
  by_cases q1 : (n.toList == [67, 80, 88]) = true
  · rw [if_pos q1]
    exact compares_CPX w n r m hr hm q0 q1
  rw [if_neg q1]
  have q1 : (n.toList == [67, 80, 88]) = false := by simpa using q1
  by_cases q2 : (n.toList == [67, 80, 89]) = true
  · rw [if_pos q2]
    exact compares_CPY w n r m hr hm q0 q1 q2
  rw [if_neg q2]
  have q2 : (n.toList == [67, 80, 89]) = false := by simpa using q2
  by_cases q3 : (n.toList == [66, 73, 84]) = true
  · rw [if_pos q3]
    exact compares_BIT w n r m hr hm q0 q1 q2 q3
  rw [if_neg q3]
  have q3 : (n.toList == [66, 73, 84]) = false := by simpa using q3
  exact compares_other w n r m hr hm q0 q1 q2 q3

end Go.Proofs.Ytmiihcaccejklaa
