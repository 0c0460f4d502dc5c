/- PROVED: the walk of keepsakelaw15.EffectBranches. No conditions beyond those that each theorem states. -/
import Derived.Test.YtmiihcaccejklaaEffWk
import Derived.Laws.Rows
import Derived.Deep.RegionHeld3
import Derived.Deep.CutRange
namespace Go.Proofs.Ytmiihcaccejklaa
open Go.RowKit Go.Proofs.YtmiihcaccejklaaLib
set_option linter.unusedSimpArgs false
set_option linter.unusedVariables false

theorem xor_keep128 {p b : Int} (hp : Byte p) (hb : Byte b) : bits .xor .u8 p (bits .andNot .u8 b 128) / 128 % 2 = p / 128 % 2 := by
  rw [andNot_flag 128 (by simp [IsFlag]) b hb.1 hb.2]
  have hv : Byte (setF b 128 false) := setF_b (by simp [IsFlag]) hb
  have hz : setF b 128 false / 128 % 2 = 0 := by unfold setF; unfold Byte at hb; simp <;> omega
  generalize setF b 128 false = v at hv hz
  obtain ⟨p0, p1⟩ := hp
  obtain ⟨v0, v1⟩ := hv
  obtain ⟨x, rfl⟩ := Int.eq_ofNat_of_zero_le p0
  obtain ⟨y, rfl⟩ := Int.eq_ofNat_of_zero_le v0
  rw [Go.u8_xor_nat x y (by omega) (by omega)]
  have h := Nat.testBit_xor x y 7
  generalize x ^^^ y = q at h ⊢
  rw [Nat.testBit_eq_decide_div_mod_eq, Nat.testBit_eq_decide_div_mod_eq, Nat.testBit_eq_decide_div_mod_eq] at h
  have hy : (y / 2 ^ 7) % 2 = 0 := by first | omega | (simp; omega) | (simp at hz ⊢; omega)
  rw [hy] at h
  simp at h
  first | omega | (simp at h ⊢; omega)
theorem xor_keep64 {p b : Int} (hp : Byte p) (hb : Byte b) : bits .xor .u8 p (bits .andNot .u8 b 64) / 64 % 2 = p / 64 % 2 := by
  rw [andNot_flag 64 (by simp [IsFlag]) b hb.1 hb.2]
  have hv : Byte (setF b 64 false) := setF_b (by simp [IsFlag]) hb
  have hz : setF b 64 false / 64 % 2 = 0 := by unfold setF; unfold Byte at hb; simp <;> omega
  generalize setF b 64 false = v at hv hz
  obtain ⟨p0, p1⟩ := hp
  obtain ⟨v0, v1⟩ := hv
  obtain ⟨x, rfl⟩ := Int.eq_ofNat_of_zero_le p0
  obtain ⟨y, rfl⟩ := Int.eq_ofNat_of_zero_le v0
  rw [Go.u8_xor_nat x y (by omega) (by omega)]
  have h := Nat.testBit_xor x y 6
  generalize x ^^^ y = q at h ⊢
  rw [Nat.testBit_eq_decide_div_mod_eq, Nat.testBit_eq_decide_div_mod_eq, Nat.testBit_eq_decide_div_mod_eq] at h
  have hy : (y / 2 ^ 6) % 2 = 0 := by first | omega | (simp; omega) | (simp at hz ⊢; omega)
  rw [hy] at h
  simp at h
  first | omega | (simp at h ⊢; omega)
theorem xor_keep1 {p b : Int} (hp : Byte p) (hb : Byte b) : bits .xor .u8 p (bits .andNot .u8 b 1) / 1 % 2 = p / 1 % 2 := by
  rw [andNot_flag 1 (by simp [IsFlag]) b hb.1 hb.2]
  have hv : Byte (setF b 1 false) := setF_b (by simp [IsFlag]) hb
  have hz : setF b 1 false / 1 % 2 = 0 := by unfold setF; unfold Byte at hb; simp <;> omega
  generalize setF b 1 false = v at hv hz
  obtain ⟨p0, p1⟩ := hp
  obtain ⟨v0, v1⟩ := hv
  obtain ⟨x, rfl⟩ := Int.eq_ofNat_of_zero_le p0
  obtain ⟨y, rfl⟩ := Int.eq_ofNat_of_zero_le v0
  rw [Go.u8_xor_nat x y (by omega) (by omega)]
  have h := Nat.testBit_xor x y 0
  generalize x ^^^ y = q at h ⊢
  rw [Nat.testBit_eq_decide_div_mod_eq, Nat.testBit_eq_decide_div_mod_eq, Nat.testBit_eq_decide_div_mod_eq] at h
  have hy : (y / 2 ^ 0) % 2 = 0 := by first | omega | (simp; omega) | (simp at hz ⊢; omega)
  rw [hy] at h
  simp at h
  first | omega | (simp at h ⊢; omega)
theorem xor_keep2 {p b : Int} (hp : Byte p) (hb : Byte b) : bits .xor .u8 p (bits .andNot .u8 b 2) / 2 % 2 = p / 2 % 2 := by
  rw [andNot_flag 2 (by simp [IsFlag]) b hb.1 hb.2]
  have hv : Byte (setF b 2 false) := setF_b (by simp [IsFlag]) hb
  have hz : setF b 2 false / 2 % 2 = 0 := by unfold setF; unfold Byte at hb; simp <;> omega
  generalize setF b 2 false = v at hv hz
  obtain ⟨p0, p1⟩ := hp
  obtain ⟨v0, v1⟩ := hv
  obtain ⟨x, rfl⟩ := Int.eq_ofNat_of_zero_le p0
  obtain ⟨y, rfl⟩ := Int.eq_ofNat_of_zero_le v0
  rw [Go.u8_xor_nat x y (by omega) (by omega)]
  have h := Nat.testBit_xor x y 1
  generalize x ^^^ y = q at h ⊢
  rw [Nat.testBit_eq_decide_div_mod_eq, Nat.testBit_eq_decide_div_mod_eq, Nat.testBit_eq_decide_div_mod_eq] at h
  have hy : (y / 2 ^ 1) % 2 = 0 := by first | omega | (simp; omega) | (simp at hz ⊢; omega)
  rw [hy] at h
  simp at h
  first | omega | (simp at h ⊢; omega)
theorem tk_off0 (p : Int) : takenM [66, 80, 76] p = (p / 128 % 2 == 0) := by rfl
theorem tk_on0 (p : Int) : takenM [66, 77, 73] p = (p / 128 % 2 == 1) := by rfl
theorem tk_off1 (p : Int) : takenM [66, 86, 67] p = (p / 64 % 2 == 0) := by rfl
theorem tk_on1 (p : Int) : takenM [66, 86, 83] p = (p / 64 % 2 == 1) := by rfl
theorem tk_off2 (p : Int) : takenM [66, 67, 67] p = (p / 1 % 2 == 0) := by rfl
theorem tk_on2 (p : Int) : takenM [66, 67, 83] p = (p / 1 % 2 == 1) := by rfl
theorem tk_off3 (p : Int) : takenM [66, 78, 69] p = (p / 2 % 2 == 0) := by rfl
theorem tk_on3 (p : Int) : takenM [66, 69, 81] p = (p / 2 % 2 == 1) := by rfl

set_option maxHeartbeats 8000000 in
theorem EffectBranches_walk (w : World) (p y : Int) (hp : Byte p) (hy : Byte y) :
    Calls Try.prog 3 #[.int .u8 p, .int .u8 y] w fun e W => e = .returned (.bool true) ∧ Below w.heap.size w W := by
  go_enter Try.func3, Try.ntmps3
  go_wp2_with fail
  refine (awake_any _).mono ?_
  rintro _ w1 ⟨_, rfl, rfl, hk⟩
  have hz := Lib.hid hk.size
  go_wp2_with fail
  go_loopg [9] 4 (fun g i wr => ∃ k : Nat, k + g = 4 ∧ i = .int .i64 k ∧ Blk wr w1.heap.size 9 [.string ⟨#[66, 80, 76]⟩, .string ⟨#[66, 86, 67]⟩, .string ⟨#[66, 67, 67]⟩, .string ⟨#[66, 78, 69]⟩] ∧ Blk wr (w1.heap.size + 1) 9 [.string ⟨#[66, 77, 73]⟩, .string ⟨#[66, 86, 83]⟩, .string ⟨#[66, 67, 83]⟩, .string ⟨#[66, 69, 81]⟩] ∧ Blk wr (w1.heap.size + 1 + 1) 5 [.int .u8 128, .int .u8 64, .int .u8 1, .int .u8 2] ∧ Kept w wr [])
  case atStart => exact ⟨0, by omega, rfl, ((Blk.new _ _ _).alloc _).alloc _, (Blk.second _ _ _ _).alloc _, Blk.third _ _ _ _ _, ((hk.alloc _).alloc _).alloc _⟩
  case round =>
    obtain ⟨k, hk4, rfl, hbx, hby, hbz, hkept⟩ := hrel
    by_cases hlt : k < 4
    · have hki : (k : Int) < 4 := by omega
      have hk0 : (0 : Int) ≤ (k : Int) := by omega
      obtain ⟨so, sn, f, e0, e1, e2, hf, a0, a1, hx⟩ : ∃ (so sn : ByteArray) (f : Int), ([.string ⟨#[66, 80, 76]⟩, .string ⟨#[66, 86, 67]⟩, .string ⟨#[66, 67, 67]⟩, .string ⟨#[66, 78, 69]⟩] : List Value)[k]? = some (.string so) ∧ ([.string ⟨#[66, 77, 73]⟩, .string ⟨#[66, 86, 83]⟩, .string ⟨#[66, 67, 83]⟩, .string ⟨#[66, 69, 81]⟩] : List Value)[k]? = some (.string sn) ∧ ([.int .u8 128, .int .u8 64, .int .u8 1, .int .u8 2] : List Value)[k]? = some (.int .u8 f) ∧ IsFlag f ∧ (∀ z, takenM so.toList z = (z / f % 2 == 0)) ∧ (∀ z, takenM sn.toList z = (z / f % 2 == 1)) ∧ bits .xor .u8 p (bits .andNot .u8 y f) / f % 2 = p / f % 2 := by
        have hcases : k = 0 ∨ k = 1 ∨ k = 2 ∨ k = 3 := by omega
        rcases hcases with rfl | rfl | rfl | rfl
        · exact ⟨_, _, _, rfl, rfl, rfl, by simp [IsFlag], fun z => by rw [ByteArray.toList_eq]; rfl, fun z => by rw [ByteArray.toList_eq]; rfl, xor_keep128 hp hy⟩
        · exact ⟨_, _, _, rfl, rfl, rfl, by simp [IsFlag], fun z => by rw [ByteArray.toList_eq]; rfl, fun z => by rw [ByteArray.toList_eq]; rfl, xor_keep64 hp hy⟩
        · exact ⟨_, _, _, rfl, rfl, rfl, by simp [IsFlag], fun z => by rw [ByteArray.toList_eq]; rfl, fun z => by rw [ByteArray.toList_eq]; rfl, xor_keep1 hp hy⟩
        · exact ⟨_, _, _, rfl, rfl, rfl, by simp [IsFlag], fun z => by rw [ByteArray.toList_eq]; rfl, fun z => by rw [ByteArray.toList_eq]; rfl, xor_keep2 hp hy⟩
      have s0 := hbx.cell k e0
      have s1 := hby.cell k e1
      have s2 := hbz.cell k e2
      replace e0 := Lib.hid e0
      replace e1 := Lib.hid e1
      replace e2 := Lib.hid e2
      replace hk4 := Lib.hid hk4
      replace a0 := Lib.hid a0
      replace a1 := Lib.hid a1
      replace hf := Lib.hid hf
      replace hx := Lib.hid hx
      go_upto_region 9 with fail
      have hq : Byte (bits .xor .u8 p (bits .andNot .u8 y f)) := byte_bits _ _ _
      replace hx := hx.out
      generalize bits .xor .u8 p (bits .andNot .u8 y f) = q at hq hx ⊢
      have ha := and_flag f hf.out p hp.1 hp.2
      have h2 : p / f % 2 = 0 ∨ p / f % 2 = 1 := by omega
      rcases h2 with h2 | h2
      · have ha2 : (bits .and .u8 p f != 0) = false := by
          rw [ha, h2]
          have := hf.out
          unfold IsFlag at this
          simp
          try omega
        have t1 : takenM so.toList p = true := by rw [a0.out, h2]; rfl
        have t2 : takenM sn.toList p = false := by rw [a1.out, h2]; rfl
        have t3 : takenM so.toList q = true := by rw [a0.out, hx, h2]; rfl
        have t4 : takenM sn.toList q = false := by rw [a1.out, hx, h2]; rfl
        clear ha hx h2 a0 a1
        replace t1 := Lib.hid t1
        replace t2 := Lib.hid t2
        replace t3 := Lib.hid t3
        replace t4 := Lib.hid t4
        go_region_held3 (fun W => W.cell? ⟨w1.heap.size, k, none⟩ = some (.string so) ∧ W.cell? ⟨w1.heap.size + 1, k, none⟩ = some (.string sn) ∧ W.cell? ⟨w1.heap.size + 1 + 1, k, none⟩ = some (.int .u8 f)) (first | (with_reducible exact ⟨hbx.cell k e0.out, hby.cell k e1.out, hbz.cell k e2.out⟩) | go_keep) (first | (go_at_call 12; refine (taken_any _ _ _ (by first | exact hp | exact hq)).mono ?_; rintro _ w2 ⟨_, rfl, rfl, k2⟩; (first | rw [t1.out] | rw [t2.out] | rw [t3.out] | rw [t4.out]); replace hbx := (by first | (with_reducible exact Blk.kept hbx k2 (by simp)) | (with_reducible exact Blk.kept hbx.drew k2 (by simp)) : Blk w2 w1.heap.size 9 [.string ⟨#[66, 80, 76]⟩, .string ⟨#[66, 86, 67]⟩, .string ⟨#[66, 67, 67]⟩, .string ⟨#[66, 78, 69]⟩]); replace hby := (by first | (with_reducible exact Blk.kept hby k2 (by simp)) | (with_reducible exact Blk.kept hby.drew k2 (by simp)) : Blk w2 (w1.heap.size + 1) 9 [.string ⟨#[66, 77, 73]⟩, .string ⟨#[66, 86, 83]⟩, .string ⟨#[66, 67, 83]⟩, .string ⟨#[66, 69, 81]⟩]); replace hbz := (by first | (with_reducible exact Blk.kept hbz k2 (by simp)) | (with_reducible exact Blk.kept hbz.drew k2 (by simp)) : Blk w2 (w1.heap.size + 1 + 1) 5 [.int .u8 128, .int .u8 64, .int .u8 1, .int .u8 2]); replace hkept := (by first | (with_reducible exact Kept.trans hkept k2 (by simp)) | (with_reducible exact Kept.trans hkept.drew k2 (by simp)) : Kept w w2 []); clear k2; simp only []))
        go_wp2_with fail
        go_roundg (gk - 1)
        case measure => have := hk4.out; omega
        case rel => exact ⟨k + 1, by have := hk4.out; omega, by go_num, hbx, hby, hbz, hkept⟩
      · have ha2 : (bits .and .u8 p f != 0) = true := by
          rw [ha, h2]
          have := hf.out
          unfold IsFlag at this
          simp
          try omega
        have t1 : takenM so.toList p = false := by rw [a0.out, h2]; rfl
        have t2 : takenM sn.toList p = true := by rw [a1.out, h2]; rfl
        have t3 : takenM so.toList q = false := by rw [a0.out, hx, h2]; rfl
        have t4 : takenM sn.toList q = true := by rw [a1.out, hx, h2]; rfl
        clear ha hx h2 a0 a1
        replace t1 := Lib.hid t1
        replace t2 := Lib.hid t2
        replace t3 := Lib.hid t3
        replace t4 := Lib.hid t4
        go_region_held3 (fun W => W.cell? ⟨w1.heap.size, k, none⟩ = some (.string so) ∧ W.cell? ⟨w1.heap.size + 1, k, none⟩ = some (.string sn) ∧ W.cell? ⟨w1.heap.size + 1 + 1, k, none⟩ = some (.int .u8 f)) (first | (with_reducible exact ⟨hbx.cell k e0.out, hby.cell k e1.out, hbz.cell k e2.out⟩) | go_keep) (first | (go_at_call 12; refine (taken_any _ _ _ (by first | exact hp | exact hq)).mono ?_; rintro _ w2 ⟨_, rfl, rfl, k2⟩; (first | rw [t1.out] | rw [t2.out] | rw [t3.out] | rw [t4.out]); replace hbx := (by first | (with_reducible exact Blk.kept hbx k2 (by simp)) | (with_reducible exact Blk.kept hbx.drew k2 (by simp)) : Blk w2 w1.heap.size 9 [.string ⟨#[66, 80, 76]⟩, .string ⟨#[66, 86, 67]⟩, .string ⟨#[66, 67, 67]⟩, .string ⟨#[66, 78, 69]⟩]); replace hby := (by first | (with_reducible exact Blk.kept hby k2 (by simp)) | (with_reducible exact Blk.kept hby.drew k2 (by simp)) : Blk w2 (w1.heap.size + 1) 9 [.string ⟨#[66, 77, 73]⟩, .string ⟨#[66, 86, 83]⟩, .string ⟨#[66, 67, 83]⟩, .string ⟨#[66, 69, 81]⟩]); replace hbz := (by first | (with_reducible exact Blk.kept hbz k2 (by simp)) | (with_reducible exact Blk.kept hbz.drew k2 (by simp)) : Blk w2 (w1.heap.size + 1 + 1) 5 [.int .u8 128, .int .u8 64, .int .u8 1, .int .u8 2]); replace hkept := (by first | (with_reducible exact Kept.trans hkept k2 (by simp)) | (with_reducible exact Kept.trans hkept.drew k2 (by simp)) : Kept w w2 []); clear k2; simp only []))
        go_wp2_with fail
        go_roundg (gk - 1)
        case measure => have := hk4.out; omega
        case rel => exact ⟨k + 1, by have := hk4.out; omega, by go_num, hbx, hby, hbz, hkept⟩
    · obtain rfl : k = 4 := by omega
      clear hbx hby hbz
      go_wp2_with fail
      go_ret
      exact ⟨by simp, hkept.below _ (Nat.le_refl _) (by simp)⟩

end Go.Proofs.Ytmiihcaccejklaa
