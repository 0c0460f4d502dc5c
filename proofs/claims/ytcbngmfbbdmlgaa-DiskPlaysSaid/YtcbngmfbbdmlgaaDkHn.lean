/- PROVED: the contract of disk.New. No conditions beyond those that each theorem states. -/
import Derived.Test.YtcbngmfbbdmlgaaDkG
namespace Go.Proofs.Ytcbngmfbbdmlgaa
open Go.RowKit Go.Proofs.YtcbngmfbbdmlgaaLib Go.WideElems Go.Maps
set_option linter.unusedSimpArgs false
set_option linter.unusedVariables false

def NewOk (k n : Int) : Prop := 0 ≤ k ∧ k ≤ 4096 ∧ 1 ≤ n ∧ n ≤ 4096
instance (k n : Int) : Decidable (NewOk k n) := by unfold NewOk; infer_instance
set_option maxRecDepth 100000 in
set_option maxHeartbeats 4000000 in
theorem new_no (w : World) (k n : Int) (h : ¬ NewOk k n) : Calls Try.prog 6 #[.int .i64 k, .int .i64 n] w (Post w [] fun r W => r = .tuple #[.pointer none, .int .i64 1]) := by
  unfold NewOk at h
  by_cases q1 : k < 0
  · go_enter Try.func6, Try.ntmps6
    go_wp2
    go_ret2
    exact ⟨_, rfl, rfl, Kept.refl _ _⟩
  by_cases q2 : 4096 < k
  · go_enter Try.func6, Try.ntmps6
    go_wp2
    go_ret2
    exact ⟨_, rfl, rfl, Kept.refl _ _⟩
  by_cases q3 : n < 1
  · go_enter Try.func6, Try.ntmps6
    go_wp2
    go_ret2
    exact ⟨_, rfl, rfl, Kept.refl _ _⟩
  have q4 : 4096 < n := by omega
  clear h
  go_enter Try.func6, Try.ntmps6
  go_wp2
  go_ret2
  exact ⟨_, rfl, rfl, Kept.refl _ _⟩
/-- a new disk's sectors are noughts -/
def DiskS.new (k n : Nat) : DiskS := ⟨n, List.replicate k (List.replicate n 0), List.replicate k none, fun _ => false, 0, 0, 0⟩
theorem chop_replicate (n k : Nat) : chop n (List.replicate (k * n) 0) k = List.replicate k (List.replicate n 0) := by
  induction k with
  | zero => rfl
  | succ k ih =>
    rw [chop, List.replicate_succ, List.take_replicate, List.drop_replicate, Nat.succ_mul, Nat.min_eq_left (by omega), show k * n + n - n = k * n by omega, ih]
theorem open_new (k n : Nat) (h : 0 < n) : DiskS.open n (List.replicate (k * n) 0) = DiskS.new k n := by
  unfold DiskS.open DiskS.new
  rw [List.length_replicate, Nat.mul_div_cancel _ h, chop_replicate]
set_option maxRecDepth 100000 in
set_option maxHeartbeats 4000000 in
theorem new_yes (w : World) (k n : Int) (h : NewOk k n) : Calls Try.prog 6 #[.int .i64 k, .int .i64 n] w (Post w [] fun r W => ∃ b F, r = .tuple #[.pointer (some ⟨b, 0, none⟩), .int .i64 0] ∧ DiskAt W b F (DiskS.new k.toNat n.toNat) ∧ ∀ g, g ∈ F → w.heap.size ≤ g) := by
  obtain ⟨h1, h2, h3, h4⟩ := h
  obtain ⟨k, rfl⟩ := Int.eq_ofNat_of_zero_le h1
  obtain ⟨n, rfl⟩ := Int.eq_ofNat_of_zero_le (show 0 ≤ n by omega)
  simp only [Int.toNat_natCast]
  have hmul : k * n ≤ 4096 * 4096 := Nat.mul_le_mul (by omega) (by omega)
  have e1 : ((k : Int) * (n : Int)) = ((k * n : Nat) : Int) := by simp
  have hop := open_new k n (by omega)
  have hoo : OpenOk (n : Int) (List.replicate (k * n) 0) := by
    refine ⟨h3, h4, ?_, ?_⟩
    · rw [List.length_replicate, Int.toNat_natCast]; exact Nat.mul_mod_left _ _
    · rw [List.length_replicate, Int.toNat_natCast, Nat.mul_div_cancel _ (by omega)]; omega
  generalize k * n = m at *
  have HOP := Lib.hid hop
  have HOO := Lib.hid hoo
  have m0 : (0 : Int) ≤ m := by omega
  have m1 : (m : Int) ≤ 16777216 := by omega
  obtain ⟨i0, hi, hz0, hz1, hz2⟩ := info_parts info8
  obtain ⟨w1, hmk, hrow, k1⟩ := make_own (P := Try.prog) (k := .u8) Try.underlying31 hi hz0 hz1 (by omega) m (by omega) w
  have HROW := Lib.hid hrow
  have K1 := Lib.hid k1
  clear hrow k1 hi hz0 hz1 hz2 hop hoo
  go_enter Try.func6, Try.ntmps6
  go_wp2_with fail
  obtain ⟨bq, hsl, _⟩ := HROW.out.sl
  refine (open_yes w1 n _ bq 0 _ hsl (Bts.replicate0 _) HOO.out).mono ?_
  rintro _ w2 ⟨_, rfl, ⟨b, F, rfl, hd, hF⟩, k2⟩
  rw [Int.toNat_natCast, HOP.out] at hd
  have HD := Lib.hid hd
  have HFF := Lib.hid hF
  have K2 := Lib.hid k2
  clear hd hF k2 hsl
  go_wp2_with fail
  go_ret2
  exact ⟨_, rfl, ⟨b, F, rfl, HD.out, fun g hg => Nat.le_trans K1.out.size (HFF.out g hg)⟩, K1.out.trans K2.out (by simp)⟩
end Go.Proofs.Ytcbngmfbbdmlgaa
