/- PROVED: the contracts of keepsakelaw02.awake and made. No conditions beyond those that each theorem states. -/
import Derived.Test.YtcbngmfbbdmlgaaDkL
import Derived.Test.YtcbngmfbbdmlgaaSame
namespace Go.Proofs.Ytcbngmfbbdmlgaa
open Go.RowKit Go.Proofs.YtcbngmfbbdmlgaaLib Go.WideElems Go.Maps
set_option linter.unusedSimpArgs false
set_option linter.unusedVariables false

set_option maxRecDepth 100000 in
set_option maxHeartbeats 8000000 in
theorem awake_any (w : World) : Calls Try.prog 4 #[] w (Post w [] fun v W => v = .bool true) := by
  go_enter Try.func4, Try.ntmps4
  go_wp2_with fail
  refine (new_yes w 2 1 ⟨by decide, by decide, by decide, by decide⟩).mono ?_
  rintro _ w1 ⟨_, rfl, ⟨b, F, rfl, hd, hF⟩, k1⟩
  have HD := Lib.hid hd
  have HF := Lib.hid hF
  have K1 := Lib.hid k1
  clear hd hF k1
  go_wp2_with fail
  have hb2 := Blk.new w1 5 [.int .u8 7]
  have k2 : Kept w1 (w1.alloc (.cells #[.int .u8 7] 5)) [] := (Kept.refl _ _).alloc _
  have hs2 := Sl.of_blk (k := .u8) [7] hb2 rfl 1 (Nat.le_refl _) (by unfold maxLen; omega)
  have hn2 : w1.heap.size ∉ F := fun hm => by have := HD.out.lt _ hm; omega
  have hd2 := HD.out.kept k2 (by simp)
  refine (write_any _ b F _ hd2 (by show 0 < _; decide) 1 _ w1.heap.size 0 [7] hs2 (.inr hn2) (by intro x hx; simp at hx; omega)).mono ?_
  rintro _ w3 ⟨_, rfl, ⟨rfl, F3, hF3, hd3⟩, k3⟩
  rw [show ((DiskS.new (Int.toNat 2) (Int.toNat 1)).write 1 [7]).2 = 0 from by decide]
  have HD3 := Lib.hid hd3
  have HF3 : Hid (∀ g, g ∈ F3 → w.heap.size ≤ g) := Lib.hid (fun g hg => (hF3 g hg).elim (HF.out g) (fun h => by have := K1.out.size; simp at h; omega))
  have K3 : Hid (Kept w w3 []) := Lib.hid ((K1.out.trans k2 (by simp)).trans k3 (fun g hg => .inr (HF.out g hg)))
  clear hb2 k2 hs2 hn2 hd2 hF3 hd3 k3
  go_wp2_with fail
  have hb4 := Blk.new w3 51 [.int .i64 1, .slice none 0 0]
  have k4 : Kept w3 (w3.alloc (.cells #[.int .i64 1, .slice none 0 0] 51)) [] := (Kept.refl _ _).alloc _
  have ht4 : TearsAt (w3.alloc (.cells #[.int .i64 1, .slice none 0 0] 51)) F3 (.slice (some ⟨w3.heap.size, 0, none⟩) 1 1) [(1, [])] := by
    refine ⟨_, 1, rfl, Nat.le_refl _, by unfold maxLen; omega, fun i t hi => ?_⟩
    match i with
    | 0 =>
      simp at hi; subst hi
      exact ⟨w3.heap.size, 0, .slice none 0 0, rfl, fun hm => by have := HD3.out.lt _ hm; omega, hb4.cell 0 rfl, hb4.cell 1 rfl, 0, 0, Sl.nil _ _ _ _, Bts.nil, .inl rfl⟩
    | i + 1 => simp at hi
  refine (crash_any _ b F3 _ (HD3.out.kept k4 (by simp)) _ _ ht4).mono ?_
  rintro _ w5 ⟨_, rfl, ⟨rfl, hd5⟩, k5⟩
  have HD5 := Lib.hid hd5
  have K5 : Hid (Kept w w5 []) := Lib.hid ((K3.out.trans k4 (by simp)).trans k5 (fun g hg => .inr (HF3.out g hg)))
  clear hb4 k4 ht4 hd5 k5
  generalize hs5 : (((DiskS.new (Int.toNat 2) (Int.toNat 1)).write 1 [7]).1.crash [(1, [])]) = s5 at HD5
  have e1 : s5.bytes = [0, 7] := by rw [← hs5]; decide
  have e2 : s5.last.length = 2 := by rw [← hs5]; decide
  have e3 : s5.size = 1 := by rw [← hs5]; decide
  have e4 : s5.ops = 1 := by rw [← hs5]; decide
  have e5 : s5.writes = 1 := by rw [← hs5]; decide
  have E1 := Lib.hid e1
  have E2 := Lib.hid e2
  have E3 := Lib.hid e3
  have E4 := Lib.hid e4
  have E5 := Lib.hid e5
  clear e1 e2 e3 e4 e5 hs5
  go_wp2_with fail
  refine (bytes_any _ b F3 s5 HD5.out).mono ?_
  rintro _ w6 ⟨v6, rfl, hv6, k6⟩
  have HD6 := Lib.hid (HD5.out.kept k6 (by simp))
  have K6 := Lib.hid (K5.out.trans k6 (by simp))
  rw [E1.out] at hv6
  have HV6 := Lib.hid hv6
  clear k6 hv6
  go_wp2_with fail
  have hb7 := Blk.new w6 5 [.int .u8 0, .int .u8 7]
  have k7 : Kept w6 (w6.alloc (.cells #[.int .u8 0, .int .u8 7] 5)) [] := (Kept.refl _ _).alloc _
  obtain ⟨b6, hs6, _⟩ := (HV6.out.kept k7 (by simp [Apart])).sl
  refine (same_any _ _ _ b6 0 w6.heap.size 0 [0, 7] [0, 7] hs6 (Sl.of_blk (k := .u8) [0, 7] hb7 rfl 2 (Nat.le_refl _) (by unfold maxLen; omega))).mono ?_
  rintro _ w8 ⟨_, rfl, rfl, k8⟩
  have HD8 := Lib.hid ((HD6.out.kept k7 (by simp)).kept k8 (by simp))
  have K8 := Lib.hid ((K6.out.trans k7 (by simp)).trans k8 (by simp))
  clear hb7 k7 hs6 k8
  rw [decide_eq_true rfl]
  go_wp2_with fail
  refine (sectors_any _ b F3 s5 HD8.out).mono ?_
  rintro _ w9 ⟨_, rfl, rfl, k9⟩
  have HD9 := Lib.hid (HD8.out.kept k9 (by simp))
  have K9 := Lib.hid (K8.out.trans k9 (by simp))
  clear k9
  rw [E2.out]
  go_wp2_with fail
  refine (size_any _ b F3 s5 HD9.out).mono ?_
  rintro _ w10 ⟨_, rfl, rfl, k10⟩
  have HD10 := Lib.hid (HD9.out.kept k10 (by simp))
  have K10 := Lib.hid (K9.out.trans k10 (by simp))
  clear k10
  rw [E3.out]
  go_wp2_with fail
  refine (ops_any _ b F3 s5 HD10.out).mono ?_
  rintro _ w11 ⟨_, rfl, rfl, k11⟩
  have HD11 := Lib.hid (HD10.out.kept k11 (by simp))
  have K11 := Lib.hid (K10.out.trans k11 (by simp))
  clear k11
  rw [E4.out]
  go_wp2_with fail
  refine (writes_any _ b F3 s5 HD11.out).mono ?_
  rintro _ w12 ⟨_, rfl, rfl, k12⟩
  have K12 := Lib.hid (K11.out.trans k12 (by simp))
  clear k12
  rw [E5.out]
  go_wp2_with fail
  go_ret
  exact ⟨_, rfl, rfl, K12.out⟩
end Go.Proofs.Ytcbngmfbbdmlgaa
