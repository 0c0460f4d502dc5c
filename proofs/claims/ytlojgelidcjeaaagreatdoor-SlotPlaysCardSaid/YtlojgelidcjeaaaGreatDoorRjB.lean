/- PROVED: the document's head: Encode. No conditions beyond those that each theorem states. -/
import Derived.Test.YtlojgelidcjeaaaGreatDoorRjA
import Derived.Test.YtlojgelidcjeaaaGreatDoorRhB
namespace Go.Proofs.YtlojgelidcjeaaaGreatDoor
open Go.RowKit Go.Proofs.YtlojgelidcjeaaaGreatDoorLib
set_option linter.unusedSimpArgs false
set_option linter.unusedVariables false

set_option maxRecDepth 100000 in
set_option maxHeartbeats 4000000 in
theorem rencode_yes (w : World) (e f s len seq sum : Int) (hr : gRight e f s = true) (hl : len = gTotal e f s) (q0 : 0 ≤ seq) (q1 : seq ≤ 18446744073709551615) (u0 : 0 ≤ sum) (u1 : sum ≤ 4294967295) :
    Calls Tryz.prog 46 #[headV e f s len seq sum] w (Post w [] fun r W => ∃ v, r = .tuple #[v, .int .i64 0] ∧ Own 5 .u8 W w.heap.size v (encL e f s len seq sum)) := by
  obtain ⟨⟨e0, e1⟩, ⟨f0, f1⟩, s0, s1⟩ := gRight_byte hr
  have hl0 : 0 ≤ len := by omega
  have hl1 : len ≤ 100000 := by have := gTotal_le e f s; omega
  obtain ⟨i0, hi, hz0, hz1, hz2⟩ := info_parts info8
  have HI := Lib.hid (And.intro hi (And.intro hz0 (And.intro hz1 hz2)))
  have hbb := encB_bts hr len seq sum
  have hbl := encB_len e f s len seq sum
  have y0 : IntKind.u8.wrap e = e := by rw [IntKind.wrap_u8]; omega
  have y1 : IntKind.u8.wrap f = f := by rw [IntKind.wrap_u8]; omega
  have y2 : IntKind.u8.wrap s = s := by rw [IntKind.wrap_u8]; omega
  have y3 : IntKind.u64.wrap len = len := by rw [IntKind.wrap_u64]; omega
  have y4 : IntKind.u64.wrap sum = sum := by rw [IntKind.wrap_u64]; omega
  have hsu := sumM_u32 (encB e f s len seq sum)
  have y5 : IntKind.u64.wrap (sumM (encB e f s len seq sum)) = sumM (encB e f s len seq sum) := by rw [IntKind.wrap_u64]; omega
  have hc : ∀ W, Calls Tryz.prog 80 #[headV e f s len seq sum] W (Post W [] fun v W => v = .bool true) := fun W => (rhcan_any W e f s len seq sum).mono (by
    rintro _ V ⟨_, rfl, rfl, k⟩
    exact ⟨_, rfl, by rw [hr, hl]; simp, k⟩)
  have HC := Lib.hid hc
  have HB1 : Hid (∀ W, Calls Tryz.prog 81 #[.int .u64 len, .int .i64 4] W (Post W [] fun r V => Own 5 .u8 V W.heap.size r (layM len 4))) := Lib.hid (fun W => rbyt_any W len 4 hl0 (by omega) (by omega))
  have HB2 : Hid (∀ W, Calls Tryz.prog 81 #[.int .u64 seq, .int .i64 8] W (Post W [] fun r V => Own 5 .u8 V W.heap.size r (layM seq 8))) := Lib.hid (fun W => rbyt_any W seq 8 q0 q1 (by omega))
  have HB3 : Hid (∀ W, Calls Tryz.prog 81 #[.int .u64 sum, .int .i64 4] W (Post W [] fun r V => Own 5 .u8 V W.heap.size r (layM sum 4))) := Lib.hid (fun W => rbyt_any W sum 4 u0 (by omega) (by omega))
  have HB4 : Hid (∀ W, Calls Tryz.prog 81 #[.int .u64 (sumM (encB e f s len seq sum)), .int .i64 4] W (Post W [] fun r V => Own 5 .u8 V W.heap.size r (layM (sumM (encB e f s len seq sum)) 4))) := Lib.hid (fun W => rbyt_any W _ 4 hsu.1 (by omega) (by omega))
  obtain ⟨L0, hL0⟩ : ∃ L0, L0 = ([75, 69, 69, 80, 1, e, f, s] : List Int) := ⟨_, rfl⟩
  obtain ⟨L1, hL1⟩ : ∃ L1, L1 = L0 ++ layM len 4 := ⟨_, rfl⟩
  obtain ⟨L2, hL2⟩ : ∃ L2, L2 = L1 ++ layM seq 8 := ⟨_, rfl⟩
  obtain ⟨L3, hL3⟩ : ∃ L3, L3 = L2 ++ layM sum 4 := ⟨_, rfl⟩
  have hE3 : L3 = encB e f s len seq sum := by rw [hL3, hL2, hL1, hL0]; unfold encB; simp
  obtain ⟨L4, hL4⟩ : ∃ L4, L4 = L3 ++ layM (sumM L3) 4 := ⟨_, rfl⟩
  have hE4 : encL e f s len seq sum = L4 := by rw [hL4, hE3]; rfl
  rw [hE4]
  rw [← hE3] at hbb hsu y5 HB4
  have n0 : L0.length = 8 := by rw [hL0]; rfl
  have n1 : L1.length = 12 := by rw [hL1, List.length_append, n0, layM_len]
  have n2 : L2.length = 20 := by rw [hL2, List.length_append, n1, layM_len]
  have n3 : L3.length = 24 := by rw [hL3, List.length_append, n2, layM_len]
  have n4 : L4.length = 28 := by rw [hL4, List.length_append, n3, layM_len]
  have HN := Lib.hid (And.intro n0 (And.intro n1 (And.intro n2 (And.intro n3 n4))))
  have E1 := Lib.hid hL1
  have E2 := Lib.hid hL2
  have E3 := Lib.hid hL3
  have E4 := Lib.hid hL4
  have E0 := Lib.hid hL0
  have HBB := Lib.hid hbb
  have HSUM0 := Lib.hid (fun W v bq (hs : Sl .u8 W v bq 0 L3) => rsum_any W v bq 0 L3 hs HBB.out (by rw [HN.out.2.2.2.1]; omega))
  generalize sumM L3 = S at *
  have hb0 := Blk.new w 83 (headC e f s len seq sum)
  have k0 : Kept w (w.alloc (.cells #[.int .i64 e, .int .i64 f, .int .i64 s, .int .i64 len, .int .u64 seq, .int .u32 sum] 83)) [] := (Kept.refl w []).alloc _
  have HB0 := Lib.hid hb0
  have K0 := Lib.hid k0
  have z0 := hb0.cell 0 rfl
  have z1 := hb0.cell 1 rfl
  have z2 := hb0.cell 2 rfl
  have z3 := hb0.cell 3 rfl
  have z4 := hb0.cell 4 rfl
  have z5 := hb0.cell 5 rfl
  have HLN0 := Lib.hid n0
  clear hi hz0 hz1 hz2 hc hL0 hL1 hL2 hL3 hL4 hE3 hE4 n0 n1 n2 n3 n4 hbb hbl hsu hr hl q0 q1 u0 u1 hb0 k0
  go_enter Tryz.func46, Tryz.ntmps46
  go_wp2_with fail
  (with_reducible refine (HC.out _).mono ?_)
  rintro _ w1 ⟨_, rfl, rfl, k1⟩
  have hb1 := HB0.out.kept k1 (by simp)
  have K1 := Lib.hid (K0.out.trans k1 (by simp))
  have HB1h := Lib.hid hb1
  clear z0 z1 z2 z3 z4 z5 k1
  have z0 := hb1.cell 0 rfl
  have z1 := hb1.cell 1 rfl
  have z2 := hb1.cell 2 rfl
  clear hb1
  go_upto_region 5 with fail
  have ho0 : Own 5 .u8 (w1.alloc (.cells #[.int .u8 75, .int .u8 69, .int .u8 69, .int .u8 80, .int .u8 1, .int .u8 e, .int .u8 f, .int .u8 s] 5)) w1.heap.size (.slice (some ⟨w1.heap.size, 0, none⟩) 8 8) L0 := by
    rw [E0.out]
    exact ⟨rfl, .inr ⟨w1.heap.size, 8, _, rfl, Nat.le_refl _, heap_alloc_new w1 _, by simp, by unfold maxLen; omega, rfl, rfl⟩⟩
  have kc0 : Kept w1 (w1.alloc (.cells #[.int .u8 75, .int .u8 69, .int .u8 69, .int .u8 80, .int .u8 1, .int .u8 e, .int .u8 f, .int .u8 s] 5)) [] := (Kept.refl w1 []).alloc _
  with_reducible refine open_world (fun V => Own 5 .u8 V w1.heap.size (.slice (some ⟨w1.heap.size, 0, none⟩) 8 8) L0 ∧ Kept w1 V []) ⟨ho0, kc0⟩ ?_
  rintro V0 ⟨ho, kc⟩
  have HO0 := Lib.hid ho
  have KC0 := Lib.hid kc
  have hbV0 := HB1h.out.kept kc (by simp)
  have z3 := hbV0.cell 3 rfl
  clear ho kc ho0 kc0 z0 z1 z2 hbV0
  go_wp2_with fail
  (with_reducible refine (HB1.out _).mono ?_)
  rintro _ wa1 ⟨_, rfl, hr, k⟩
  have ho := HO0.out.kept k (by simp [Apart])
  obtain ⟨br, hsr, _⟩ := hr.sl
  obtain ⟨Ar, cr, rfl⟩ := hsr.form
  have hnr := layM_len len 4
  obtain ⟨v7, w7, hap, ho7, k7⟩ := own_append (P := Tryz.prog) Tryz.underlying35 HI.out.1 HI.out.2.1 HI.out.2.2.1 HI.out.2.2.2 ho hsr (by have := HN.out; have hq := HLN0.out; rw [hnr]; omega) (by have := HN.out; have hq := HLN0.out; rw [hnr]; unfold maxLen; omega) (by have h1 := KC0.out.size; have h2 := k.size; omega) 35
  rw [← E1.out] at ho7
  have kc7 : Kept w1 w7 [] := (KC0.out.trans k (by simp)).trans k7 (fun q hq => .inr (by simp only [Option.mem_toList] at hq; exact (HO0.out.lt q hq).1))
  obtain ⟨q7, hs7, _⟩ := ho7.sl
  obtain ⟨A7, c7, rfl⟩ := hs7.form
  rw [hnr] at hap
  have HAP := Lib.hid hap
  have HO1 := Lib.hid ho7
  have KC1 := Lib.hid kc7
  have hbV := HB1h.out.kept kc7 (by simp)
  have z4 := hbV.cell 4 rfl
  clear hbV
  clear ho hr k hsr hap ho7 k7 kc7 hs7 z3
  clear hnr
  generalize hn1 : L1.length = ln1 at *
  have HLN1 := Lib.hid hn1
  clear hn1
  go_wp2_with (first | (at_builtin; refine wpList_append_run rfl _ _ _ rfl rfl rfl HAP.out ?_))
  (with_reducible refine (HB2.out _).mono ?_)
  rintro _ wa2 ⟨_, rfl, hr, k⟩
  have ho := HO1.out.kept k (by simp [Apart])
  obtain ⟨br, hsr, _⟩ := hr.sl
  obtain ⟨Ar, cr, rfl⟩ := hsr.form
  have hnr := layM_len seq 8
  obtain ⟨v7, w7, hap, ho7, k7⟩ := own_append (P := Tryz.prog) Tryz.underlying35 HI.out.1 HI.out.2.1 HI.out.2.2.1 HI.out.2.2.2 ho hsr (by have := HN.out; have hq := HLN1.out; rw [hnr]; omega) (by have := HN.out; have hq := HLN1.out; rw [hnr]; unfold maxLen; omega) (by have h1 := KC1.out.size; have h2 := k.size; omega) 35
  rw [← E2.out] at ho7
  have kc7 : Kept w1 w7 [] := (KC1.out.trans k (by simp)).trans k7 (fun q hq => .inr (by simp only [Option.mem_toList] at hq; exact (HO1.out.lt q hq).1))
  obtain ⟨q7, hs7, _⟩ := ho7.sl
  obtain ⟨A7, c7, rfl⟩ := hs7.form
  rw [hnr] at hap
  have HAP := Lib.hid hap
  have HO2 := Lib.hid ho7
  have KC2 := Lib.hid kc7
  have hbV := HB1h.out.kept kc7 (by simp)
  have z5 := hbV.cell 5 rfl
  clear hbV
  clear ho hr k hsr hap ho7 k7 kc7 hs7 z4
  clear hnr
  generalize hn2 : L2.length = ln2 at *
  have HLN2 := Lib.hid hn2
  clear hn2
  go_wp2_with (first | (at_builtin; refine wpList_append_run rfl _ _ _ rfl rfl rfl HAP.out ?_))
  (with_reducible refine (HB3.out _).mono ?_)
  rintro _ wa3 ⟨_, rfl, hr, k⟩
  have ho := HO2.out.kept k (by simp [Apart])
  obtain ⟨br, hsr, _⟩ := hr.sl
  obtain ⟨Ar, cr, rfl⟩ := hsr.form
  have hnr := layM_len sum 4
  obtain ⟨v7, w7, hap, ho7, k7⟩ := own_append (P := Tryz.prog) Tryz.underlying35 HI.out.1 HI.out.2.1 HI.out.2.2.1 HI.out.2.2.2 ho hsr (by have := HN.out; have hq := HLN2.out; rw [hnr]; omega) (by have := HN.out; have hq := HLN2.out; rw [hnr]; unfold maxLen; omega) (by have h1 := KC2.out.size; have h2 := k.size; omega) 35
  rw [← E3.out] at ho7
  have kc7 : Kept w1 w7 [] := (KC2.out.trans k (by simp)).trans k7 (fun q hq => .inr (by simp only [Option.mem_toList] at hq; exact (HO2.out.lt q hq).1))
  obtain ⟨q7, hs7, _⟩ := ho7.sl
  obtain ⟨A7, c7, rfl⟩ := hs7.form
  rw [hnr] at hap
  have HAP := Lib.hid hap
  have HO3 := Lib.hid ho7
  have KC3 := Lib.hid kc7
  clear ho hr k hsr hap ho7 k7 kc7 hs7 z5
  clear hnr
  generalize hn3 : L3.length = ln3 at *
  have HLN3 := Lib.hid hn3
  clear hn3
  go_wp2_with (first | (at_builtin; refine wpList_append_run rfl _ _ _ rfl rfl rfl HAP.out ?_))
  obtain ⟨g3, hs3, _⟩ := HO3.out.sl
  have HS3 := Lib.hid hs3
  clear hs3
  (with_reducible refine (HSUM0.out _ _ g3 HS3.out).mono ?_)
  rintro _ ws ⟨_, rfl, rfl, ks⟩
  have HO3s := Lib.hid (HO3.out.kept ks (by simp [Apart]))
  have KC3s := Lib.hid (KC3.out.trans ks (by simp))
  clear ks
  go_wp2_with fail
  (with_reducible refine (HB4.out _).mono ?_)
  rintro _ wa4 ⟨_, rfl, hr, k⟩
  have ho := HO3s.out.kept k (by simp [Apart])
  obtain ⟨br, hsr, _⟩ := hr.sl
  obtain ⟨Ar, cr, rfl⟩ := hsr.form
  have hnr := layM_len S 4
  obtain ⟨v7, w7, hap, ho7, k7⟩ := own_append (P := Tryz.prog) Tryz.underlying35 HI.out.1 HI.out.2.1 HI.out.2.2.1 HI.out.2.2.2 ho hsr (by have := HN.out; have hq := HLN3.out; rw [hnr]; omega) (by have := HN.out; have hq := HLN3.out; rw [hnr]; unfold maxLen; omega) (by have h1 := KC3s.out.size; have h2 := k.size; omega) 35
  rw [← E4.out] at ho7
  have kc7 : Kept w1 w7 [] := (KC3s.out.trans k (by simp)).trans k7 (fun q hq => .inr (by simp only [Option.mem_toList] at hq; exact (HO3s.out.lt q hq).1))
  obtain ⟨q7, hs7, _⟩ := ho7.sl
  obtain ⟨A7, c7, rfl⟩ := hs7.form
  rw [hnr] at hap
  have HAP := Lib.hid hap
  have HO4 := Lib.hid ho7
  have KC4 := Lib.hid kc7
  clear ho hr k hsr hap ho7 k7 kc7 hs7
  clear hnr
  generalize hn4 : L4.length = ln4 at *
  have HLN4 := Lib.hid hn4
  clear hn4
  go_wp2_with (first | (at_builtin; refine wpList_append_run rfl _ _ _ rfl rfl rfl HAP.out ?_))
  go_ret2
  exact ⟨_, rfl, ⟨_, rfl, Own.mono HO4.out K1.out.size⟩, K1.out.trans KC4.out (by simp)⟩
end Go.Proofs.YtlojgelidcjeaaaGreatDoor
