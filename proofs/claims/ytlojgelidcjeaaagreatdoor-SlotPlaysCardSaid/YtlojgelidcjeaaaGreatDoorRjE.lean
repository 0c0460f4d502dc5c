/- PROVED: the document's slot: first, Wipe, Seal, Data; the document's slot: Wipe, Seal, Data; the document's slot: Data. No conditions beyond those that each theorem states. -/
import Derived.Test.YtlojgelidcjeaaaGreatDoorRjB
import Derived.Test.YtlojgelidcjeaaaGreatDoorRfE
import Derived.Test.YtlojgelidcjeaaaGreatDoorSlRb
namespace Go.Proofs.YtlojgelidcjeaaaGreatDoor
open Go.RowKit Go.Proofs.YtlojgelidcjeaaaGreatDoorLib Go.WideElems Go.Maps
set_option linter.unusedSimpArgs false
set_option linter.unusedVariables false

set_option maxRecDepth 100000 in
set_option maxHeartbeats 4000000 in
theorem rfirst_any (w : World) (b : Nat) (F X : List Nat) (s : DiskS) (h : RDisk w b F X s) (ho : s.ops < 900000000) (wn : Nat) (hwn : wn ≤ 1) (e f g : Int) (v : Value) (bq off : Nat) (l : List Int) (hs : Sl .u8 w v bq off l) (hB : Bts l) (hl : l.length ≤ s.size) :
    Calls Tryz.prog 48 #[pt b, .int .i64 wn, geoW e f g, v] w (Post w F fun r W => r = .int .i64 (s.write ((wn * spanN s.size e f g : Nat) : Int) (padL l s.size)).2 ∧ RDisk W b F X (s.write ((wn * spanN s.size e f g : Nat) : Int) (padL l s.size)).1) := by
  have hok := h.ok
  have hs2 := hok.s2
  have hbF := h.lt
  obtain ⟨w0, hw0⟩ : ∃ w0, w0 = w.alloc (.cells #[.int .i64 e, .int .i64 f, .int .i64 g] 23) := ⟨_, rfl⟩
  have hb0 : Blk w0 w.heap.size 23 [.int .i64 e, .int .i64 f, .int .i64 g] := by rw [hw0]; exact Blk.new _ _ _
  have k0 : Kept w w0 [] := by rw [hw0]; exact (Kept.refl w []).alloc _
  have hz1 : w0.heap.size = w.heap.size + 1 := by rw [hw0]; simp
  have HSP := Lib.hid (fun W => rspan_any W s.size e f g)
  have hsp := spanN_le s.size e f g
  have hpl : wn * spanN s.size e f g ≤ 1 * 100001 := Nat.mul_le_mul hwn hsp
  generalize spanN s.size e f g = N at *
  obtain ⟨fst, hfst⟩ : ∃ fst, fst = wn * N := ⟨_, rfl⟩
  rw [← hfst] at hpl ⊢
  have hwmul : IntKind.i64.wrap ((wn : Int) * (N : Int)) = (fst : Int) := by rw [hfst, ← Int.natCast_mul, ← hfst]; exact IntWalk.i64_in _ (by omega)
  obtain ⟨i0, hi, hz0, hzz1, hz2⟩ := info_parts info8
  have HI := Lib.hid (And.intro hi (And.intro hz0 (And.intro hzz1 hz2)))
  have kE : Kept w0 (w0.alloc (.cells #[] 5)) [] := (Kept.refl w0 []).alloc _
  have hE : Own 5 .u8 (w0.alloc (.cells #[] 5)) w0.heap.size (.slice (some ⟨w0.heap.size, 0, none⟩) 0 0) [] := World.ownsRow_made (base := w0.heap.size) (e := 5) (size := 1) w0 #[] 0 (Nat.le_refl _) (Nat.zero_le _) rfl
  obtain ⟨v7, w7, hap, ho7, k7⟩ := own_append (P := Tryz.prog) Tryz.underlying35 hi hz0 hzz1 hz2 hE ((hs.kept k0 (.inr (by simp))).kept kE (.inr (by simp))) (by simp; omega) (by unfold maxLen; simp; omega) (by simp) 35
  rw [List.nil_append] at ho7
  have k07 : Kept w0 w7 [] := kE.trans k7 (by simp [Value.ownBlock])
  obtain ⟨A7, c7, rfl⟩ := ho7.sl.choose_spec.1.form
  obtain ⟨Av, cv, rfl⟩ := hs.form
  obtain ⟨nl, hnl⟩ : ∃ nl, l.length = nl := ⟨_, rfl⟩
  rw [hnl] at hap
  have HAP := Lib.hid hap
  have HO7 : Hid (Own 5 .u8 w7 w0.heap.size (.slice A7 nl c7) l) := Lib.hid (by rw [← hnl]; exact ho7)
  have K07 := Lib.hid k07
  have H := Lib.hid h
  have HB := Lib.hid hB
  have HNL := Lib.hid (And.intro hnl hl)
  have HO := Lib.hid ho
  have HS2 := Lib.hid hs2
  have HBF := Lib.hid hbF
  have HB0 := Lib.hid hb0
  have K0 := Lib.hid k0
  have HZ := Lib.hid hz1
  have sz0 : (0 : Int) ≤ s.size := by omega
  have sz1 : (s.size : Int) ≤ 4096 := by omega
  have n0 : (0 : Int) ≤ nl := by omega
  have n1 : (nl : Int) ≤ 4096 := by omega
  rw [hnl]
  clear h hok hs2 hbF hb0 k0 hz1 hsp hpl hfst hi hz0 hzz1 hz2 kE hE hap ho7 k7 k07 hs hB hnl hl ho
  go_enter Tryz.func48, Tryz.ntmps48
  go_upto_region 1 with fail
  rw [← hw0]
  clear hw0
  go_wp2_with (first | (at_builtin; refine wpList_append_run rfl _ _ _ rfl rfl rfl HAP.out ?_))
  go_loopg [9] (s.size - nl) (fun gg vv wr => ∃ (k n : Nat) (A : Option Addr) (c : Nat), k + gg = s.size - nl ∧ vv = .slice A n c ∧ n = nl + k ∧ Own 5 .u8 wr w0.heap.size (.slice A n c) (l ++ List.replicate k 0) ∧ Kept w0 wr [])
  case atStart => exact ⟨0, nl, A7, c7, by omega, rfl, rfl, by simpa using HO7.out, K07.out⟩
  case round =>
    obtain ⟨k, n, A, c, hk, rfl, hn, hrow, hkept⟩ := hrel
    have HK := Lib.hid hk
    have HN := Lib.hid hn
    have HRO := Lib.hid hrow
    have HKE := Lib.hid hkept
    have hd := H.out.kept (K0.out.trans hkept (by simp))
    have hsz := hd.size.choose_spec.1
    have hln : (l ++ List.replicate k 0).length = n := by rw [List.length_append, List.length_replicate, HNL.out.1, hn]
    clear hk hrow hkept hd
    by_cases hlt : n < s.size
    · have n2 : (n : Int) < s.size := by omega
      have n3 : (0 : Int) ≤ n := by omega
      have hb2 := Blk.new wr 5 [.int .u8 0]
      have hvl2 := HRO.out.alloc (.cells #[.int .u8 0] 5)
      obtain ⟨v8, w8, hap, ho8, k8⟩ := own_append (P := Tryz.prog) Tryz.underlying35 HI.out.1 HI.out.2.1 HI.out.2.2.1 HI.out.2.2.2 hvl2 (Sl.of_blk (k := .u8) [(0 : Int)] hb2 rfl 1 (Nat.le_refl _) (by unfold maxLen; omega)) (by rw [hln]; simp; omega) (by rw [hln]; unfold maxLen; simp; omega) (by have := HKE.out.size; simp; omega) 35
      have hcat : l ++ List.replicate k 0 ++ [0] = l ++ List.replicate (k + 1) (0 : Int) := by rw [List.append_assoc, List.replicate_succ']
      rw [hcat] at ho8
      have hl8 : (l ++ List.replicate (k + 1) (0 : Int)).length = n + 1 := by rw [← hcat, List.length_append, hln]; rfl
      obtain ⟨A8, c8, rfl⟩ := ho8.sl.choose_spec.1.form
      rw [hl8] at hap
      have HAP8 := Lib.hid hap
      have HO8 : Hid (Own 5 .u8 w8 w0.heap.size (.slice A8 (n + 1) c8) (l ++ List.replicate (k + 1) 0)) := Lib.hid (by rw [← hl8]; exact ho8)
      have K8 : Hid (Kept w0 w8 []) := Lib.hid ((HKE.out.alloc _).trans k8 (fun q hq => .inr (by simp only [Option.mem_toList] at hq; exact (HRO.out.lt q hq).1)))
      clear hb2 hvl2 hap ho8 k8 hcat hl8 hln hn
      go_wp2_with (first | (at_builtin; refine wpList_append_run rfl _ _ _ rfl rfl rfl HAP8.out ?_))
      go_roundg (gk - 1)
      case measure => have := HK.out; have := HN.out; omega
      case rel => exact ⟨k + 1, n + 1, A8, c8, by have := HK.out; have := HN.out; omega, rfl, by have := HN.out; omega, HO8.out, K8.out⟩
    · have hks : k = s.size - nl := by have := HN.out; have := HNL.out.2; have := HNL.out.1; have := HK.out; omega
      have hpad : l ++ List.replicate k 0 = padL l s.size := by unfold padL; rw [HNL.out.1, hks]
      have n2 : ¬ (n : Int) < s.size := by omega
      have n3 : (0 : Int) ≤ n := by omega
      have hrow := HRO.out
      rw [hpad] at hrow
      obtain ⟨bx, hsx, hbx⟩ := hrow.sl
      have hBx : Bts (padL l s.size) := padL_bts HB.out _
      have hnx : padL l s.size = [] ∨ bx ∉ F := hbx.imp id (fun hh hm => by have h1 := HBF.out _ hm; have h2 := hh.2; have h3 := HZ.out; omega)
      have kd : Kept w0 wr.drew [] := HKE.out.drew
      have HSX := Lib.hid (hsx.kept (Kept.refl wr []).drew (.inr (by simp)))
      have HNX := Lib.hid hnx
      have HBX := Lib.hid hBx
      have hg := HB0.out.kept kd (by simp)
      have p0 : wr.drew.cell? ⟨w.heap.size, 0, none⟩ = some (.int .i64 e) := hg.cell 0 rfl
      have p1 : wr.drew.cell? ⟨w.heap.size, 1, none⟩ = some (.int .i64 f) := hg.cell 1 rfl
      have p2 : wr.drew.cell? ⟨w.heap.size, 2, none⟩ = some (.int .i64 g) := hg.cell 2 rfl
      have p3 : wr.drew.cell? ⟨b, 0, none⟩ = some (.int .i64 s.size) := hsz
      have P0 := Lib.hid (And.intro p0 (And.intro p1 (And.intro p2 p3)))
      have KD := Lib.hid (K0.out.trans kd (by simp))
      clear hrow hsx hbx hBx hnx kd hg p0 p1 p2 p3 hpad hks hln hn hlt
      generalize hPP : padL l s.size = P at *
      have HPP := Lib.hid hPP
      clear hPP
      go_wp2_with fail
      obtain ⟨p0, p1, p2, p3⟩ := P0.out
      go_region_held3 (fun W => W.cell? ⟨w.heap.size, 0, none⟩ = some (.int .i64 e) ∧ W.cell? ⟨w.heap.size, 1, none⟩ = some (.int .i64 f) ∧ W.cell? ⟨w.heap.size, 2, none⟩ = some (.int .i64 g) ∧ W.cell? ⟨b, 0, none⟩ = some (.int .i64 s.size)) (first | (with_reducible exact ⟨p0, p1, p2, p3⟩) | (with_reducible exact ⟨r0, r1, r2, r3⟩) | (with_reducible exact ⟨t0, t1, t2, t3⟩) | go_keep) (first
        | (go_at_call 42
           refine (HSP.out _).mono ?_
           rintro _ w5 ⟨_, rfl, rfl, k5⟩
           have r0 := k5.cell p0 (by simp)
           have r1 := k5.cell p1 (by simp)
           have r2 := k5.cell p2 (by simp)
           have r3 := k5.cell p3 (by simp)
           have K5 := Lib.hid (KD.out.trans k5 (by simp))
           have HS5 := Lib.hid (HSX.out.kept k5 (.inr (by simp)))
           clear k5)
        | (go_at_call 41
           (with_reducible refine (rwrite_any _ b F X s (H.out.kept K5.out) (by have := HO.out; omega) (fst : Int) _ bx 0 P HS5.out HNX.out HBX.out).mono ?_)
           rintro _ w6 ⟨_, rfl, ⟨rfl, hd6⟩, k6⟩
           have t0 := k6.cell r0 (fun hm => by have := HBF.out _ hm; omega)
           have t1 := k6.cell r1 (fun hm => by have := HBF.out _ hm; omega)
           have t2 := k6.cell r2 (fun hm => by have := HBF.out _ hm; omega)
           have t3 : w6.cell? ⟨b, 0, none⟩ = some (.int .i64 s.size) := by rw [← (write_wrote s (fst : Int) P).size]; exact hd6.size.choose_spec.1
           have HD6 := Lib.hid hd6
           have K6 := Lib.hid ((K5.out.mono (S2 := F) (by simp)).trans k6 (fun q hq => .inl hq))
           clear k6 hd6))
      all_goals (
        clear p0 p1 p2 p3 r0 r1 r2 r3 t0 t1 t2 t3
        go_wp2_with fail
        go_ret
        exact ⟨_, rfl, ⟨by show Value.int _ _ = Value.int _ _; rw [HPP.out], by rw [HPP.out]; exact HD6.out⟩, K6.out⟩)
end Go.Proofs.YtlojgelidcjeaaaGreatDoor
namespace Go.Proofs.YtlojgelidcjeaaaGreatDoor
open Go.RowKit Go.Proofs.YtlojgelidcjeaaaGreatDoorLib Go.WideElems Go.Maps
set_option linter.unusedSimpArgs false
set_option linter.unusedVariables false

theorem which_nat {s : DiskS} {which e f g : Int} (hw : atWhy s which e f g = 0) : ∃ wn : Nat, which = (wn : Int) ∧ wn ≤ 1 := by
  obtain ⟨_, ⟨h1, h2⟩, _⟩ := atWhy_yes hw
  exact ⟨which.toNat, by omega, by omega⟩
set_option maxRecDepth 100000 in
set_option maxHeartbeats 2000000 in
theorem rwipe_any (w : World) (b : Nat) (F X : List Nat) (s : DiskS) (h : RDisk w b F X s) (ho : s.ops < 900000000) (which e f g : Int) :
    Calls Tryz.prog 14 #[pt b, .int .i64 which, geoW e f g] w (Post w F fun r W => r = .int .i64 (wipeM s which e f g).2 ∧ RDisk W b F X (wipeM s which e f g).1) := by
  have hb0 := Blk.new w 23 [.int .i64 e, .int .i64 f, .int .i64 g]
  have k0 : Kept w (w.alloc (.cells #[.int .i64 e, .int .i64 f, .int .i64 g] 23)) [] := (Kept.refl w []).alloc _
  have HC := Lib.hid (rcan_any _ b F X s (h.kept k0) which e f g)
  have H := Lib.hid h
  have HB0 := Lib.hid hb0
  have K0 := Lib.hid k0
  have z0 := hb0.cell 0 rfl
  have z1 := hb0.cell 1 rfl
  have z2 := hb0.cell 2 rfl
  by_cases hw : atWhy s which e f g ≠ 0
  · have HE := Lib.hid (And.intro (show wipeM s which e f g = (s, atWhy s which e f g) by unfold wipeM; rw [if_pos hw]) trivial)
    generalize wipeM s which e f g = RM at *
    generalize atWhy s which e f g = why at *
    have t1 : (why != 0) = true := by simpa using hw
    clear h hb0 k0 hw
    go_enter Tryz.func14, Tryz.ntmps14
    go_wp2_with fail
    (with_reducible refine HC.out.mono ?_)
    rintro _ w1 ⟨_, rfl, rfl, k1⟩
    have K1 := Lib.hid (K0.out.trans k1 (by simp))
    clear k1 z0 z1 z2
    go_wp2_with fail
    go_ret
    exact ⟨_, rfl, ⟨by show Value.int _ _ = Value.int _ _; rw [HE.out.1], by rw [HE.out.1]; exact H.out.kept K1.out⟩, K1.out.mono (by simp)⟩
  have hw0 : atWhy s which e f g = 0 := by
    by_cases e0 : atWhy s which e f g = 0
    · exact e0
    · exact absurd e0 hw
  obtain ⟨wn, rfl, hwn⟩ := which_nat hw0
  have HE := Lib.hid (And.intro (show wipeM s (wn : Int) e f g = s.write ((wn * spanN s.size e f g : Nat) : Int) (padL [] s.size) by unfold wipeM; rw [if_neg hw]; rfl) trivial)
  rw [hw0] at HC
  have HF := Lib.hid (fun W (k : Kept w W []) => rfirst_any W b F X s (h.kept k) ho wn hwn e f g (.slice none 0 0) 0 0 [] (Sl.nil _ _ _ _) Bts.nil (by simp))
  generalize wipeM s (wn : Int) e f g = RM at *
  generalize s.write ((wn * spanN s.size e f g : Nat) : Int) (padL [] s.size) = RW at *
  clear h hb0 k0 hw hw0 hwn
  go_enter Tryz.func14, Tryz.ntmps14
  go_wp2_with fail
  (with_reducible refine HC.out.mono ?_)
  rintro _ w1 ⟨_, rfl, rfl, k1⟩
  have hb1 := HB0.out.kept k1 (by simp)
  have K1 := Lib.hid (K0.out.trans k1 (by simp))
  clear k1 z0 z1 z2
  have z0 := hb1.cell 0 rfl
  have z1 := hb1.cell 1 rfl
  have z2 := hb1.cell 2 rfl
  clear hb1
  go_wp2_with fail
  (with_reducible refine (HF.out _ K1.out).mono ?_)
  rintro _ w2 ⟨_, rfl, ⟨rfl, hd⟩, k2⟩
  have HD := Lib.hid hd
  have K2 := Lib.hid ((K1.out.mono (S2 := F) (by simp)).trans k2 (fun q hq => .inl hq))
  clear hd k2 z0 z1 z2
  go_wp2_with fail
  go_ret
  exact ⟨_, rfl, ⟨by show Value.int _ _ = Value.int _ _; rw [HE.out.1], by rw [HE.out.1]; exact HD.out⟩, K2.out⟩
set_option maxRecDepth 100000 in
set_option maxHeartbeats 4000000 in
theorem rseal_any (w : World) (b : Nat) (F X : List Nat) (s : DiskS) (h : RDisk w b F X s) (ho : s.ops < 900000000) (which e f g seq : Int) (q0 : 0 ≤ seq) (q1 : seq ≤ 18446744073709551615) (v : Value) (bq off : Nat) (l : List Int) (hs : Sl .u8 w v bq off l) (hB : Bts l) (hlen : l.length ≤ 100000) :
    Calls Tryz.prog 12 #[pt b, .int .i64 which, geoW e f g, .int .u64 seq, v] w (Post w F fun r W => r = .int .i64 (sealM s which e f g seq l).2 ∧ RDisk W b F X (sealM s which e f g seq l).1) := by
  obtain ⟨Av, cv, rfl⟩ := hs.form
  have hb0 := Blk.new w 23 [.int .i64 e, .int .i64 f, .int .i64 g]
  have k0 : Kept w (w.alloc (.cells #[.int .i64 e, .int .i64 f, .int .i64 g] 23)) [] := (Kept.refl w []).alloc _
  have HC := Lib.hid (rcan_any _ b F X s (h.kept k0) which e f g)
  have HT := Lib.hid (fun W => rtotal_any W e f g)
  have H := Lib.hid h
  have HB0 := Lib.hid hb0
  have K0 := Lib.hid k0
  have HS := Lib.hid hs
  have HBT := Lib.hid hB
  have HSZ := Lib.hid (And.intro h.ok.s1 h.ok.s2)
  have l0 : (0 : Int) ≤ l.length := by omega
  have l1 : (l.length : Int) ≤ 100000 := by omega
  have z0 := hb0.cell 0 rfl
  have z1 := hb0.cell 1 rfl
  have z2 := hb0.cell 2 rfl
  by_cases hw : atWhy s which e f g ≠ 0
  · have HE := Lib.hid (And.intro (show sealM s which e f g seq l = (s, atWhy s which e f g) by unfold sealM; rw [if_pos hw]) trivial)
    generalize sealM s which e f g seq l = RM at *
    generalize atWhy s which e f g = why at *
    have t1 : (why != 0) = true := by simpa using hw
    clear h hb0 k0 hw hs hB
    go_enter Tryz.func12, Tryz.ntmps12
    go_wp2_with fail
    (with_reducible refine HC.out.mono ?_)
    rintro _ w1 ⟨_, rfl, rfl, k1⟩
    have K1 := Lib.hid (K0.out.trans k1 (by simp))
    clear k1 z0 z1 z2
    go_wp2_with fail
    go_ret
    exact ⟨_, rfl, ⟨by show Value.int _ _ = Value.int _ _; rw [HE.out.1], by rw [HE.out.1]; exact H.out.kept K1.out⟩, K1.out.mono (by simp)⟩
  have hw0 : atWhy s which e f g = 0 := by
    by_cases e0 : atWhy s which e f g = 0
    · exact e0
    · exact absurd e0 hw
  obtain ⟨hr, _, hsz, _⟩ := atWhy_yes hw0
  obtain ⟨wn, rfl, hwn⟩ := which_nat hw0
  rw [hw0] at HC
  by_cases hl : l.length ≠ gTotal e f g
  · have HE := Lib.hid (And.intro (show sealM s (wn : Int) e f g seq l = (s, 1) by unfold sealM; rw [if_neg hw, if_pos hl]) trivial)
    generalize sealM s (wn : Int) e f g seq l = RM at *
    have t1 : ((l.length : Int) != (gTotal e f g : Int)) = true := by simp; omega
    generalize gTotal e f g = T at *
    clear h hb0 k0 hw hw0 hs hB hr hsz hl
    go_enter Tryz.func12, Tryz.ntmps12
    go_wp2_with fail
    (with_reducible refine HC.out.mono ?_)
    rintro _ w1 ⟨_, rfl, rfl, k1⟩
    have hb1 := HB0.out.kept k1 (by simp)
    have K1 := Lib.hid (K0.out.trans k1 (by simp))
    clear k1 z0 z1 z2
    have z0 := hb1.cell 0 rfl
    have z1 := hb1.cell 1 rfl
    have z2 := hb1.cell 2 rfl
    clear hb1
    go_wp2_with fail
    (with_reducible refine (HT.out _).mono ?_)
    rintro _ w2 ⟨_, rfl, rfl, k2⟩
    have K2 := Lib.hid (K1.out.trans k2 (by simp))
    clear k2 z0 z1 z2
    go_wp2_with fail
    go_ret
    exact ⟨_, rfl, ⟨by show Value.int _ _ = Value.int _ _; rw [HE.out.1], by rw [HE.out.1]; exact H.out.kept K2.out⟩, K2.out.mono (by simp)⟩
  have hl1 : l.length = gTotal e f g := by omega
  have HE := Lib.hid (And.intro (show sealM s (wn : Int) e f g seq l = s.write ((wn * spanN s.size e f g : Nat) : Int) (padL (encL e f g l.length seq (sumM l)) s.size) by unfold sealM; rw [if_neg hw, if_neg hl]; rfl) trivial)
  have hsu := sumM_u32 l
  have hEB := encL_bts hr (l.length : Int) seq (sumM l)
  have hEL := encL_len e f g (l.length : Int) seq (sumM l)
  have HEN := Lib.hid (fun W => rencode_yes W e f g (l.length : Int) seq (sumM l) hr (by rw [hl1]) q0 q1 hsu.1 hsu.2)
  have HSM := Lib.hid (fun W (k : Kept w W []) => rsum_any W _ bq off l (hs.kept k (.inr (by simp))) hB (by omega))
  have HF := Lib.hid (fun W (k : Kept w W []) v q (hq : Sl .u8 W v q 0 (encL e f g l.length seq (sumM l))) => rfirst_any W b F X s (h.kept k) ho wn hwn e f g v q 0 _ hq hEB (by rw [hEL]; omega))
  have t1 : ((l.length : Int) != (gTotal e f g : Int)) = false := by simp; omega
  generalize sealM s (wn : Int) e f g seq l = RM at *
  generalize encL e f g (l.length : Int) seq (sumM l) = EL at *
  generalize s.write ((wn * spanN s.size e f g : Nat) : Int) (padL EL s.size) = RW at *
  generalize sumM l = S at *
  generalize hTT : gTotal e f g = T at *
  clear h hb0 k0 hw hw0 hwn hs hB hr hsz hl hl1 hEB hEL hsu hTT q0 q1
  go_enter Tryz.func12, Tryz.ntmps12
  go_wp2_with fail
  (with_reducible refine HC.out.mono ?_)
  rintro _ w1 ⟨_, rfl, rfl, k1⟩
  have hb1 := HB0.out.kept k1 (by simp)
  have HB1 := Lib.hid hb1
  have K1 := Lib.hid (K0.out.trans k1 (by simp))
  clear k1 z0 z1 z2
  have z0 := hb1.cell 0 rfl
  have z1 := hb1.cell 1 rfl
  have z2 := hb1.cell 2 rfl
  clear hb1
  go_wp2_with fail
  (with_reducible refine (HT.out _).mono ?_)
  rintro _ w2 ⟨_, rfl, rfl, k2⟩
  have HB2 := Lib.hid (HB1.out.kept k2 (by simp))
  have K2 := Lib.hid (K1.out.trans k2 (by simp))
  clear k2 z0 z1 z2
  have kd : Kept w w2.drew [] := K2.out.drew
  have KD := Lib.hid kd
  have p0 : w2.drew.cell? ⟨w.heap.size, 0, none⟩ = some (.int .i64 e) := HB2.out.cell 0 rfl
  have p1 : w2.drew.cell? ⟨w.heap.size, 1, none⟩ = some (.int .i64 f) := HB2.out.cell 1 rfl
  have p2 : w2.drew.cell? ⟨w.heap.size, 2, none⟩ = some (.int .i64 g) := HB2.out.cell 2 rfl
  have P0 := Lib.hid (And.intro p0 (And.intro p1 p2))
  clear kd p0 p1 p2
  go_wp2_with fail
  obtain ⟨p0, p1, p2⟩ := P0.out
  go_region_held3 (fun W => W.cell? ⟨w.heap.size, 0, none⟩ = some (.int .i64 e) ∧ W.cell? ⟨w.heap.size, 1, none⟩ = some (.int .i64 f) ∧ W.cell? ⟨w.heap.size, 2, none⟩ = some (.int .i64 g)) (first | (with_reducible exact ⟨p0, p1, p2⟩) | (with_reducible exact ⟨r0, r1, r2⟩) | (with_reducible exact ⟨t0, t1', t2⟩) | go_keep) (first
    | (go_at_call 47
       (with_reducible refine (HSM.out _ KD.out).mono ?_)
       rintro _ w5 ⟨_, rfl, rfl, k5⟩
       have r0 := k5.cell p0 (by simp)
       have r1 := k5.cell p1 (by simp)
       have r2 := k5.cell p2 (by simp)
       have K5 := Lib.hid (KD.out.trans k5 (by simp))
       clear k5)
    | (go_at_call 46
       (with_reducible refine (HEN.out _).mono ?_)
       rintro _ w6 ⟨_, rfl, ⟨ve, rfl, hve⟩, k6⟩
       have t0 := k6.cell r0 (by simp)
       have t1' := k6.cell r1 (by simp)
       have t2 := k6.cell r2 (by simp)
       obtain ⟨be, hse, _⟩ := hve.sl
       have HSE := Lib.hid hse
       have K6 := Lib.hid (K5.out.trans k6 (by simp))
       clear k6 hve hse))
  all_goals (
    clear p0 p1 p2 r0 r1 r2
    go_wp2_with fail
    (with_reducible refine (HF.out _ K6.out _ be HSE.out).mono ?_)
    rintro _ w7 ⟨_, rfl, ⟨rfl, hd⟩, k7⟩
    have HD := Lib.hid hd
    have K7 := Lib.hid ((K6.out.mono (S2 := F) (by simp)).trans k7 (fun q hq => .inl hq))
    clear hd k7 t0 t1' t2
    go_wp2_with fail
    go_ret
    exact ⟨_, rfl, ⟨by show Value.int _ _ = Value.int _ _; rw [HE.out.1], by rw [HE.out.1]; exact HD.out⟩, K7.out⟩)
end Go.Proofs.YtlojgelidcjeaaaGreatDoor
namespace Go.Proofs.YtlojgelidcjeaaaGreatDoor
open Go.RowKit Go.Proofs.YtlojgelidcjeaaaGreatDoorLib Go.WideElems Go.Maps
set_option linter.unusedSimpArgs false
set_option linter.unusedVariables false

set_option maxRecDepth 100000 in
set_option maxHeartbeats 6000000 in
theorem rdata_any (w : World) (b : Nat) (F X : List Nat) (s : DiskS) (h : RDisk w b F X s) (ho : s.ops < 700000000) (which e f g : Int) (v : Value) (bq off : Nat) (l : List Int) (hs : Sl .u8 w v bq off l) (hB : Bts l) (hlen : l.length ≤ 100000) :
    Calls Tryz.prog 10 #[pt b, .int .i64 which, geoW e f g, v] w (Post w F fun r W => r = .int .i64 (dataM s which e f g l).2 ∧ RDisk W b F X (dataM s which e f g l).1) := by
  obtain ⟨Av, cv, rfl⟩ := hs.form
  have hb0 := Blk.new w 23 [.int .i64 e, .int .i64 f, .int .i64 g]
  have k0 : Kept w (w.alloc (.cells #[.int .i64 e, .int .i64 f, .int .i64 g] 23)) [] := (Kept.refl w []).alloc _
  have HC := Lib.hid (rcan_any _ b F X s (h.kept k0) which e f g)
  have HT := Lib.hid (fun W => rtotal_any W e f g)
  have H := Lib.hid h
  have HB0 := Lib.hid hb0
  have K0 := Lib.hid k0
  have HS := Lib.hid hs
  have HBT := Lib.hid hB
  have HBF := Lib.hid h.lt
  have HSZ := Lib.hid (And.intro h.ok.s1 h.ok.s2)
  have HO := Lib.hid ho
  have HLE := Lib.hid hlen
  have l0 : (0 : Int) ≤ l.length := by omega
  have l1 : (l.length : Int) ≤ 100000 := by omega
  have z0 := hb0.cell 0 rfl
  have z1 := hb0.cell 1 rfl
  have z2 := hb0.cell 2 rfl
  by_cases hw : atWhy s which e f g ≠ 0
  · have HE := Lib.hid (And.intro (show dataM s which e f g l = (s, atWhy s which e f g) by unfold dataM; rw [if_pos hw]) trivial)
    generalize dataM s which e f g l = RM at *
    generalize atWhy s which e f g = why at *
    have t1 : (why != 0) = true := by simpa using hw
    clear h hb0 k0 hw hs hB ho hlen
    go_enter Tryz.func10, Tryz.ntmps10
    go_wp2_with fail
    (with_reducible refine HC.out.mono ?_)
    rintro _ w1 ⟨_, rfl, rfl, k1⟩
    have K1 := Lib.hid (K0.out.trans k1 (by simp))
    clear k1 z0 z1 z2
    go_wp2_with fail
    go_ret
    exact ⟨_, rfl, ⟨by show Value.int _ _ = Value.int _ _; rw [HE.out.1], by rw [HE.out.1]; exact H.out.kept K1.out⟩, K1.out.mono (by simp)⟩
  have hw0 : atWhy s which e f g = 0 := by
    by_cases e0 : atWhy s which e f g = 0
    · exact e0
    · exact absurd e0 hw
  obtain ⟨wn, rfl, hwn⟩ := which_nat hw0
  rw [hw0] at HC
  by_cases hl : l.length ≠ gTotal e f g
  · have HE := Lib.hid (And.intro (show dataM s (wn : Int) e f g l = (s, 1) by unfold dataM; rw [if_neg hw, if_pos hl]) trivial)
    generalize dataM s (wn : Int) e f g l = RM at *
    have t1 : ((l.length : Int) != (gTotal e f g : Int)) = true := by simp; omega
    generalize gTotal e f g = T at *
    clear h hb0 k0 hw hw0 hs hB hl ho hlen
    go_enter Tryz.func10, Tryz.ntmps10
    go_wp2_with fail
    (with_reducible refine HC.out.mono ?_)
    rintro _ w1 ⟨_, rfl, rfl, k1⟩
    have hb1 := HB0.out.kept k1 (by simp)
    have K1 := Lib.hid (K0.out.trans k1 (by simp))
    clear k1 z0 z1 z2
    have z0 := hb1.cell 0 rfl
    have z1 := hb1.cell 1 rfl
    have z2 := hb1.cell 2 rfl
    clear hb1
    go_wp2_with fail
    (with_reducible refine (HT.out _).mono ?_)
    rintro _ w2 ⟨_, rfl, rfl, k2⟩
    have K2 := Lib.hid (K1.out.trans k2 (by simp))
    clear k2 z0 z1 z2
    go_wp2_with fail
    go_ret
    exact ⟨_, rfl, ⟨by show Value.int _ _ = Value.int _ _; rw [HE.out.1], by rw [HE.out.1]; exact H.out.kept K2.out⟩, K2.out.mono (by simp)⟩
  have hl1 : l.length = gTotal e f g := by omega
  have HE := Lib.hid (And.intro (show dataM s (wn : Int) e f g l = writesM s (wn * spanN s.size e f g + 1) (imgL l s.size) by unfold dataM; rw [if_neg hw, if_neg hl]; rfl) trivial)
  have t1 : ((l.length : Int) != (gTotal e f g : Int)) = false := by simp; omega
  have HSP := Lib.hid (fun W => rspan_any W s.size e f g)
  have hsp := spanN_le s.size e f g
  have hpl : wn * spanN s.size e f g ≤ 1 * 100001 := Nat.mul_le_mul hwn hsp
  generalize dataM s (wn : Int) e f g l = RM at *
  generalize spanN s.size e f g = N at *
  obtain ⟨fst, hfst⟩ : ∃ fst, fst = wn * N := ⟨_, rfl⟩
  rw [← hfst] at hpl HE
  have hwmul : IntKind.i64.wrap ((wn : Int) * (N : Int)) = (fst : Int) := by rw [hfst, ← Int.natCast_mul, ← hfst]; exact IntWalk.i64_in _ (by omega)
  have HCT := Lib.hid (fun W (k : Kept w W []) => rcut_any W _ bq off l s.size (hs.kept k (.inr (by simp))) hlen h.ok.s1 h.ok.s2)
  have hxl : (imgL l s.size).length ≤ 100000 := by rw [imgL_len]; exact Nat.le_trans (secs_le _ _ h.ok.s1) hlen
  have HSEC := Lib.hid (imgL_sec l s.size h.ok.s1 hB)
  generalize imgL l s.size = xs at *
  obtain ⟨n, hn⟩ : ∃ n, n = xs.length := ⟨_, rfl⟩
  have HN := Lib.hid hn
  have HXL := Lib.hid hxl
  have hn100 : (n : Int) ≤ 100000 := by omega
  have hf0 : (0 : Int) ≤ fst := by omega
  have hf1 : (fst : Int) ≤ 100001 := by omega
  generalize hTT : gTotal e f g = T at *
  clear h hb0 k0 hw hw0 hs hB hl hl1 ho hlen hTT hsp hpl hfst hn hxl hwn
  go_enter Tryz.func10, Tryz.ntmps10
  go_wp2_with fail
  (with_reducible refine HC.out.mono ?_)
  rintro _ w1 ⟨_, rfl, rfl, k1⟩
  have hb1 := HB0.out.kept k1 (by simp)
  have HB1 := Lib.hid hb1
  have K1 := Lib.hid (K0.out.trans k1 (by simp))
  clear k1 z0 z1 z2
  have z0 := hb1.cell 0 rfl
  have z1 := hb1.cell 1 rfl
  have z2 := hb1.cell 2 rfl
  clear hb1
  go_wp2_with fail
  (with_reducible refine (HT.out _).mono ?_)
  rintro _ w2 ⟨_, rfl, rfl, k2⟩
  have HB2 := Lib.hid (HB1.out.kept k2 (by simp))
  have K2 := Lib.hid (K1.out.trans k2 (by simp))
  have hsz2 := (H.out.kept K2.out).size.choose_spec.1
  clear k2 z0 z1 z2
  go_wp2_with fail
  (with_reducible refine (HCT.out _ K2.out).mono ?_)
  rintro _ w3 ⟨_, rfl, ⟨vr, L, rfl, hrow, hpa⟩, k3⟩
  obtain ⟨Aw, cw, rfl, _, _⟩ := hrow.form
  have hln : L.length = n := hpa.1.trans HN.out.symm
  generalize hnl : L.length = nl at *
  subst hln
  have HRO := Lib.hid hrow
  have HPA := Lib.hid hpa
  have HNL := Lib.hid hnl
  have K3 := Lib.hid (K2.out.trans k3 (by simp))
  have HB3 := Lib.hid (HB2.out.kept k3 (by simp))
  have HLO : Hid (w.heap.size < w2.heap.size) := Lib.hid HB2.out.lt
  clear hrow hpa k3 hsz2 hnl
  go_wp2_with fail
  go_loopg [12] nl (fun gg i wr => ∃ (k : Nat) (sk : DiskS), k + gg = nl ∧ i = .int .i64 k ∧ writesM s (fst + 1) xs = writesM sk (fst + 1 + k) (xs.drop k) ∧ RDisk wr b F X sk ∧ Kept w3 wr F ∧ sk.ops = s.ops + k ∧ sk.size = s.size)
  case atStart => exact ⟨0, s, by omega, rfl, rfl, H.out.kept K3.out, Kept.refl _ _, rfl, rfl⟩
  case round =>
    obtain ⟨k, sk, hk, rfl, heq, hd, hkept, hops, hskz⟩ := hrel
    have HK := Lib.hid hk
    have HEQ := Lib.hid (And.intro heq trivial)
    have HD := Lib.hid hd
    have HKE := Lib.hid hkept
    have HOP := Lib.hid (And.intro hops hskz)
    clear hk heq hd hkept hops hskz
    by_cases hlt : k < nl
    · have k0 : (0 : Int) ≤ k := by omega
      have k1 : (k : Int) < nl := by omega
      have hxk : xs[k]? = some (xs[k]'(by rw [← HN.out]; exact hlt)) := List.getElem?_eq_getElem _
      have hLk : L[k]? = some (L[k]'(by rw [HNL.out]; exact hlt)) := List.getElem?_eq_getElem _
      have hdr : xs.drop k = xs[k]'(by rw [← HN.out]; exact hlt) :: xs.drop (k + 1) := List.drop_eq_getElem_cons _
      have hmem := List.mem_of_getElem? hxk
      generalize xs[k]'(by rw [← HN.out]; exact hlt) = x at *
      generalize L[k]'(by rw [HNL.out]; exact hlt) = u at *
      have hsec := HSEC.out x hmem
      have hown := HPA.out.2 k u x hLk hxk
      have hown2 : Own 5 .u8 wr w2.heap.size u x := hown.kept HKE.out (fun q hq hm => by have h1 := (hown.lt q hq).1; have h2 := HBF.out q hm; have h3 := HLO.out; omega)
      obtain ⟨gr, cr, er, dr, _, _⟩ := HRO.out.cell hLk
      rw [HNL.out] at er
      simp only [Value.slice.injEq] at er
      obtain ⟨rfl, _, rfl⟩ := er
      have hgr := (HRO.out.lt gr (by simp [Value.ownBlock])).1
      have hgF : gr ∉ F := fun hm => by have h2 := HBF.out gr hm; have h3 := HLO.out; omega
      have dr' := HKE.out.cell dr hgF
      obtain ⟨bu, hsu, hbu⟩ := hown2.sl
      obtain ⟨Au, cu, rfl⟩ := hsu.form
      have hbu2 : x = [] ∨ bu ∉ F := hbu.imp id (fun hh hm => by have h1 := HBF.out _ hm; have h2 := hh.2; have h3 := HLO.out; omega)
      obtain ⟨q, hq⟩ : ∃ q, q = fst + 1 + k := ⟨_, rfl⟩
      have hxa : IntKind.i64.wrap ((fst : Int) + 1) = (fst : Int) + 1 := IntWalk.i64_in _ (by omega)
      have hxb : IntKind.i64.wrap ((fst : Int) + 1 + (k : Int)) = (q : Int) := by rw [IntWalk.i64_in _ (by omega)]; omega
      have heq := HEQ.out.1
      rw [hdr, writesM, ← hq] at heq
      have HEQ2 := Lib.hid (And.intro heq trivial)
      have HSX := Lib.hid (hsu.kept (Kept.refl wr []).drew (.inr (by simp)))
      have HBU := Lib.hid hbu2
      have HBX := Lib.hid hsec.2
      have HQ := Lib.hid hq
      have hg := HB3.out.kept (HKE.out) (fun hm => by have := HBF.out _ hm; omega)
      have p0 : wr.drew.cell? ⟨w.heap.size, 0, none⟩ = some (.int .i64 e) := hg.cell 0 rfl
      have p1 : wr.drew.cell? ⟨w.heap.size, 1, none⟩ = some (.int .i64 f) := hg.cell 1 rfl
      have p2 : wr.drew.cell? ⟨w.heap.size, 2, none⟩ = some (.int .i64 g) := hg.cell 2 rfl
      have p3 : wr.drew.cell? ⟨b, 0, none⟩ = some (.int .i64 s.size) := by rw [← HOP.out.2]; exact HD.out.size.choose_spec.1
      have p4 : wr.drew.cell? ⟨gr, k, none⟩ = some (.slice Au x.length cu) := dr'
      have P0 := Lib.hid (And.intro p0 (And.intro p1 (And.intro p2 (And.intro p3 p4))))
      have HGF := Lib.hid hgF
      have KD := Lib.hid ((Kept.refl wr []).drew)
      have hwq : (sk.write (q : Int) x).1.ops = sk.ops + 1 ∧ (sk.write (q : Int) x).1.size = sk.size := ⟨write_ops _ _ _, (write_wrote sk (q : Int) x).size⟩
      have HWQ := Lib.hid hwq
      clear hxk hLk hdr hmem hsec hown hown2 dr dr' hsu hbu hbu2 heq HEQ hq hg p0 p1 p2 p3 p4 hgF hgr hwq
      generalize x.length = nx at *
      go_wp2_with fail
      obtain ⟨p0, p1, p2, p3, p4⟩ := P0.out
      go_region_held3 (fun W => W.cell? ⟨w.heap.size, 0, none⟩ = some (.int .i64 e) ∧ W.cell? ⟨w.heap.size, 1, none⟩ = some (.int .i64 f) ∧ W.cell? ⟨w.heap.size, 2, none⟩ = some (.int .i64 g) ∧ W.cell? ⟨b, 0, none⟩ = some (.int .i64 s.size) ∧ W.cell? ⟨gr, k, none⟩ = some (.slice Au nx cu)) (first | (with_reducible exact ⟨p0, p1, p2, p3, p4⟩) | (with_reducible exact ⟨r0, r1, r2, r3, r4⟩) | (with_reducible exact ⟨t0, t1', t2, t3, t4⟩) | go_keep) (first
        | (go_at_call 42
           refine (HSP.out _).mono ?_
           rintro _ w5 ⟨_, rfl, rfl, k5⟩
           have r0 := k5.cell p0 (by simp)
           have r1 := k5.cell p1 (by simp)
           have r2 := k5.cell p2 (by simp)
           have r3 := k5.cell p3 (by simp)
           have r4 := k5.cell p4 (by simp)
           have K5 := Lib.hid (KD.out.trans k5 (by simp))
           have HS5 := Lib.hid (HSX.out.kept k5 (.inr (by simp)))
           clear k5)
        | (go_at_call 41
           (with_reducible refine (rwrite_any _ b F X sk (HD.out.kept K5.out) (by have := HO.out; have := HOP.out.1; have := HN.out; have := HXL.out; omega) (q : Int) _ bu 0 x HS5.out HBU.out HBX.out).mono ?_)
           rintro _ w6 ⟨_, rfl, ⟨rfl, hd6⟩, k6⟩
           have t0 := k6.cell r0 (fun hm => by have := HBF.out _ hm; omega)
           have t1' := k6.cell r1 (fun hm => by have := HBF.out _ hm; omega)
           have t2 := k6.cell r2 (fun hm => by have := HBF.out _ hm; omega)
           have t3 : w6.cell? ⟨b, 0, none⟩ = some (.int .i64 s.size) := by rw [← HOP.out.2, ← HWQ.out.2]; exact hd6.size.choose_spec.1
           have t4 := k6.cell r4 HGF.out
           have HD6 := Lib.hid hd6
           have K6 := Lib.hid ((HKE.out.trans K5.out (by simp)).trans k6 (fun q hq => .inl hq))
           clear k6 hd6))
      all_goals (
        clear p0 p1 p2 p3 p4 r0 r1 r2 r3 r4 t0 t1' t2 t3 t4
        generalize sk.write (q : Int) x = RW at *
        by_cases he : RW.2 = 0
        · have te : (RW.2 != 0) = false := by simpa using he
          have heq := HEQ2.out.1
          rw [if_neg (by simpa using he)] at heq
          have HEQ3 := Lib.hid (And.intro heq trivial)
          clear he heq
          go_wp2_with fail
          go_roundg (gk - 1)
          case measure => have := HK.out; omega
          case rel => exact ⟨k + 1, RW.1, by have := HK.out; omega, by go_num, by rw [HEQ3.out.1, HQ.out, Nat.add_assoc (fst + 1) k 1], HD6.out, K6.out, by rw [HWQ.out.1, HOP.out.1]; omega, by rw [HWQ.out.2, HOP.out.2]⟩
        · have te : (RW.2 != 0) = true := by simpa using he
          have heq := HEQ2.out.1
          rw [if_pos he] at heq
          have HEQ3 := Lib.hid (And.intro heq trivial)
          clear he heq
          go_wp2_with fail
          go_ret
          exact ⟨_, rfl, ⟨by show Value.int _ _ = Value.int _ _; rw [HE.out.1, HEQ3.out.1], by rw [HE.out.1, HEQ3.out.1]; exact HD6.out⟩, (K3.out.mono (S2 := F) (by simp)).trans K6.out (fun q hq => .inl hq)⟩)
    · have hkn : k = nl := by have := HK.out; omega
      clear hlt
      subst hkn
      have hdr : xs.drop k = [] := List.drop_eq_nil_of_le (by rw [← HN.out]; exact Nat.le_refl _)
      have heq := HEQ.out.1
      rw [hdr, writesM] at heq
      have HEQ3 := Lib.hid (And.intro heq trivial)
      clear heq hdr
      go_wp2_with fail
      go_ret
      exact ⟨_, rfl, ⟨by show Value.int _ _ = Value.int _ _; rw [HE.out.1, HEQ3.out.1], by rw [HE.out.1, HEQ3.out.1]; exact HD.out⟩, (K3.out.mono (S2 := F) (by simp)).trans HKE.out (fun q hq => .inl hq)⟩
end Go.Proofs.YtlojgelidcjeaaaGreatDoor
