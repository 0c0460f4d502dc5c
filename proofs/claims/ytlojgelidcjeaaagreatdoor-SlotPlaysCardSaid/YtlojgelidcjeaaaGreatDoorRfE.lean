/- PROVED: the document's disk: New and Write. No conditions beyond those that each theorem states. -/
import Derived.Test.YtlojgelidcjeaaaGreatDoorRfX
namespace Go.Proofs.YtlojgelidcjeaaaGreatDoor
open Go.RowKit Go.Proofs.YtlojgelidcjeaaaGreatDoorLib Go.WideElems Go.Maps
set_option linter.unusedSimpArgs false
set_option linter.unusedVariables false

set_option maxRecDepth 100000 in
set_option maxHeartbeats 1500000 in
theorem rnew_no (w : World) (k n : Int) (h : ¬ NewOk k n) : Calls Tryz.prog 8 #[.int .i64 k, .int .i64 n] w (Post w [] fun r W => r = .pointer none) := by
  unfold NewOk at h
  by_cases q1 : k < 0
  · go_enter Tryz.func8, Tryz.ntmps8
    go_wp2
    go_ret
    exact ⟨_, rfl, rfl, Kept.refl _ _⟩
  by_cases q2 : 4096 < k
  · go_enter Tryz.func8, Tryz.ntmps8
    go_wp2
    go_ret
    exact ⟨_, rfl, rfl, Kept.refl _ _⟩
  by_cases q3 : n < 1
  · go_enter Tryz.func8, Tryz.ntmps8
    go_wp2
    go_ret
    exact ⟨_, rfl, rfl, Kept.refl _ _⟩
  have q4 : 4096 < n := by omega
  clear h
  go_enter Tryz.func8, Tryz.ntmps8
  go_wp2
  go_ret
  exact ⟨_, rfl, rfl, Kept.refl _ _⟩
set_option maxRecDepth 100000 in
set_option maxHeartbeats 1500000 in
theorem rnew_yes (w : World) (k n : Int) (h : NewOk k n) (X0 : List Nat) (hX0 : ∀ g, g ∈ X0 → g < w.heap.size) : Calls Tryz.prog 8 #[.int .i64 k, .int .i64 n] w (Post w [] fun r W => ∃ b F, r = .pointer (some ⟨b, 0, none⟩) ∧ RDisk W b F (X0 ++ F) (DiskS.new k.toNat n.toNat) ∧ ∀ g, g ∈ F → w.heap.size ≤ g) := by
  obtain ⟨h1, h2, h3, h4⟩ := h
  obtain ⟨k, rfl⟩ := Int.eq_ofNat_of_zero_le h1
  obtain ⟨n, rfl⟩ := Int.eq_ofNat_of_zero_le (show 0 ≤ n by omega)
  simp only [Int.toNat_natCast]
  have hmul : k * n ≤ 4096 * 4096 := Nat.mul_le_mul (by omega) (by omega)
  have e1 : ((k : Int) * (n : Int)) = ((k * n : Nat) : Int) := by simp
  have hop := open_new k n (by omega)
  have hoo : OpenOk (n : Int) (List.replicate (k * n) 0) := by
    refine ⟨h3, h4, ?_, ?_⟩
    · rw [List.length_replicate, Int.toNat_natCast]; exact Nat.mul_mod_left _ _
    · rw [List.length_replicate, Int.toNat_natCast, Nat.mul_div_cancel _ (by omega)]; omega
  generalize k * n = m at *
  have HOP := Lib.hid hop
  have HOO := Lib.hid hoo
  have m0 : (0 : Int) ≤ m := by omega
  have m1 : (m : Int) ≤ 16777216 := by omega
  obtain ⟨i0, hi, hz0, hz1, hz2⟩ := info_parts info8
  obtain ⟨w1, hmk, hrow, k1⟩ := make_own (P := Tryz.prog) (k := .u8) Tryz.underlying35 hi hz0 hz1 (by omega) m (by omega) w
  have HROW := Lib.hid hrow
  have K1 := Lib.hid k1
  clear hrow k1 hi hz0 hz1 hz2 hop hoo
  go_enter Tryz.func8, Tryz.ntmps8
  go_wp2_with fail
  obtain ⟨bq, hsl, _⟩ := HROW.out.sl
  (with_reducible refine (ropen_yes w1 n _ bq 0 _ hsl (Bts.replicate0 _) HOO.out X0 (fun g hg => Nat.lt_of_lt_of_le (hX0 g hg) K1.out.size)).mono ?_)
  rintro _ w2 ⟨_, rfl, ⟨b, F, rfl, hd, hF⟩, k2⟩
  rw [HOP.out] at hd
  have HD := Lib.hid hd
  have HFF := Lib.hid hF
  have K2 := Lib.hid k2
  clear hd hF k2 hsl
  go_wp2_with fail
  go_ret
  exact ⟨_, rfl, ⟨b, F, rfl, HD.out, fun g hg => Nat.le_trans K1.out.size (HFF.out g hg)⟩, K1.out.trans K2.out (by simp)⟩
set_option maxRecDepth 100000 in
set_option maxHeartbeats 3000000 in
theorem rwrite_any (w : World) (b : Nat) (F X : List Nat) (s : DiskS) (h : RDisk w b F X s) (ho : s.ops < 1000000000) (i : Int) (v : Value) (bq off : Nat) (l : List Int) (hs : Sl .u8 w v bq off l) (hq : l = [] ∨ bq ∉ F) (hB : Bts l) :
    Calls Tryz.prog 41 #[.pointer (some ⟨b, 0, none⟩), .int .i64 i, v] w (Post w F fun r W => r = .int .i64 (s.write i l).2 ∧ RDisk W b F X (s.write i l).1) := by
  have hok := h.ok
  have hn1 := hok.n1
  have hs1 := hok.s1
  have hs2 := hok.s2
  have HO := Lib.hid hok
  have hn1i : (s.last.length : Int) ≤ 4096 := by omega
  have HFB := Lib.hid h.fb
  have hln := hs.len
  unfold maxLen at hln
  obtain ⟨A, c, rfl⟩ := hs.form
  have HSL := Lib.hid hs
  have HQ := Lib.hid hq
  have HBT := Lib.hid hB
  have l0 : (0 : Int) ≤ l.length := by omega
  have l1 : (l.length : Int) ≤ 9223372036854775807 := by omega
  clear hok hs hq hB
  go_enter Tryz.func41, Tryz.ntmps41
  go_wp2_with fail
  (with_reducible refine (rfails_any w b F X s h ho).mono ?_)
  rintro _ w1 ⟨_, rfl, ⟨rfl, h1⟩, k1⟩
  have H1 := Lib.hid h1
  have HSL1 := Lib.hid (HSL.out.kept k1 (HQ.out.imp id (fun hn hm => by simp at hm; subst hm; exact hn HFB.out)))
  have K1 := Lib.hid (k1.mono (S2 := F) (fun g hg => by simp at hg; subst hg; exact .inl HFB.out))
  clear h h1 k1
  by_cases hf : s.fails = true
  · go_wp2_with fail
    go_ret
    have e : s.write i l = (s.tick, 3) := by simp [DiskS.write, hf]
    refine ⟨_, rfl, ⟨by rw [e]; rfl, ?_⟩, K1.out⟩
    rw [e]; exact H1.out
  replace hf : s.fails = false := by simpa using hf
  by_cases hneg : i < 0
  · go_wp2_with fail
    go_ret
    have e : s.write i l = (s.tick, 2) := by simp [DiskS.write, hf, hneg]
    refine ⟨_, rfl, ⟨by rw [e]; rfl, ?_⟩, K1.out⟩
    rw [e]; exact H1.out
  have hpos : 0 ≤ i := by omega
  obtain ⟨vl, vc, vp, Ls, Cs, P, hx⟩ := H1.out
  have hll : Ls.length = s.last.length := hx.ll
  have hlc : Cs.length = s.last.length := hx.lc
  obtain ⟨Al, cl, rfl, _, _⟩ := hx.las.form
  obtain ⟨Ac, cc, rfl, _, _⟩ := hx.cac.form
  have c0 := hx.blk.cell 0 rfl
  have c1 := hx.blk.cell 1 rfl
  have c2 := hx.blk.cell 2 rfl
  have E0 : s.tick.size = s.size := rfl
  have E1 : s.tick.last = s.last := rfl
  rw [hll] at c1
  rw [hlc] at c2
  rw [E0] at c0
  by_cases hout : (s.last.length : Int) ≤ i
  · clear hx hll hlc
    go_wp2_with fail
    go_ret
    have e : s.write i l = (s.tick, 4) := by unfold DiskS.write; rw [if_neg (by simp [hf]), if_neg (by omega), if_pos hout]
    refine ⟨_, rfl, ⟨by rw [e]; rfl, ?_⟩, K1.out⟩
    rw [e]; exact H1.out
  have hin : i < (s.last.length : Int) := by omega
  by_cases hln2 : l.length ≠ s.size
  · have hd : ((l.length : Int) != (s.size : Int)) = true := by simp; omega
    clear hx hll hlc
    have e : s.write i l = (s.tick, 1) := by unfold DiskS.write; rw [if_neg (by simp [hf]), if_neg (by omega), if_neg (by omega), if_pos hln2]
    have E := Lib.hid e
    clear e hln2
    go_wp2_with fail
    go_ret
    refine ⟨_, rfl, ⟨by rw [E.out]; rfl, ?_⟩, K1.out⟩
    rw [E.out]; exact H1.out
  replace hln2 : l.length = s.size := by omega
  have hd : ((l.length : Int) != (s.size : Int)) = false := by simp; omega
  obtain ⟨j, rfl⟩ := Int.eq_ofNat_of_zero_le hpos
  have hj : j < s.last.length := by omega
  have e : s.write (j : Int) l = ({ s.tick with cach := s.cach.set j (some l), writes := s.writes + 1 }, 0) := by
    unfold DiskS.write
    rw [if_neg (by simp [hf]), if_neg (by omega), if_neg (by omega), if_neg (by omega)]
    rfl
  have E := Lib.hid e
  obtain ⟨o, hxc⟩ : ∃ o, s.cach[j]? = some o := ⟨_, List.getElem?_eq_getElem (by rw [HO.out.nc]; exact hj)⟩
  obtain ⟨i0, hi, hz0, hz1, hz2⟩ := info_parts info8
  have kE : Kept w1 ((w1.alloc (.cells #[] 5)).drew) [] := ((Kept.refl _ _).alloc _).drew
  have hE : Own 5 .u8 ((w1.alloc (.cells #[] 5)).drew) w1.heap.size (.slice (some ⟨w1.heap.size, 0, none⟩) 0 0) [] := World.ownsRow_made (base := w1.heap.size) (e := 5) (size := 1) w1 #[] 0 (Nat.le_refl _) (Nat.zero_le _) rfl
  obtain ⟨uc, huc, hcc⟩ := hx.cel j o hxc
  obtain ⟨gc, cc', ec, dc, _, _, _⟩ := hx.cac.cell huc
  obtain ⟨rfl, _, rfl⟩ : Ac = some ⟨gc, 0, none⟩ ∧ Cs.length = Cs.length ∧ cc = cc' := by simpa using ec
  obtain ⟨v7, w7, hap, ho7, k7⟩ := own_append (P := Tryz.prog) Tryz.underlying35 hi hz0 hz1 hz2 hE (HSL1.out.kept kE (.inr (by simp))) (by simp; omega) (by unfold maxLen; simp; omega) (by simp) 35
  rw [List.nil_append] at ho7
  have k07 : Kept w1 w7 [] := kE.trans k7 (by simp [Value.ownBlock])
  obtain ⟨b7, hs7, h57⟩ := ho7.sl
  have hl0 : l ≠ [] := by intro e; rw [e] at hln2; simp at hln2; omega
  obtain ⟨c7, rfl⟩ := hs7.at hl0
  have hb7 := ho7.lt b7 (by simp [Value.ownBlock])
  have hx7 := hx.kept k07
  have hb7F : b7 ∉ X := fun hm => by have := hx.xlt _ hm; omega
  have hgc : (Value.slice (some ⟨gc, 0, none⟩) Cs.length cc).ownBlock = some gc := by simp [Value.ownBlock]
  have hset := hx7.setc hgc (i := j) hj (u := .slice (some ⟨b7, 0, none⟩) l.length c7) (o := some l) ⟨b7, c7, rfl, hs7, hb7F⟩ (fun l' e => by cases e; exact ⟨hln2, HBT.out⟩)
  have k8 : Kept w7 (w7.setCell ⟨gc, j, none⟩ (.slice (some ⟨b7, 0, none⟩) l.length c7)) [gc] := (Kept.refl _ _).setCell (by simp) _
  have d7 := k07.cell dc (by simp)
  obtain ⟨g7, _, ec7, _, f7, _, _⟩ := hx7.cac.cell huc
  obtain rfl : gc = g7 := by simp at ec7; exact ec7.1
  have c2d : w1.drew.cell? ⟨b, 2, none⟩ = _ := c2
  have c2e := kE.cell c2 (by simp)
  have c2f := k07.cell c2 (by simp)
  have hw8 : ∃ w8, w7.setCell ⟨gc, j, none⟩ (.slice (some ⟨b7, 0, none⟩) l.length c7) = w8 := ⟨_, rfl⟩
  obtain ⟨w8, hw8⟩ := hw8
  rw [hw8] at hset k8
  have c5 := hset.blk.cell 5 rfl
  have f5 := hset.blk.free 5
  have E5 : s.tick.writes = s.writes := rfl
  dsimp only at c5
  rw [E5] at c5
  have hwr := HO.out.wr
  have w0 : (0 : Int) ≤ s.writes := by omega
  have w1' : (s.writes : Int) ≤ 1000000000 := by omega
  have hb5 := hset.blk.set 5 (.int .i64 ((s.writes : Int) + 1))
  have k9 : Kept w8 (w8.setCell ⟨b, 5, none⟩ (.int .i64 ((s.writes : Int) + 1))) [b] := (Kept.refl _ _).setCell (by simp) _
  have hfin := hset.counts (o := s.ops + 1) (r := s.writes + 1) k9 (hb5.to (by simp [DiskS.tick])) (by omega) (by omega)
  have HFIN := Lib.hid hfin
  have HAP := Lib.hid hap
  have HW8 := Lib.hid hw8
  have K9 : Hid (Kept w (w8.setCell ⟨b, 5, none⟩ (.int .i64 ((s.writes : Int) + 1))) F) := Lib.hid (((K1.out.trans k07 (by simp)).trans k8 (fun g hg => by simp at hg; subst hg; exact .inl (hx.fc _ hgc))).trans k9 (fun g hg => by simp at hg; subst hg; exact .inl HFB.out))
  have C2D := Lib.hid c2d
  have C2E := Lib.hid c2e
  have C2F := Lib.hid c2f
  have hji : (j : Int) < (s.last.length : Int) := by omega
  clear hx hll hlc hap ho7 k7 kE hE hi hz0 hz1 hz2 huc ec ec7 hxc hcc hs7 h57 hb7 hx7 hb7F hset k8 hw8 hb5 k9 hfin hln2 e k07 hgc hout hl0 c2d c2e c2f dc E5 E0 E1
  go_wp2_with fail
  have D1 := C2D.out
  have D2 := C2E.out
  have D3 := C2F.out
  go_region_law (first
    | (refine step_append_at 35 35 HAP.out (.tmp 32) (.tmp 33) ?_ ?_ ?_ ?_ ?_ ?_ ?_; rfl; rfl; rfl; rfl; rfl; rfl))
  all_goals (
    rw [HW8.out]
    clear D1 D2 D3 d7 f7
    go_wp2_with fail
    go_ret
    refine ⟨_, rfl, ⟨by rw [E.out]; rfl, ?_⟩, K9.out⟩
    rw [E.out]
    exact ⟨_, _, _, _, _, _, HFIN.out⟩)
end Go.Proofs.YtlojgelidcjeaaaGreatDoor
