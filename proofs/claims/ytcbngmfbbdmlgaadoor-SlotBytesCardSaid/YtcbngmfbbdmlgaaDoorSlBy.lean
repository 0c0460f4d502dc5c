/- PROVED: the walk of SlotBytes. No conditions beyond those that each theorem states. -/
import Derived.Test.YtcbngmfbbdmlgaaDoorRiB
import Derived.Test.YtcbngmfbbdmlgaaDoorSlV
import Derived.Test.YtcbngmfbbdmlgaaDoorDkG
import Derived.Test.YtcbngmfbbdmlgaaDoorCrR
namespace Go.Proofs.YtcbngmfbbdmlgaaDoor
open Go.RowKit Go.Proofs.YtcbngmfbbdmlgaaDoorLib Go.WideElems Go.Maps
set_option linter.unusedSimpArgs false
set_option linter.unusedVariables false

theorem step_append_at2 {P : Program} {ops : Array Oper} {o : Oper} {a : Act} {w w' W0 : World} {K : Act → World → Prop} {Q : Exit → Act → World → Prop} {E : Prop} {v1 v2 v' : Value} (t tn ty : TypeId) (hr : (Builtin.append_ #[t, tn] ty #[v1, v2]).run P W0 = .ok v' w') (s x : Operand) (hW : w = W0) (hgd : o.guard = none)
    (ho : o.op = .call { callee := .builtin .append, args := #[s, x], argTypes := #[t, tn] }) (hty : o.type = ty) (hs : a.eval s = v1) (hx : a.eval x = v2)
    (h : K (a.put o.dst v') w') : if Region.wanted o (yielded ops a.tmps) = true then Oper.wp P o a w K Q else E := by
  subst hW
  subst hty
  have hw : Region.wanted o (yielded ops a.tmps) = true := by simp [Region.wanted, hgd]
  rw [if_pos hw]
  unfold Oper.wp
  simp [execOp, ho, resolve, invoke, builtin, hs, hx, hr, Result.andThen]
  exact h
/-- zeros appended to bytes -/
theorem u8_zeros {W : World} {base : Nat} {v : Value} {l : List Int} (h : Own 5 .u8 W base v l) (k : Nat) (hn : l.length + k ≤ 1000000000) (hbase : base ≤ W.heap.size) :
    ∃ v' w', (Builtin.append_ #[27, 3] 27 #[v, .int .i64 k]).run Tryd.prog W = .ok v' w' ∧ Own 5 .u8 w' base v' (l ++ List.replicate k 0) ∧ Kept W w' v.ownBlock.toList := by
  obtain ⟨i0, hi, hz0, hz1, hz2⟩ := info_parts info8
  obtain ⟨v', w', hrun, hown, hg⟩ := run_append_own_zeros (P := Tryd.prog) W base 27 3 27 5 i0 (.int .u8 0) 1 .i64 .i64 Tryd.underlying27 Tryd.underlying3 hi hz0 hz1 hz2 rfl rfl v l.length (l.map (Value.int .u8)) h k (by unfold maxLen; omega) (by omega) hbase
  refine ⟨v', w', hrun, by unfold Own; rw [List.length_append, List.length_replicate, List.map_append, List.map_replicate]; exact hown, Kept.grown hg _ (fun g hg => by simp [hg])⟩
theorem readsM_last (s : DiskS) (a n : Nat) : (readsM s a n).1.last = s.last := by
  induction n generalizing s a with
  | zero => rfl
  | succ n ih =>
    rw [readsM]
    split
    · rfl
    · exact (ih s.tick (a + 1)).trans rfl
theorem readM_last (s : DiskS) (which e f g : Int) : (readM s which e f g).1.last = s.last := by
  unfold readM
  split
  · rfl
  split
  · rfl
  split
  · rfl
  split
  · rfl
  split
  · exact (readsM_last _ _ _).trans rfl
  split
  · exact (readsM_last _ _ _).trans rfl
  · exact (readsM_last _ _ _).trans rfl
theorem read_both (w : World) (hg : GeoLaid w) (b : Nat) (F : List Nat) (s : DiskS) (h : DiskAt w b F s) (hF : ∀ x, x ∈ F → nGlobals ≤ x) (ho : s.ops < 800000000) (which e f g : Int) (hs4 : s.size ≤ 4096) (hfew : fewG e f g = true) :
    Calls Tryd.prog 15 #[pt b, .int .i64 which, geoW e f g] w (Post w [b] (ReadP w b F (readM s which e f g))) := by
  by_cases hw : atWhy s which e f g = 0
  · obtain ⟨hr, _, hsz, _⟩ := atWhy_yes hw
    have ht : gTotal e f g ≤ 500 := by unfold fewG at hfew; rw [hr] at hfew; simpa using hfew
    exact read_yes w hg b F s h hF ho which e f g hw (Nat.le_trans (span_few hr ht s.size hsz hs4).1 (by decide))
  · exact read_no w hg b F s h which e f g hw
theorem rslot_both (w : World) (b : Nat) (F X : List Nat) (s : DiskS) (h : RDisk w b F X s) (ho : s.ops < 800000000) (which e f g : Int) (hs4 : s.size ≤ 4096) (hfew : fewG e f g = true) :
    Calls Tryd.prog 16 #[pt b, .int .i64 which, geoW e f g] w (Post w [b] (RReadP w b F X (readM s which e f g))) := by
  by_cases hw : atWhy s which e f g = 0
  · obtain ⟨hr, _, hsz, _⟩ := atWhy_yes hw
    have ht : gTotal e f g ≤ 500 := by unfold fewG at hfew; rw [hr] at hfew; simpa using hfew
    exact rslot_yes w b F X s h ho which e f g hw (Nat.le_trans (span_few hr ht s.size hsz hs4).1 (by decide))
  · exact rslot_no w b F X s h which e f g hw
set_option maxRecDepth 100000 in
set_option maxHeartbeats 4000000 in
theorem SlotBytes_post (w : World) (hg : GeoLaid w) (e f g : Int) (v : Value) (bq off : Nat) (l : List Int) (sz which : Int) (hsl : Sl .u8 w v bq off l) (hB : Bts l) (z0 : 0 ≤ sz) (z1 : sz ≤ 255) :
    Calls Tryd.prog 4 #[v, .int .u8 sz, .int .i64 which, geoW e f g] w (Post w [] fun r W => r = .bool true) := by
  have hb0 := Blk.new w 23 [.int .i64 e, .int .i64 f, .int .i64 g]
  have k0 : Kept w (w.alloc (.cells #[.int .i64 e, .int .i64 f, .int .i64 g] 23)) [] := (Kept.refl w []).alloc _
  have HAW := Lib.hid (awake_any _ (hg.alloc (.cells #[.int .i64 e, .int .i64 f, .int .i64 g] 23)))
  have HFE := Lib.hid (fun W => few_any W e f g)
  have HB0 := Lib.hid hb0
  have K0 := Lib.hid k0
  have HG := Lib.hid hg
  have HSL := Lib.hid hsl
  have HBT := Lib.hid hB
  obtain ⟨Av, cv, ev⟩ := hsl.form
  subst ev
  have ll := hsl.len
  unfold maxLen at ll
  have l0 : (0 : Int) ≤ l.length := by omega
  have l1 : (l.length : Int) ≤ 9223372036854775807 := by omega
  obtain ⟨b1, b2, b3⟩ := freshM_bd sz
  have y1 : sz.tmod 100 = sz % 100 := Int.tmod_eq_emod_of_nonneg z0
  have y2 : IntKind.i64.wrap (sz % 100) = sz % 100 := by rw [IntKind.wrap_i64]; omega
  have y3 : (0 : Int) ≤ sz % 100 := by omega
  have y4 : sz % 100 ≤ 99 := by omega
  have y5 : IntKind.u8.wrap (sz % 100) = sz % 100 := by rw [IntKind.wrap_u8]; omega
  have HB3 := Lib.hid (And.intro b3 trivial)
  generalize freshM sz = m at *
  clear hg hsl hB hb0 k0
  go_enter Tryd.func4, Tryd.ntmps4
  go_wp2_with fail
  refine HAW.out.mono ?_
  rintro _ w1 ⟨_, rfl, rfl, k1⟩
  have hb1 := HB0.out.kept k1 (by simp)
  have K1 := Lib.hid (K0.out.trans k1 (by simp))
  have HB1 := Lib.hid hb1
  have x0 := hb1.cell 0 rfl
  have x1 := hb1.cell 1 rfl
  have x2 := hb1.cell 2 rfl
  clear k1 hb1 HAW
  go_wp2_with fail
  refine (HFE.out _).mono ?_
  rintro _ w2 ⟨_, rfl, rfl, k2⟩
  have HB2 := Lib.hid (HB1.out.kept k2 (by simp))
  have K2 := Lib.hid (K1.out.trans k2 (by simp))
  clear k2 x0 x1 x2
  by_cases hl : 2000 < l.length
  · have hl' : (2000 : Int) < l.length := by omega
    go_wp2_with fail
    go_ret
    exact ⟨_, rfl, rfl, K2.out⟩
  have hl' : ¬ (2000 : Int) < l.length := by omega
  cases hfw : fewG e f g with
  | false =>
    clear hl
    go_wp2_with fail
    go_ret
    exact ⟨_, rfl, rfl, K2.out⟩
  | true =>
  have HFW := Lib.hid hfw
  clear hfw
  obtain ⟨r1, hr1⟩ : ∃ r1, r1 = l.length % m := ⟨_, rfl⟩
  have hr1m : r1 < m := by rw [hr1]; exact Nat.mod_lt _ (by omega)
  obtain ⟨d, hd⟩ : ∃ d, m = r1 + d := ⟨m - r1, by omega⟩
  obtain ⟨z, hz⟩ : ∃ z, z = d % m := ⟨_, rfl⟩
  have hzm : z < m := by rw [hz]; exact Nat.mod_lt _ (by omega)
  have hsum : (l.length + z) % m = 0 := by
    rw [hz, Nat.add_mod, Nat.mod_mod, ← Nat.add_mod, Nat.add_mod, ← hr1]
    by_cases h0 : r1 = 0
    · have : d = m := by omega
      rw [this, Nat.mod_self, h0]; simp
    · rw [Nat.mod_eq_of_lt (show d < m by omega), ← hd, Nat.mod_self]
  have y6 : (l.length : Int).tmod (m : Int) = (r1 : Int) := by rw [Int.tmod_eq_emod_of_nonneg (by omega), hr1]; simp
  have y6w : IntKind.i64.wrap (r1 : Int) = (r1 : Int) := IntWalk.i64_in _ (by omega)
  have y7 : IntKind.i64.wrap ((m : Int) - (r1 : Int)) = (d : Int) := by rw [IntWalk.i64_in _ (by omega)]; omega
  have y8 : (d : Int).tmod (m : Int) = (z : Int) := by rw [Int.tmod_eq_emod_of_nonneg (by omega), hz]; simp
  have y8w : IntKind.i64.wrap (z : Int) = (z : Int) := IntWalk.i64_in _ (by omega)
  have d0 : (0 : Int) ≤ d := by omega
  have hm0 : ((m : Int) == 0) = false := by rw [beq_eq_false_iff_ne]; omega
  have hm1 : ¬ (m = 0) := by omega
  have hm2 : (0 : Int) ≤ m := by omega
  have hm3 : (m : Int) ≤ 131 := by omega
  obtain ⟨i0, hi, hz0, hz1, hz2⟩ := info_parts info8
  have kE : Kept w2 ((w2.alloc (.cells #[] 5)).drew) [] := ((Kept.refl _ _).alloc _).drew
  have hE : Own 5 .u8 ((w2.alloc (.cells #[] 5)).drew) w2.heap.size (.slice (some ⟨w2.heap.size, 0, none⟩) 0 0) [] := World.ownsRow_made (base := w2.heap.size) (e := 5) (size := 1) w2 #[] 0 (Nat.le_refl _) (Nat.zero_le _) rfl
  obtain ⟨v7, w7, hap, ho7, k7⟩ := own_append (P := Tryd.prog) Tryd.underlying27 hi hz0 hz1 hz2 hE ((HSL.out.kept K2.out (.inr (by simp))).kept kE (.inr (by simp))) (by simp; omega) (by unfold maxLen; simp; omega) (by simp) 27
  rw [List.nil_append] at ho7
  have k07 : Kept w2 w7 [] := kE.trans k7 (by simp [Value.ownBlock])
  obtain ⟨v8, w8, hap8, ho8, k8⟩ := u8_zeros ho7 z (by omega) k07.size
  have k28 : Kept w2 w8 [] := k07.trans k8 (fun q hq => .inr (by simp only [Option.mem_toList] at hq; exact (ho7.lt q hq).1))
  obtain ⟨A7, c7, rfl⟩ := ho7.sl.choose_spec.1.form
  obtain ⟨q8, hs8, hq8⟩ := ho8.sl
  obtain ⟨A8, c8, rfl⟩ := hs8.form
  have hB8 : Bts (l ++ List.replicate z 0) := HBT.out.append (Bts.replicate0 z)
  have hl8 : (l ++ List.replicate z 0).length = l.length + z := by rw [List.length_append, List.length_replicate]
  have hok8 : OpenOk (m : Int) (l ++ List.replicate z 0) := by
    refine ⟨by omega, by omega, by rw [hl8, Int.toNat_natCast]; exact hsum, ?_⟩
    rw [hl8, Int.toNat_natCast]
    exact Nat.le_trans (Nat.div_le_self _ _) (by omega)
  have HAP := Lib.hid hap
  have HAP8 := Lib.hid hap8
  have HS8 := Lib.hid hs8
  have HB8 := Lib.hid hB8
  have HOK8 := Lib.hid hok8
  have K8 := Lib.hid (K2.out.trans k28 (by simp))
  have HG8 := Lib.hid (HB2.out.kept k28 (by simp))
  have HM := Lib.hid (show m ≤ 4096 by omega)
  generalize hcl : l ++ List.replicate z 0 = cl at *
  generalize hnl : cl.length = nl at *
  have HNL := Lib.hid hnl
  clear hi hz0 hz1 hz2 kE hE hap ho7 k7 k07 hap8 ho8 k8 k28 hs8 hq8 hB8 hl8 hok8 hcl hnl hsum hz hzm hd hr1 hr1m hl b1 b2 b3
  go_wp2_with fail
  rw [← HB3.out.1]
  clear y1 y2 y3 y4 y5 z0 z1
  go_region_law (first
    | (refine step_append_at 27 27 HAP.out (.tmp 35) (.tmp 36) ?_ ?_ ?_ ?_ ?_ ?_ ?_; rfl; rfl; rfl; rfl; rfl; rfl)
    | (refine step_append_at2 27 3 27 HAP8.out (.tmp 37) (.tmp 45) ?_ ?_ ?_ ?_ ?_ ?_ ?_; rfl; rfl; rfl; rfl; rfl; rfl))
  all_goals (
    go_wp2_with fail
    (with_reducible refine (open_yes w8 (m : Int) _ q8 0 cl HS8.out HB8.out HOK8.out).mono ?_)
    rintro _ w9 ⟨_, rfl, ⟨bd, Fd, rfl, hd9, hF9⟩, k9⟩
    have hby := open_bytes HOK8.out
    rw [Int.toNat_natCast] at hd9 hby
    have HD9 := Lib.hid hd9
    have HF9 := Lib.hid hF9
    have K9 := Lib.hid k9
    have HBY := Lib.hid hby
    have HS9 := Lib.hid (HS8.out.kept k9 (.inr (by simp)))
    clear hd9 hF9 k9 hby
    go_wp2_with fail
    (with_reducible refine (ropen_yes w9 m _ q8 0 cl HS9.out HB8.out HOK8.out Fd HD9.out.lt).mono ?_)
    rintro _ wx ⟨_, rfl, ⟨br, R, rfl, hrx, hRx⟩, kx⟩
    have hsz : (DiskS.open m cl).size = m := rfl
    have hop : (DiskS.open m cl).ops = 0 := rfl
    have HSZ := Lib.hid (And.intro hsz hop)
    generalize DiskS.open m cl = s at *
    have HDX := Lib.hid (HD9.out.kept kx (by simp))
    have HRX := Lib.hid hrx
    have HRR := Lib.hid (fun x hx hm => Nat.lt_irrefl _ (Nat.lt_of_lt_of_le (HD9.out.lt x hm) (hRx x hx)))
    have HRB := Lib.hid hRx
    have HSX := Lib.hid (HS9.out.kept kx (.inr (by simp)))
    have KX := Lib.hid ((K8.out.trans K9.out (by simp)).trans kx (by simp))
    have hgx := (HG8.out.kept K9.out (by simp)).kept kx (by simp)
    have HGX := Lib.hid hgx
    have SZX := Lib.hid (And.intro K8.out.size (And.intro K9.out.size kx.size))
    have x0 := hgx.cell 0 rfl
    have x1 := hgx.cell 1 rfl
    have x2 := hgx.cell 2 rfl
    clear hrx hRx kx hsz hop hgx
    have HRDA := Lib.hid (read_both wx (HG.out.kept KX.out (by simp)) bd Fd s HDX.out (fun x hx => by have h1 := HF9.out x hx; have h2 := HG.out.sz; have h3 := SZX.out.1; omega) (by rw [HSZ.out.2]; decide) which e f g (by rw [HSZ.out.1]; exact HM.out) HFW.out)
    go_wp2_with fail
    refine HRDA.out.mono ?_
    rintro _ wa ⟨_, rfl, ⟨v1, qa, rfl, hsa, hqa, hda⟩, ka⟩
    obtain ⟨A1, c1, rfl⟩ := hsa.form
    have hbf : bd ∈ Fd := HDX.out.fb
    have hra : RDisk wa br R (Fd ++ R) s := (HRX.out.beside (Y := []) ka (fun x hx => by simp at hx; subst hx; exact List.mem_append.2 (.inl hbf)) (fun x hx hm => by simp at hx; subst hx; exact HRR.out _ hm hbf) (fun x hx => by simp at hx)).less (fun x hx => List.mem_append.2 (.inl hx)) (fun x hx => List.mem_append.2 (.inr hx))
    have hbd9 := HF9.out bd hbf
    have hsx : Sl .u8 wa (.slice A8 nl c8) q8 0 cl := HSX.out.kept ka (by
      by_cases h0 : cl = []
      · exact .inl h0
      · have := HS8.out.lt h0
        exact .inr (by simp; omega))
    have hgxa := HGX.out.kept ka (by have h1 := HG8.out.lt; simp; omega)
    have HKA := Lib.hid (KX.out.trans ka (fun x hx => .inr (by simp at hx; subst hx; have h3 := SZX.out.1; omega)))
    have HLR := Lib.hid (readM_last s which e f g)
    generalize hRM : readM s which e f g = RM at *
    have HRMQ := Lib.hid (And.intro hRM trivial)
    clear hRM
    have hkl : Kept wa (wa.alloc (.cells #[.int .i64 RM.2.1.st, .int .i64 RM.2.1.why, .int .u64 RM.2.1.seq, .slice A1 RM.2.1.img.length c1] 37)) [] := (Kept.refl _ _).alloc _
    have hbl := Blk.new wa 37 [.int .i64 RM.2.1.st, .int .i64 RM.2.1.why, .int .u64 RM.2.1.seq, .slice A1 RM.2.1.img.length c1]
    obtain ⟨wb, hwb⟩ : ∃ wb, wb = wa.alloc (.cells #[.int .i64 RM.2.1.st, .int .i64 RM.2.1.why, .int .u64 RM.2.1.seq, .slice A1 RM.2.1.img.length c1] 37) := ⟨_, rfl⟩
    rw [← hwb] at hkl hbl
    have HDB := Lib.hid (hda.kept hkl (by simp))
    have HRB2 := Lib.hid (hra.kept hkl)
    have HSB := Lib.hid (hsx.kept hkl (.inr (by simp)))
    have HSA := Lib.hid (hsa.kept hkl (.inr (by simp)))
    have hgb := hgxa.kept hkl (by simp)
    have HKB := Lib.hid (HKA.out.trans hkl (by simp))
    have HBL := Lib.hid hbl
    have HQA := Lib.hid hqa
    have HBR : Hid (br < wx.heap.size ∧ wx.heap.size ≤ wa.heap.size) := Lib.hid ⟨HRX.out.lt _ HRX.out.fb, ka.size⟩
    have HBRN : Hid (w9.heap.size ≤ br) := Lib.hid (HRB.out _ HRX.out.fb)
    have x0 := hgb.cell 0 rfl
    have x1 := hgb.cell 1 rfl
    have x2 := hgb.cell 2 rfl
    clear hsa hqa hda ka hra hsx hgxa hkl hbl hgb hbf hbd9 HRDA
    go_upto_region 12 with fail
    rw [← hwb]
    clear hwb
    generalize hga : wa.heap.size = ga at *
    clear hga
    have HRDB := Lib.hid (rslot_both wb br R (Fd ++ R) s HRB2.out (by rw [HSZ.out.2]; decide) which e f g (by rw [HSZ.out.1]; exact HM.out) HFW.out)
    rw [HRMQ.out.1] at HRDB
    clear HRMQ
    go_wp2_with fail
    refine HRDB.out.mono ?_
    rintro _ wc ⟨_, rfl, ⟨v2, qc, rfl, hsc, hqc, hdc⟩, kc⟩
    obtain ⟨A2, c2, rfl⟩ := hsc.form
    have hbrR : br ∈ R := HRX.out.fb
    have hDC : DiskAt wc bd Fd RM.1 := HDB.out.kept kc (fun x hx hm => by simp at hx; subst hx; exact HRR.out _ hbrR hm)
    have hSA : Sl .u8 wc (.slice A1 RM.2.1.img.length c1) qa 0 RM.2.1.img := HSA.out.kept kc (HQA.out.imp id (fun h => by have := HBR.out.1; simp; omega))
    have hBL := HBL.out.kept kc (by have := HBR.out; simp; omega)
    have hSB : Sl .u8 wc (.slice A8 nl c8) q8 0 cl := HSB.out.kept kc (by
      by_cases h0 : cl = []
      · exact .inl h0
      · have h1 := HS8.out.lt h0
        have h2 := SZX.out.2.1
        have h3 := HBRN.out
        exact .inr (by simp; omega))
    have HKC := Lib.hid (HKB.out.trans kc (fun x hx => .inr (by simp at hx; subst hx; have h1 := SZX.out; have h2 := HBRN.out; omega)))
    obtain ⟨wd, hwd⟩ : ∃ wd, wd = wc.alloc (.cells #[.int .i64 RM.2.1.st, .int .i64 RM.2.1.why, .int .u64 RM.2.1.seq, .slice A2 RM.2.1.img.length c2] 37) := ⟨_, rfl⟩
    have hkd : Kept wc wd [] := by rw [hwd]; exact (Kept.refl _ _).alloc _
    have hbd2 : Blk wd wc.heap.size 37 [.int .i64 RM.2.1.st, .int .i64 RM.2.1.why, .int .u64 RM.2.1.seq, .slice A2 RM.2.1.img.length c2] := by rw [hwd]; exact Blk.new _ _ _
    have hbl2 := hBL.kept hkd (by simp)
    have HDD := Lib.hid (hDC.kept hkd (by simp))
    have HSAD := Lib.hid (hSA.kept hkd (.inr (by simp)))
    have HSCD := Lib.hid (hsc.kept hkd (.inr (by simp)))
    have HSBD := Lib.hid (hSB.kept hkd (.inr (by simp)))
    have HKD := Lib.hid (HKC.out.trans hkd (by simp))
    have y0 := hbd2.cell 0 rfl
    have y1 := hbd2.cell 1 rfl
    have y2 := hbd2.cell 2 rfl
    have y3 := hbd2.cell 3 rfl
    have u0 := hbl2.cell 0 rfl
    have u1 := hbl2.cell 1 rfl
    have u2 := hbl2.cell 2 rfl
    have u3 := hbl2.cell 3 rfl
    have HBYT : Hid (RM.1.bytes = cl) := Lib.hid (by unfold DiskS.bytes; rw [HLR.out]; exact HBY.out)
    clear hsc hqc hdc kc hbrR hDC hSA hBL hSB hkd hbd2 hbl2 x0 x1 x2 HRDB
    go_upto_region 13 with fail
    rw [← hwd]
    clear hwd
    generalize hgc : wc.heap.size = gc at *
    clear hgc
    obtain ⟨RS, ⟨st, why, seq, img⟩, er⟩ := RM
    go_wp2_with fail
    (with_reducible refine (rslotsame_yes wd st why seq _ _ qa 0 qc 0 img HSAD.out HSCD.out).mono ?_)
    rintro _ we ⟨_, rfl, rfl, ke⟩
    have HDE := Lib.hid (HDD.out.kept ke (by simp))
    have HSE := Lib.hid (HSBD.out.kept ke (.inr (by simp)))
    have HKE := Lib.hid (HKD.out.trans ke (by simp))
    clear ke y0 y1 y2 y3 u0 u1 u2 u3
    go_wp2_with fail
    (with_reducible refine (bytes_any _ bd Fd RS HDE.out).mono ?_)
    rintro _ wf ⟨vf, rfl, hvf, kf⟩
    have hvf2 : Own 5 .u8 wf we.heap.size vf cl := by have h1 := hvf; rw [HBYT.out] at h1; exact h1
    obtain ⟨bf, hsf, _⟩ := hvf2.sl
    have HSF := Lib.hid hsf
    have HSE2 := Lib.hid (HSE.out.kept kf (.inr (by simp)))
    have HKF := Lib.hid (HKE.out.trans kf (by simp))
    clear hvf hvf2 kf hsf
    go_wp2_with fail
    (with_reducible refine (same_any _ _ _ bf 0 q8 0 _ _ HSF.out HSE2.out).mono ?_)
    rintro _ wg ⟨_, rfl, rfl, kg⟩
    have HKG := Lib.hid (HKF.out.trans kg (by simp))
    clear kg
    rw [decide_eq_true rfl]
    go_wp2_with fail
    go_ret
    exact ⟨_, rfl, rfl, HKG.out⟩)
theorem SlotBytes_walk (w : World) (hg : GeoLaid w) (v : Value) (l : List Int) (sz which : Int) (e f g : Int) (hs : SliceAt Byte1 1 w w.heap.size v l) (z0 : 0 ≤ sz) (z1 : sz ≤ 255) :
    Calls Tryd.prog 4 #[v, .int .u8 sz, .int .i64 which, geoW e f g] w (fun e W => e = .returned (.bool true) ∧ Below w.heap.size w W) := by
  obtain ⟨bq, off, hsl, hB, _⟩ := Sl.of_at hs
  exact (SlotBytes_post w hg e f g v bq off l sz which hsl hB z0 z1).mono fun _ _ ⟨_, h1, h2, h3⟩ => ⟨by rw [h1, h2], h3.below _ (Nat.le_refl _) (by simp)⟩
end Go.Proofs.YtcbngmfbbdmlgaaDoor
