/- PROVED: the walk of ShadowWrites. No conditions beyond those that each theorem states. -/
import Derived.Test.YtcikhnkehglkgaaGreatDoorShT
import Derived.Test.YtcikhnkehglkgaaGreatDoorSlArg
namespace Go.Proofs.YtcikhnkehglkgaaGreatDoor
open Go.RowKit Go.Proofs.YtcikhnkehglkgaaGreatDoorLib Go.Shelf
set_option linter.unusedSimpArgs false
set_option linter.unusedVariables false

set_option maxRecDepth 100000 in
set_option maxHeartbeats 4000000 in
theorem ShadowWrites_post (w : World) (hg : GeoLaid w) (e f g sz fail : Int) (v : Value) (bq off : Nat) (l : List Int) (hsl : Sl .u8 w v bq off l) (hB : Bts l) (hbq : l = [] ∨ bq < w.heap.size) (z0 : 0 ≤ sz) (z1 : sz ≤ 255) (j0 : 0 ≤ fail) (j1 : fail ≤ 255) :
    Calls Tryz.prog 5 #[.agg #[.int .i64 e, .int .i64 f, .int .i64 g], .int .u8 sz, v, .int .u8 fail] w (Post w [] fun v W => v = .bool true) := by
  obtain ⟨Av, cv, ev⟩ := hsl.form
  subst ev
  have HSL := Lib.hid (And.intro hsl hbq)
  have ll := hsl.len
  unfold maxLen at ll
  have l0 : (0 : Int) ≤ l.length := by omega
  have l1 : (l.length : Int) ≤ 9223372036854775807 := by omega
  clear hsl ll hbq
  obtain ⟨n, hn⟩ : ∃ n, w.heap.size = n := ⟨_, rfl⟩
  obtain ⟨W1, hW1⟩ : ∃ W1, W1 = w.alloc (.cells #[.int .i64 e, .int .i64 f, .int .i64 g] 23) := ⟨_, rfl⟩
  have bk : Blk W1 n 23 [.int .i64 e, .int .i64 f, .int .i64 g] := by rw [hW1, ← hn]; exact Blk.new _ _ _
  have kw : Kept w W1 [] := by rw [hW1]; exact (Kept.refl w []).alloc _
  have s1 : W1.heap.size = n + 1 := by rw [hW1, World.size_alloc, hn]
  have hg1 := hg.kept kw (by simp)
  have hg0 := hg
  have HAW := Lib.hid (awake07_any W1 hg1)
  have HFE := Lib.hid (fun W => few_any W e f g)
  have HRR := Lib.hid (fun W => rright_any W e f g)
  have HRT := Lib.hid (fun W => rtotal_any W e f g)
  have HB := Lib.hid bk
  have HK := Lib.hid kw
  have HS := Lib.hid (And.intro s1 hn)
  have HG := Lib.hid (And.intro hg1 (show ∀ x, n + 1 ≤ x → nGlobals ≤ x from fun x hx => by have := hg.sz; omega))
  clear bk kw s1 hg1 hg
  cases hF : fewG e f g
  · rw [hF] at HFE
    clear hF
    go_enter Tryz.func5, Tryz.ntmps5
    go_upto_region 1 with fail
    simp only [hn, ← hW1]
    clear hn hW1
    go_wp2_with fail
    refine (HAW.out).mono ?_
    rintro _ V1 ⟨_, rfl, rfl, kv⟩
    have HB1 := Lib.hid (HB.out.kept kv (by simp))
    have HK1 := Lib.hid (HK.out.trans kv (by simp))
    clear kv
    have g0 := HB1.out.cell 0 rfl
    have g1 := HB1.out.cell 1 rfl
    have g2 := HB1.out.cell 2 rfl
    go_wp2_with fail
    refine (HFE.out V1).mono ?_
    rintro _ V2 ⟨_, rfl, rfl, kv⟩
    have HB2 := Lib.hid (HB1.out.kept kv (by simp))
    have HK2 := Lib.hid (HK1.out.trans kv (by simp))
    clear kv g0 g1 g2
    have g0 := HB2.out.cell 0 rfl
    have g1 := HB2.out.cell 1 rfl
    have g2 := HB2.out.cell 2 rfl
    go_wp2_with fail
    refine (HRR.out V2).mono ?_
    rintro _ V3 ⟨_, rfl, rfl, kv⟩
    have HB3 := Lib.hid (HB2.out.kept kv (by simp))
    have HK3 := Lib.hid (HK2.out.trans kv (by simp))
    clear kv g0 g1 g2
    have g0 := HB3.out.cell 0 rfl
    have g1 := HB3.out.cell 1 rfl
    have g2 := HB3.out.cell 2 rfl
    go_wp2_with fail
    go_ret
    exact ⟨_, rfl, rfl, HK3.out⟩
  cases hR : gRight e f g
  · rw [hF] at HFE
    rw [hR] at HRR
    clear hF hR
    go_enter Tryz.func5, Tryz.ntmps5
    go_upto_region 1 with fail
    simp only [hn, ← hW1]
    clear hn hW1
    go_wp2_with fail
    refine (HAW.out).mono ?_
    rintro _ V1 ⟨_, rfl, rfl, kv⟩
    have HB1 := Lib.hid (HB.out.kept kv (by simp))
    have HK1 := Lib.hid (HK.out.trans kv (by simp))
    clear kv
    have g0 := HB1.out.cell 0 rfl
    have g1 := HB1.out.cell 1 rfl
    have g2 := HB1.out.cell 2 rfl
    go_wp2_with fail
    refine (HFE.out V1).mono ?_
    rintro _ V2 ⟨_, rfl, rfl, kv⟩
    have HB2 := Lib.hid (HB1.out.kept kv (by simp))
    have HK2 := Lib.hid (HK1.out.trans kv (by simp))
    clear kv g0 g1 g2
    have g0 := HB2.out.cell 0 rfl
    have g1 := HB2.out.cell 1 rfl
    have g2 := HB2.out.cell 2 rfl
    go_wp2_with fail
    refine (HRR.out V2).mono ?_
    rintro _ V3 ⟨_, rfl, rfl, kv⟩
    have HB3 := Lib.hid (HB2.out.kept kv (by simp))
    have HK3 := Lib.hid (HK2.out.trans kv (by simp))
    clear kv g0 g1 g2
    have g0 := HB3.out.cell 0 rfl
    have g1 := HB3.out.cell 1 rfl
    have g2 := HB3.out.cell 2 rfl
    go_wp2_with fail
    go_ret
    exact ⟨_, rfl, rfl, HK3.out⟩
  have ht5 : gTotal e f g ≤ 500 := by
    unfold fewG at hF
    rw [hR] at hF
    simpa using hF
  rw [hF] at HFE
  rw [hR] at HRR
  clear hF
  by_cases hl6 : 600 < l.length
  · have hl7 : (600 : Int) < l.length := by omega
    clear hR ht5 hl6
    go_enter Tryz.func5, Tryz.ntmps5
    go_upto_region 1 with fail
    simp only [hn, ← hW1]
    clear hn hW1
    go_wp2_with fail
    refine (HAW.out).mono ?_
    rintro _ V1 ⟨_, rfl, rfl, kv⟩
    have HB1 := Lib.hid (HB.out.kept kv (by simp))
    have HK1 := Lib.hid (HK.out.trans kv (by simp))
    clear kv
    have g0 := HB1.out.cell 0 rfl
    have g1 := HB1.out.cell 1 rfl
    have g2 := HB1.out.cell 2 rfl
    go_wp2_with fail
    refine (HFE.out V1).mono ?_
    rintro _ V2 ⟨_, rfl, rfl, kv⟩
    have HB2 := Lib.hid (HB1.out.kept kv (by simp))
    have HK2 := Lib.hid (HK1.out.trans kv (by simp))
    clear kv g0 g1 g2
    have g0 := HB2.out.cell 0 rfl
    have g1 := HB2.out.cell 1 rfl
    have g2 := HB2.out.cell 2 rfl
    go_wp2_with fail
    refine (HRR.out V2).mono ?_
    rintro _ V3 ⟨_, rfl, rfl, kv⟩
    have HB3 := Lib.hid (HB2.out.kept kv (by simp))
    have HK3 := Lib.hid (HK2.out.trans kv (by simp))
    clear kv g0 g1 g2
    have g0 := HB3.out.cell 0 rfl
    have g1 := HB3.out.cell 1 rfl
    have g2 := HB3.out.cell 2 rfl
    go_wp2_with fail
    go_ret
    exact ⟨_, rfl, rfl, HK3.out⟩
  have hl7 : ¬ (600 : Int) < l.length := by omega
  clear hl6
  obtain ⟨b1, b2, b3⟩ := freshM_bd sz
  obtain ⟨sp1, sp2⟩ := span_few hR ht5 (freshM sz) b1 (by omega)
  have HFR := Lib.hid (fun W (hg : GeoLaid W) => fresh07_any W hg sz e f g z0 z1 hR ht5)
  have HSP := Lib.hid (fun W => rspan_any W (freshM sz) e f g)
  have hflen := facL_len hR
  have hflb := facL_bts e f g
  have hw : atWhy (DiskS.new (2 * spanN (freshM sz) e f g + 1) (freshM sz)) 0 e f g = 0 := by
    have e1 : (DiskS.new (2 * spanN (freshM sz) e f g + 1) (freshM sz)).last.length = 2 * spanN (freshM sz) e f g + 1 := by simp [DiskS.new]
    have e2 : (DiskS.new (2 * spanN (freshM sz) e f g + 1) (freshM sz)).size = freshM sz := rfl
    unfold atWhy
    rw [e1, e2, if_neg (by simp [hR]), if_neg (by omega), if_neg (by omega)]
  obtain ⟨d1, i1, k1, hz1, mk1, c1⟩ := format_go (s := DiskS.new (2 * spanN (freshM sz) e f g + 1) (freshM sz)) (fun _ _ => rfl) (by simp [DiskS.new]) (by show freshM sz ≤ 4096; omega) hw (by show (0 : Nat) < _; omega) (by omega)
  have q1 : d1.size = freshM sz := k1.size
  have p1 : ∀ m, d1.plan m = false := fun m => by rw [k1.plan]; rfl
  have hsc : secs (gTotal e f g) (freshM sz) ≤ 500 := Nat.le_trans (secs_le _ _ (by omega)) ht5
  have o1 : d1.ops ≤ 506 := by have h1 := k1.ops; have h2 : (DiskS.new (2 * spanN (freshM sz) e f g + 1) (freshM sz)).ops = 0 := rfl; have h3 : (DiskS.new (2 * spanN (freshM sz) e f g + 1) (freshM sz)).size = freshM sz := rfl; rw [h3] at h1; omega
  obtain ⟨d2, n2, hn2, i2, k2, gt2, wr2, ma2, c2⟩ := open_go i1 (by omega) (by rw [q1]; omega)
  have q2 : d2.size = freshM sz := by rw [k2.size, q1]
  have o2 : d2.ops ≤ 909 := by have := k2.ops; omega
  have p2 : ∀ m, d2.plan m = false := fun m => by rw [k2.plan]; exact p1 m
  have hz2 : d2.get (slotAt d2 1 e f g) = List.replicate d2.size 0 := by rw [gt2, slotAt_kin k2, k2.size]; exact hz1
  generalize hfl : facL e f g = fl at *
  have hm2 : d2.marks = 0 := by rw [ma2, mk1]; rfl
  obtain ⟨sp, hsp⟩ : ∃ sp, spanN (freshM sz) e f g = sp := ⟨_, rfl⟩
  have hsp2 : spanN d2.size e f g = sp := by rw [q2]; exact hsp
  have HFM := Lib.hid c1
  have HOP := Lib.hid c2
  clear c1 c2
  rw [hsp] at HSP HFR HFM
  have HNG : Hid (nGlobals ≤ n) := Lib.hid (by have h1 := hg0.sz; omega)
  have HG0 := Lib.hid hg0
  have y1 : sz.tmod 100 = sz % 100 := Int.tmod_eq_emod_of_nonneg z0
  have y2 : IntKind.i64.wrap (sz % 100) = sz % 100 := by rw [IntKind.wrap_i64]; omega
  have y3 : (0 : Int) ≤ sz % 100 := by omega
  have y4 : sz % 100 ≤ 99 := by omega
  have y5 : IntKind.u8.wrap (sz % 100) = sz % 100 := by rw [IntKind.wrap_u8]; omega
  have hXl := made_len (gTotal e f g) l
  have hXb := made_bts hB (gTotal e f g)
  have HMK := Lib.hid (fun (V : World) (b q : Nat) (d : DiskS) (h : ShS) (L : List (Nat × Value × List Int)) (s : Sess w V n b q e f g d h L) => sess_made s HS.out.2 HSL.out.1 HSL.out.2 (gTotal e f g) (by omega))
  generalize splice (List.replicate (gTotal e f g) 0) 0 (l.take (gTotal e f g)) = X at *
  obtain ⟨d3, h3, i3, hn3, hq3, o3, s3, m3, _, eq3, ne3, c3⟩ := sess_commits (w := w) (n := n) i2 (by omega) (by omega) (by show (1 : Int) < _; decide) hXl hXb
  simp only at hq3 eq3 ne3
  rw [hsp2] at ne3
  have hq3' : h3.seq ≤ 2 := by omega
  have ci3 : commitM d3 h3 e f g X = (d3, h3, 0) := by
    unfold commitM
    have hwy : commitWhy h3 X = 0 := by
      unfold commitWhy
      rw [if_neg (by rw [i3.fresh]; simp), if_neg (by rw [hXl, i3.len]; simp), if_pos hn3.symm]
    rw [if_pos (by simp [hwy]), hwy]
  have hyl : (xorK X X.length).length = gTotal e f g := by rw [xorK_len]; exact hXl
  have hyb := xorK_bts hXb X.length
  have hsp3 : spanN d3.size e f g = sp := by rw [s3]; exact hsp2
  have wf := writes_fin i3 (by omega) hyl hyb ((d3.ops : Int) + 1 + fail)
  rw [hsp3] at wf
  have i4 := i3
  have HC4 := Lib.hid (fun (V : World) (b q : Nat) (L : List (Nat × Value × List Int)) (s : Sess w V n b q e f g d3 h3 L) (bq : Nat) (v : Value) (hm : (bq, v, X) ∈ L) =>
    (show Calls Tryz.prog 21 #[pt q, v] V (fun ee V' => ee = .returned (.int .i64 0) ∧ Sess w V' n b q e f g d3 h3 L) by
      have c := sess_commit s (by omega) i3.q0 i3.q1 (by have := i3.wh; omega) (by have := i3.wh; omega) i3.bts (by have := i3.len; omega) hm hXb (by omega)
      rw [ci3] at c
      exact c))
  have HC5 := Lib.hid (fun (V : World) (b q : Nat) (L : List (Nat × Value × List Int)) (s : Sess w V n b q e f g (d3.fail ((d3.ops : Int) + 1 + fail)) h3 L) (bq : Nat) (v : Value) (hm : (bq, v, xorK X X.length) ∈ L) =>
    sess_commit s (by show d3.ops < _; omega) i3.q0 i3.q1 (by have := i3.wh; omega) (by have := i3.wh; omega) i3.bts (by have := i3.len; omega) hm hyb (by omega))
  have e5 : (d3.fail ((d3.ops : Int) + 1 + fail)).writes = d3.writes := rfl
  generalize commitM (d3.fail ((d3.ops : Int) + 1 + fail)) h3 e f g (xorK X X.length) = R5 at *
  obtain ⟨d5, h5, er5⟩ := R5
  simp only at wf HC5
  have HC3 := Lib.hid c3
  have H3 := Lib.hid (And.intro o3 (And.intro (show d3.marks = 0 by rw [m3]; exact hm2) hn3))
  have HL := Lib.hid (And.intro hflen (And.intro hXl (And.intro hXb ht5)))
  have HW5 := Lib.hid (And.intro wf e5)
  obtain ⟨sm, hsm⟩ : ∃ sm, decide (X = fl) = sm := ⟨_, rfl⟩
  have H33 := Lib.hid (And.intro hsm (And.intro eq3 ne3))
  have HSP2 := Lib.hid (And.intro (show sp ≤ 17 by omega) b3)
  have HO2 := Lib.hid o2
  have y7 : IntKind.i64.wrap fail = fail := by rw [IntKind.wrap_i64]; omega
  have y10 : IntKind.i64.wrap ((d3.ops : Int) + 1) = (d3.ops : Int) + 1 := by rw [IntKind.wrap_i64]; omega
  have y11 : IntKind.i64.wrap ((d3.ops : Int) + 1 + fail) = (d3.ops : Int) + 1 + fail := by rw [IntKind.wrap_i64]; omega
  have x0 : (0 : Int) ≤ X.length := by omega
  have x1 : (X.length : Int) ≤ 500 := by omega
  generalize hgt : gTotal e f g = gt at *
  generalize hDN : DiskS.new (2 * sp + 1) (freshM sz) = D0 at *
  clear hR b1 b2 sp1 sp2 hw i1 k1 hz1 mk1 q1 p1 hsc o1 hn2 k2 gt2 wr2 ma2 hsp hfl hg0 i2 i3 i4 z0 z1 b3 ht5 hflen hflb o2 q2 p2 hz2 hm2 hsp2 hXl hXb hn3 hq3 hq3' o3 s3 m3 eq3 ne3 c3 ci3 hyl hyb hsp3 wf e5 hB hsm hgt hDN
  go_enter Tryz.func5, Tryz.ntmps5
  go_upto_region 1 with fail
  simp only [hn, ← hW1]
  clear hn hW1
  go_wp2_with fail
  refine (HAW.out).mono ?_
  rintro _ V1 ⟨_, rfl, rfl, kv⟩
  have HB1 := Lib.hid (HB.out.kept kv (by simp))
  have HK1 := Lib.hid (HK.out.trans kv (by simp))
  clear kv
  have g0 := HB1.out.cell 0 rfl
  have g1 := HB1.out.cell 1 rfl
  have g2 := HB1.out.cell 2 rfl
  go_wp2_with fail
  refine (HFE.out V1).mono ?_
  rintro _ V2 ⟨_, rfl, rfl, kv⟩
  have HB2 := Lib.hid (HB1.out.kept kv (by simp))
  have HK2 := Lib.hid (HK1.out.trans kv (by simp))
  clear kv g0 g1 g2
  have g0 := HB2.out.cell 0 rfl
  have g1 := HB2.out.cell 1 rfl
  have g2 := HB2.out.cell 2 rfl
  go_wp2_with fail
  refine (HRR.out V2).mono ?_
  rintro _ V3 ⟨_, rfl, rfl, kv⟩
  have HB3 := Lib.hid (HB2.out.kept kv (by simp))
  have HK3 := Lib.hid (HK2.out.trans kv (by simp))
  clear kv g0 g1 g2
  have g0 := HB3.out.cell 0 rfl
  have g1 := HB3.out.cell 1 rfl
  have g2 := HB3.out.cell 2 rfl
  go_wp2_with fail
  have HG3 : Hid (GeoLaid V3) := Lib.hid (HG0.out.kept HK3.out (by simp))
  refine (HFR.out V3 HG3.out).mono ?_
  rintro _ V5 ⟨_, rfl, ⟨b, F, rfl, hd, hF⟩, kv⟩
  have S5 : St (fun x => n + 1 ≤ x) V5 b D0 := ⟨⟨F, hd, fun x hx => by have h1 := hF x hx; have h2 := HB3.out.lt; omega⟩, fun x hx => by have h1 := kv.size; have h2 := HB3.out.lt; omega⟩
  have HB5 := Lib.hid (HB3.out.kept kv (by simp))
  have HK5 := Lib.hid (KeptA.of0 (A := fun x => n + 1 ≤ x) (HK3.out.trans kv (by simp)))
  have HG5 := Lib.hid (HG3.out.kept kv (by simp))
  have HF5 := Lib.hid (HFM.out _ V5 b S5 HG5.out HG.out.2)
  clear S5 hd hF kv g0 g1 g2
  have g0 := HB5.out.cell 0 rfl
  have g1 := HB5.out.cell 1 rfl
  have g2 := HB5.out.cell 2 rfl
  go_wp2_with fail
  refine HF5.out.mono ?_
  rintro _ V6 ⟨rfl, hS, hK⟩
  have HB6 := Lib.hid (hK.blk HB5.out (by omega))
  have HG6 := Lib.hid (hK.geo HG5.out HG.out.2)
  have HK6 := Lib.hid (HK5.out.trans hK)
  have HO6 := Lib.hid (HOP.out _ V6 b hS HG6.out HG.out.2)
  clear hS hK g0 g1 g2
  have g0 := HB6.out.cell 0 rfl
  have g1 := HB6.out.cell 1 rfl
  have g2 := HB6.out.cell 2 rfl
  go_wp2_with fail
  refine HO6.out.mono ?_
  intro ee V7 hO
  obtain ⟨q, rfl, s7⟩ := sess_start hO HG6.out HB6.out HK6.out HNG.out
  have S7 := Lib.hid s7
  clear hO s7 g0 g1 g2
  clear HB HB1 HB2 HB3 HB5 HB6 HK HK1 HK2 HK3 HK5 HK6 HG3 HG5 HG6 HF5 HO6 HAW HFE HRR HFR HFM HOP
  have g0 := S7.out.blk.cell 0 rfl
  have g1 := S7.out.blk.cell 1 rfl
  have g2 := S7.out.blk.cell 2 rfl
  go_wp2_with fail
  rw [← HSP2.out.2]
  refine (HSP.out _).mono ?_
  rintro _ V8 ⟨_, rfl, rfl, kv⟩
  have S8 := Lib.hid (S7.out.kept0 kv)
  clear kv g0 g1 g2
  go_wp2_with fail
  refine (sess_image S8.out (by show fl.length ≤ _; have := HL.out.1; have := HL.out.2.2.2; omega)).mono ?_
  rintro _ V9 ⟨v9, nb9, rfl, s9⟩
  have hsw := s9.sls _ (List.mem_cons_self)
  simp only at hsw
  obtain ⟨A9, c9, e9⟩ := hsw.form
  subst e9
  have S9 := Lib.hid s9
  clear hsw s9
  go_wp2_with fail
  rw [HL.out.1]
  refine (HMK.out _ b q _ _ _ S9.out).mono ?_
  rintro _ V10 ⟨v10, nx, rfl, s10⟩
  have S10 := Lib.hid s10
  clear s10
  go_wp2_with fail
  refine (sess_writes S10.out).mono ?_
  rintro _ V11 ⟨rfl, s11⟩
  have S11 := Lib.hid s11
  clear s11
  go_wp2_with fail
  refine (sess_ops S11.out).mono ?_
  rintro _ V12 ⟨rfl, s12⟩
  have S12 := Lib.hid s12
  clear s12
  go_wp2_with fail
  refine (sess_image S12.out (by show fl.length ≤ _; have := HL.out.1; have := HL.out.2.2.2; omega)).mono ?_
  rintro _ V13 ⟨v13, nb13, rfl, s13⟩
  have S13 := Lib.hid s13
  clear s13
  go_wp2_with fail
  refine (same_any V13 _ _ nx 0 nb13 0 X fl (S13.out.sls _ (List.mem_cons_of_mem _ (List.mem_cons_self))) (S13.out.sls _ (List.mem_cons_self))).mono ?_
  rintro _ V14 ⟨_, rfl, rfl, kv⟩
  have S14 := Lib.hid (S13.out.kept0 kv)
  clear kv
  rw [H33.out.1]
  go_wp2_with fail
  refine (HC3.out _ b q _ S14.out nx _ (List.mem_cons_of_mem _ (List.mem_cons_self))).mono ?_
  rintro _ V15 ⟨rfl, s15⟩
  obtain ⟨t1, t2, t3⟩ : ((sm && ((d3.ops : Int) != (d2.ops : Int))) = false) ∧ ((!sm && ((d3.writes : Int) != (d2.writes : Int) + sp)) = false) ∧ (d2.writes ≤ 100000 ∧ d3.writes ≤ 100000) := by
    have h1 := H33.out
    have h2 : d2.writes ≤ d2.ops := by obtain ⟨A, a1, _⟩ := S14.out.ex; obtain ⟨⟨F, hF, _⟩, _⟩ := a1.st; exact hF.ok.wr
    have h3 : d3.writes ≤ d3.ops := by obtain ⟨A, a1, _⟩ := s15.ex; obtain ⟨⟨F, hF, _⟩, _⟩ := a1.st; exact hF.ok.wr
    have h4 := HO2.out
    have h5 := H3.out.1
    refine ⟨?_, ?_, by omega, by omega⟩
    · cases sm
      · rfl
      · rw [(h1.2.1 (by simpa using h1.1)).1]; simp
    · cases sm
      · rw [(h1.2.2 (by simpa using h1.1)).1]; simp
      · rfl
  have S15 := Lib.hid s15
  clear s15
  have y12 : IntKind.i64.wrap ((d2.writes : Int) + sp) = (d2.writes : Int) + sp := by have := HSP2.out.1; rw [IntKind.wrap_i64]; omega
  have HT := Lib.hid (And.intro t1 (And.intro t2 t3))
  clear t1 t2 t3
  -- from here on for either
  cases sm
  · have t1 := HT.out.1
    have t2 := HT.out.2.1
    simp only [Bool.true_and, Bool.false_and, Bool.not_true, Bool.not_false] at t1 t2
    go_wp2_with fail
    refine (sess_writes S15.out).mono ?_
    rintro _ V16 ⟨rfl, s16⟩
    have S16 := Lib.hid s16
    clear s16
    go_wp2_with fail
    refine (sess_ops S16.out).mono ?_
    rintro _ V17 ⟨rfl, s17⟩
    have S17 := Lib.hid s17
    clear s17
    go_wp2_with fail
    refine (HC4.out _ b q _ S17.out nx _ (List.mem_cons_of_mem _ (List.mem_cons_self))).mono ?_
    rintro _ V18 ⟨rfl, s18⟩
    have S18 := Lib.hid s18
    clear s18
    go_wp2_with fail
    refine (sess_ops S18.out).mono ?_
    rintro _ V19 ⟨rfl, s19⟩
    have hsw := s19.sls _ (List.mem_cons_of_mem _ (List.mem_cons_self))
    simp only at hsw
    obtain ⟨v20, V20, hap, hown, k20⟩ := fresh_copy hsw (by have := HL.out.2.1; have := HL.out.2.2.2; omega)
    obtain ⟨nx2, hsx, hnx⟩ := hown.sl
    obtain ⟨A20, c20, ev⟩ := hsx.form
    subst ev
    have HAP := Lib.hid hap
    have HOW := Lib.hid hown
    have HKE := Lib.hid k20
    have S19 := Lib.hid s19
    clear s19 hsw hap hown hsx hnx k20 t1 t2
    go_wp2_with (first | (at_builtin; refine wpList_append_run rfl _ _ _ rfl rfl rfl HAP.out ?_))
    go_loopg [25] X.length (fun g i wr => ∃ k : Nat, k + g = X.length ∧ i = .int .i64 k ∧ Own 5 .u8 wr V19.heap.size (.slice A20 X.length c20) (xorK X k) ∧ Kept V19 wr [])
    case atStart => exact ⟨0, by omega, rfl, by rw [xorK_zero]; exact HOW.out, HKE.out⟩
    case round =>
      obtain ⟨k, hk, rfl, hown, hkept⟩ := hrel
      have HKG := Lib.hid hk
      have HOW2 := Lib.hid hown
      have HKE2 := Lib.hid hkept
      clear hkept
      have k0 : (0 : Int) ≤ k := by omega
      by_cases hlt : k < X.length
      · have hlti : (k : Int) < X.length := by omega
        have hd : decide (k < X.length) = true := by simpa using hlt
        have hxa := List.getElem?_eq_getElem hlt
        generalize X[k] = a at hxa
        have hya := xorK_at X k a hxa
        have HXA := Lib.hid hxa
        have kl : k < (xorK X k).length := by rw [xorK_len]; exact hlt
        obtain ⟨bx, hsl, hbx⟩ := hown.sl
        have hne : xorK X k ≠ [] := by intro e; rw [e] at kl; simp at kl
        obtain ⟨hob, hbn⟩ := hbx.resolve_left hne
        have ltw := hsl.lt hne
        obtain ⟨cc, hcc⟩ := hsl.at hne
        have hA : A20 = some ⟨bx, 0, none⟩ := by injection hcc
        subst hA
        have co := hsl.cell hya
        rw [Nat.zero_add] at co
        have fo := hown.free hob k
        have HKL := Lib.hid (And.intro kl (And.intro hbn hob))
        obtain ⟨yv, hyv⟩ : ∃ yv, bits BinOp.xor IntKind.u8 a 1 = yv := ⟨_, rfl⟩
        have HYV := Lib.hid (And.intro hyv trivial)
        clear hxa hya hk hown hsl hbx kl hne hob hbn hcc
        go_wp2_with fail
        go_roundg (gk - 1)
        case measure => have := HKG.out; omega
        case rel =>
          refine ⟨k + 1, by have := HKG.out; omega, by go_num, ?_, HKE2.out.setCell (.inr HKL.out.2.1) _⟩
          rw [← xorK_step X k a HXA.out, HYV.out.1]
          exact HOW2.out.set HKL.out.2.2 k yv HKL.out.1
      · have hkn : k = X.length := by omega
        have hd : decide (k < X.length) = false := by simpa using hlt
        subst hkn
        clear hk hown hlt
        obtain ⟨nx3, s20⟩ := S19.out.own HKE2.out HOW2.out
        have S20 := Lib.hid s20
        clear s20
        go_wp2_with fail
        refine (sess_ops S20.out).mono ?_
        rintro _ wa ⟨rfl, sa⟩
        have SA := Lib.hid sa
        clear sa
        go_wp2_with fail
        refine (sess_fail SA.out (by have := H3.out.2.1; omega) ((d3.ops : Int) + 1 + fail) (by omega) (by have := H3.out.1; have := HO2.out; omega)).mono ?_
        rintro _ wb ⟨rfl, sb⟩
        have SB := Lib.hid sb
        clear sb
        go_wp2_with fail
        refine (sess_writes SB.out).mono ?_
        rintro _ V22 ⟨rfl, s22⟩
        have S22 := Lib.hid s22
        clear s22
        go_wp2_with fail
        refine (HC5.out _ b q _ S22.out _ _ (List.mem_cons_self)).mono ?_
        rintro _ V23 ⟨rfl, s23⟩
        have S23 := Lib.hid s23
        clear s23
        rw [HW5.out.2]
        obtain ⟨⟨r1, r2⟩, _⟩ := HW5.out
        have y12 : IntKind.i64.wrap ((d3.writes : Int) + sp) = (d3.writes : Int) + sp := by have := HSP2.out.1; have := HT.out.2.2; rw [IntKind.wrap_i64]; omega
        have r3 : decide ((d5.writes : Int) ≤ (d3.writes : Int) + sp) = true := by rw [decide_eq_true_iff]; omega
        have HK23 := Lib.hid (S23.out.k.kept (Kept.refl w []) (fun x hx => by have h1 := HS.out.2; omega))
        rcases r1 with rfl | rfl
        all_goals (
          go_wp2_with fail
          refine (sess_writes S23.out).mono ?_
          rintro _ V24 ⟨rfl, s24⟩
          have S24 := Lib.hid s24
          clear s24
          go_wp2_with fail
          go_ret
          exact ⟨_, rfl, rfl, S24.out.k.kept (Kept.refl w []) (fun x hx => by have h1 := HS.out.2; omega)⟩)
  · have t1 := HT.out.1
    have t2 := HT.out.2.1
    simp only [Bool.true_and, Bool.false_and, Bool.not_true, Bool.not_false] at t1 t2
    go_wp2_with fail
    refine (sess_ops S15.out).mono ?_
    rintro _ V16 ⟨rfl, s16⟩
    have S16 := Lib.hid s16
    clear s16
    go_wp2_with fail
    refine (sess_ops S16.out).mono ?_
    rintro _ V17 ⟨rfl, s17⟩
    have S17 := Lib.hid s17
    clear s17
    go_wp2_with fail
    refine (HC4.out _ b q _ S17.out nx _ (List.mem_cons_of_mem _ (List.mem_cons_self))).mono ?_
    rintro _ V18 ⟨rfl, s18⟩
    have S18 := Lib.hid s18
    clear s18
    go_wp2_with fail
    refine (sess_ops S18.out).mono ?_
    rintro _ V19 ⟨rfl, s19⟩
    have hsw := s19.sls _ (List.mem_cons_of_mem _ (List.mem_cons_self))
    simp only at hsw
    obtain ⟨v20, V20, hap, hown, k20⟩ := fresh_copy hsw (by have := HL.out.2.1; have := HL.out.2.2.2; omega)
    obtain ⟨nx2, hsx, hnx⟩ := hown.sl
    obtain ⟨A20, c20, ev⟩ := hsx.form
    subst ev
    have HAP := Lib.hid hap
    have HOW := Lib.hid hown
    have HKE := Lib.hid k20
    have S19 := Lib.hid s19
    clear s19 hsw hap hown hsx hnx k20 t1 t2
    go_wp2_with (first | (at_builtin; refine wpList_append_run rfl _ _ _ rfl rfl rfl HAP.out ?_))
    go_loopg [25] X.length (fun g i wr => ∃ k : Nat, k + g = X.length ∧ i = .int .i64 k ∧ Own 5 .u8 wr V19.heap.size (.slice A20 X.length c20) (xorK X k) ∧ Kept V19 wr [])
    case atStart => exact ⟨0, by omega, rfl, by rw [xorK_zero]; exact HOW.out, HKE.out⟩
    case round =>
      obtain ⟨k, hk, rfl, hown, hkept⟩ := hrel
      have HKG := Lib.hid hk
      have HOW2 := Lib.hid hown
      have HKE2 := Lib.hid hkept
      clear hkept
      have k0 : (0 : Int) ≤ k := by omega
      by_cases hlt : k < X.length
      · have hlti : (k : Int) < X.length := by omega
        have hd : decide (k < X.length) = true := by simpa using hlt
        have hxa := List.getElem?_eq_getElem hlt
        generalize X[k] = a at hxa
        have hya := xorK_at X k a hxa
        have HXA := Lib.hid hxa
        have kl : k < (xorK X k).length := by rw [xorK_len]; exact hlt
        obtain ⟨bx, hsl, hbx⟩ := hown.sl
        have hne : xorK X k ≠ [] := by intro e; rw [e] at kl; simp at kl
        obtain ⟨hob, hbn⟩ := hbx.resolve_left hne
        have ltw := hsl.lt hne
        obtain ⟨cc, hcc⟩ := hsl.at hne
        have hA : A20 = some ⟨bx, 0, none⟩ := by injection hcc
        subst hA
        have co := hsl.cell hya
        rw [Nat.zero_add] at co
        have fo := hown.free hob k
        have HKL := Lib.hid (And.intro kl (And.intro hbn hob))
        obtain ⟨yv, hyv⟩ : ∃ yv, bits BinOp.xor IntKind.u8 a 1 = yv := ⟨_, rfl⟩
        have HYV := Lib.hid (And.intro hyv trivial)
        clear hxa hya hk hown hsl hbx kl hne hob hbn hcc
        go_wp2_with fail
        go_roundg (gk - 1)
        case measure => have := HKG.out; omega
        case rel =>
          refine ⟨k + 1, by have := HKG.out; omega, by go_num, ?_, HKE2.out.setCell (.inr HKL.out.2.1) _⟩
          rw [← xorK_step X k a HXA.out, HYV.out.1]
          exact HOW2.out.set HKL.out.2.2 k yv HKL.out.1
      · have hkn : k = X.length := by omega
        have hd : decide (k < X.length) = false := by simpa using hlt
        subst hkn
        clear hk hown hlt
        obtain ⟨nx3, s20⟩ := S19.out.own HKE2.out HOW2.out
        have S20 := Lib.hid s20
        clear s20
        go_wp2_with fail
        refine (sess_ops S20.out).mono ?_
        rintro _ wa ⟨rfl, sa⟩
        have SA := Lib.hid sa
        clear sa
        go_wp2_with fail
        refine (sess_fail SA.out (by have := H3.out.2.1; omega) ((d3.ops : Int) + 1 + fail) (by omega) (by have := H3.out.1; have := HO2.out; omega)).mono ?_
        rintro _ wb ⟨rfl, sb⟩
        have SB := Lib.hid sb
        clear sb
        go_wp2_with fail
        refine (sess_writes SB.out).mono ?_
        rintro _ V22 ⟨rfl, s22⟩
        have S22 := Lib.hid s22
        clear s22
        go_wp2_with fail
        refine (HC5.out _ b q _ S22.out _ _ (List.mem_cons_self)).mono ?_
        rintro _ V23 ⟨rfl, s23⟩
        have S23 := Lib.hid s23
        clear s23
        rw [HW5.out.2]
        obtain ⟨⟨r1, r2⟩, _⟩ := HW5.out
        have y12 : IntKind.i64.wrap ((d3.writes : Int) + sp) = (d3.writes : Int) + sp := by have := HSP2.out.1; have := HT.out.2.2; rw [IntKind.wrap_i64]; omega
        have r3 : decide ((d5.writes : Int) ≤ (d3.writes : Int) + sp) = true := by rw [decide_eq_true_iff]; omega
        have HK23 := Lib.hid (S23.out.k.kept (Kept.refl w []) (fun x hx => by have h1 := HS.out.2; omega))
        rcases r1 with rfl | rfl
        all_goals (
          go_wp2_with fail
          refine (sess_writes S23.out).mono ?_
          rintro _ V24 ⟨rfl, s24⟩
          have S24 := Lib.hid s24
          clear s24
          go_wp2_with fail
          go_ret
          exact ⟨_, rfl, rfl, S24.out.k.kept (Kept.refl w []) (fun x hx => by have h1 := HS.out.2; omega)⟩)
theorem ShadowWrites_walk (w : World) (hg : GeoLaid w) (e f g : Int) (sz : Int) (v : Value) (l : List Int) (fail : Int) (hs : SliceAt Byte1 1 w w.heap.size v l) (z0 : 0 ≤ sz) (z1 : sz ≤ 255) (j0 : 0 ≤ fail) (j1 : fail ≤ 255) :
    Calls Tryz.prog 5 #[.agg #[.int .i64 e, .int .i64 f, .int .i64 g], .int .u8 sz, v, .int .u8 fail] w (fun e W => e = .returned (.bool true) ∧ Below w.heap.size w W) := by
  obtain ⟨bq, off, hsl, hB, hbq⟩ := Sl.of_at hs
  exact (ShadowWrites_post w hg e f g sz fail v bq off l hsl hB hbq z0 z1 j0 j1).mono fun _ _ ⟨_, h1, h2, h3⟩ => ⟨by rw [h1, h2], h3.below _ (Nat.le_refl _) (by simp)⟩
end Go.Proofs.YtcikhnkehglkgaaGreatDoor
