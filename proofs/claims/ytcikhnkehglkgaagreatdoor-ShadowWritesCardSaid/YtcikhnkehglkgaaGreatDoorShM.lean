/- PROVED: the contracts of keepsakelaw07.fresh and awake. No conditions beyond those that each theorem states. -/
import Derived.Test.YtcikhnkehglkgaaGreatDoorShL
import Derived.Test.YtcikhnkehglkgaaGreatDoorSlSf
import Derived.Test.YtcikhnkehglkgaaGreatDoorSlGr
import Derived.Test.YtcikhnkehglkgaaGreatDoorSame
namespace Go.Proofs.YtcikhnkehglkgaaGreatDoor
open Go.RowKit Go.Proofs.YtcikhnkehglkgaaGreatDoorLib Go.Shelf
set_option linter.unusedSimpArgs false
set_option linter.unusedVariables false

set_option maxRecDepth 100000 in
set_option maxHeartbeats 1000000 in
theorem fresh07_any (w : World) (hg : GeoLaid w) (sz e f g : Int) (z0 : 0 ≤ sz) (z1 : sz ≤ 255) (hr : gRight e f g = true) (ht : gTotal e f g ≤ 500) :
    Calls Tryz.prog 13 #[.int .u8 sz, .agg #[.int .i64 e, .int .i64 f, .int .i64 g]] w (Post w [] fun r W => ∃ b F, r = pt b ∧ DiskAt W b F (DiskS.new (2 * spanN (freshM sz) e f g + 1) (freshM sz)) ∧ ∀ x, x ∈ F → w.heap.size ≤ x) := by
  obtain ⟨b1, b2, b3⟩ := freshM_bd sz
  obtain ⟨sp1, sp2⟩ := span_few hr ht (freshM sz) b1 (by omega)
  have HR := Lib.hid (rspan_any (w.alloc (.cells #[.int .i64 e, .int .i64 f, .int .i64 g] 23)) (freshM sz) e f g)
  generalize hk : spanN (freshM sz) e f g = k at *
  have HN := Lib.hid (fun W => new_yes W (2 * k + 1 : Nat) (freshM sz) ⟨by omega, by omega, by omega, by omega⟩)
  rw [show (((2 * k + 1 : Nat) : Int)).toNat = 2 * k + 1 from rfl, show ((freshM sz : Int)).toNat = freshM sz from rfl] at HN
  have y1 : sz.tmod 100 = sz % 100 := Int.tmod_eq_emod_of_nonneg z0
  have y2 : IntKind.i64.wrap (sz % 100) = sz % 100 := by rw [IntKind.wrap_i64]; omega
  have y3 : (0 : Int) ≤ sz % 100 := by omega
  have y4 : sz % 100 ≤ 99 := by omega
  have y5 : IntKind.u8.wrap (sz % 100) = sz % 100 := by rw [IntKind.wrap_u8]; omega
  have y6 : IntKind.i64.wrap (2 * (k : Int)) = 2 * (k : Int) := by rw [IntKind.wrap_i64]; omega
  have y7 : IntKind.i64.wrap (2 * (k : Int) + 1) = ((2 * k + 1 : Nat) : Int) := by rw [IntKind.wrap_i64]; omega
  have HB3 := Lib.hid (And.intro b3 trivial)
  generalize freshM sz = m at *
  clear b1 b2 sp1 sp2 hg hr ht hk b3
  go_enter Tryz.func13, Tryz.ntmps13
  go_wp2_with fail
  rw [← HB3.out.1]
  refine HR.out.mono ?_
  rintro _ w1 ⟨_, rfl, rfl, k1⟩
  have K1 := Lib.hid (((Kept.refl w []).alloc (.cells #[.int .i64 e, .int .i64 f, .int .i64 g] 23)).trans k1 (by simp))
  have HN1 := Lib.hid (HN.out w1)
  clear k1 HR
  go_wp2_with fail
  refine HN1.out.mono ?_
  rintro _ w2 ⟨_, rfl, ⟨b, F, rfl, hd, hF⟩, k2⟩
  have H := Lib.hid (And.intro hd (And.intro hF k2))
  clear hd hF k2 HN1
  go_wp2_with fail
  go_ret
  exact ⟨_, rfl, ⟨b, F, rfl, H.out.1, fun x hx => Nat.le_trans K1.out.size (H.out.2.1 x hx)⟩, K1.out.trans H.out.2.2 (by simp)⟩
set_option maxRecDepth 100000 in
set_option maxHeartbeats 2000000 in
theorem awake07_any (w : World) (hg : GeoLaid w) : Calls Tryz.prog 10 #[] w (Post w [] fun v _ => v = .bool true) := by
  have hw : atWhy (DiskS.new 6 32) 0 0 0 1 = 0 := by decide
  obtain ⟨d1, i1, k1, _, _, c1⟩ := format_go (s := DiskS.new 6 32) (e := 0) (f := 0) (g := 1) (fun _ _ => rfl) (by decide) (by decide) hw (by decide) (by decide)
  have ho1 : d1.ops ≤ 8 := by have := k1.ops; have e1 : (DiskS.new 6 32).ops = 0 := rfl; have e2 : secs (gTotal 0 0 1) (DiskS.new 6 32).size + 6 = 8 := by decide
                              omega
  have z1 : d1.size = 32 := k1.size
  have hfl : facL 0 0 1 = List.replicate 64 0 := by decide
  obtain ⟨d2, n2, hn2, i2, k2, g2, wr2, ma2, c2⟩ := open_go i1 (by omega) (by rw [z1]; decide)
  have ho2 : d2.ops ≤ 411 := by have := k2.ops; omega
  have hbt : Bts ((List.replicate 64 (0 : Int)).set 3 1) := by
    intro x hx
    rcases List.mem_or_eq_of_mem_set hx with h | h
    · have := List.eq_of_mem_replicate h; omega
    · omega
  have hne : (List.replicate 64 (0 : Int)).set 3 1 ≠ facL 0 0 1 := by rw [hfl]; decide
  obtain ⟨d3, i3, k3, _, c3⟩ := commit_go i2 (by omega) (by decide) (l := (List.replicate 64 (0 : Int)).set 3 1) (by decide) hbt hne (by show (1 : Int) < _; decide)
  rw [hfl] at i1 c2 i2 c3
  have hflen : (List.replicate 64 (0 : Int)).length = 64 := by decide
  have hflne : List.replicate 64 (0 : Int) ≠ [] := by decide
  have ho3 : d3.ops ≤ 500 := by have := k3.ops; have e1 : secs ((List.replicate 64 (0 : Int)).set 3 1).length d2.size ≤ 64 := by rw [List.length_set, List.length_replicate]; exact secs_le _ _ (by rw [k2.size, z1]; decide)
                                omega
  clear hne hfl hbt
  generalize List.replicate 64 (0 : Int) = fl at *
  have HFL := Lib.hid (And.intro hflen hflne)
  obtain ⟨n, hn⟩ : ∃ n, w.heap.size = n := ⟨_, rfl⟩
  obtain ⟨W1, hW1⟩ : ∃ W1, W1 = w.alloc (.cells #[.int .i64 0, .int .i64 0, .int .i64 1] 23) := ⟨_, rfl⟩
  have bk : Blk W1 n 23 [.int .i64 0, .int .i64 0, .int .i64 1] := by rw [hW1, ← hn]; exact Blk.new _ _ _
  have kw : Kept w W1 [] := by rw [hW1]; exact (Kept.refl w []).alloc _
  have s1 : W1.heap.size = n + 1 := by rw [hW1, World.size_alloc, hn]
  have HN := Lib.hid (new_yes W1 6 32 ⟨by omega, by omega, by omega, by omega⟩)
  have HC := Lib.hid (And.intro c1 (And.intro c2 c3))
  have HG := Lib.hid (And.intro (hg.kept kw (by simp)) (show ∀ x, n + 1 ≤ x → nGlobals ≤ x from fun x hx => by have := hg.sz; omega))
  have HB := Lib.hid bk
  have HS := Lib.hid (And.intro s1 (And.intro hn kw))
  have HI := Lib.hid (And.intro i2 i3)
  clear hw i1 k1 c1 ho1 z1 i2 k2 g2 wr2 ma2 c2 ho2 i3 k3 c3 ho3 hg kw hn2 hflen hflne
  go_enter Tryz.func10, Tryz.ntmps10
  go_upto_region 2 with fail
  simp only [hn, ← hW1]
  clear hn hW1 s1
  have g0 := bk.cell 0 rfl
  have g1 := bk.cell 1 rfl
  have g2 := bk.cell 2 rfl
  clear bk
  go_wp2_with fail
  refine HN.out.mono ?_
  rintro _ V2 ⟨_, rfl, ⟨b, F, rfl, hd, hF⟩, kv⟩
  have hA : ∀ x, n + 1 ≤ x → nGlobals ≤ x := HG.out.2
  have S2 : St (fun x => n + 1 ≤ x) V2 b (DiskS.new 6 32) := ⟨⟨F, hd, fun x hx => by have h1 := hF x hx; have h2 := HS.out.1; omega⟩, fun x hx => by have h1 := kv.size; have h2 := HS.out.1; omega⟩
  have HB2 := Lib.hid (HB.out.kept kv (by simp))
  have HK2 := Lib.hid (HS.out.2.2.trans kv (by simp))
  have HF := Lib.hid (HC.out.1 _ V2 b S2 (HG.out.1.kept kv (by simp)) HG.out.2)
  have HG2 := Lib.hid (HG.out.1.kept kv (by simp))
  clear S2 hA hd hF kv g0 g1 g2
  have g0 := HB2.out.cell 0 rfl
  have g1 := HB2.out.cell 1 rfl
  have g2 := HB2.out.cell 2 rfl
  go_wp2_with fail
  refine HF.out.mono ?_
  rintro _ V3 ⟨rfl, hS, hK⟩
  have HB3 := Lib.hid (hK.blk HB2.out (by omega))
  have HG3 := Lib.hid (hK.geo HG2.out HG.out.2)
  have HK3 := Lib.hid ((KeptA.of0 (A := fun x => n + 1 ≤ x) HK2.out).trans hK)
  have HO := Lib.hid (HC.out.2.1 _ V3 b hS HG3.out HG.out.2)
  clear hS hK g0 g1 g2
  have g0 := HB3.out.cell 0 rfl
  have g1 := HB3.out.cell 1 rfl
  have g2 := HB3.out.cell 2 rfl
  go_wp2_with fail
  refine HO.out.mono ?_
  rintro _ V4 ⟨hK, q, bq, rfl, hX, hq1, hq2⟩
  have HX4 := Lib.hid hX
  have HB4 := Lib.hid (show n < V4.heap.size from Nat.lt_of_lt_of_le HB3.out.lt hK.size)
  have HK4 := Lib.hid (HK3.out.trans hK)
  have HG4 := Lib.hid (hK.geo HG3.out HG.out.2)
  have HIM := Lib.hid (image_x hX (by show fl.length ≤ 1000000; have := HFL.out.1; omega))
  have HQ1 := Lib.hid (And.intro hq1 (And.intro hX.qlt HK3.out.size))
  clear hK hX hq1 hq2 g0 g1 g2
  go_wp2_with fail
  refine HIM.out.mono ?_
  rintro _ V5 ⟨v, nb, rfl, hown, hsl, hnb, kv⟩
  have hnb' := hnb.resolve_left HFL.out.2
  obtain ⟨cv, hcv⟩ := hsl.at HFL.out.2
  rw [HFL.out.1] at hcv
  subst hcv
  have hfr := hown.free hnb'.1 3
  have hc3 : ∃ x, fl[3]? = some x := ⟨_, List.getElem?_eq_getElem (by have := HFL.out.1; omega)⟩
  obtain ⟨x3, hx3⟩ := hc3
  have hcell := hsl.cell hx3
  have hown6 := hown.set hnb'.1 3 1 (by have := HFL.out.1; omega)
  obtain ⟨W6, hW6⟩ : ∃ W6, W6 = V5.setCell ⟨nb, 3, none⟩ (.int .u8 1) := ⟨_, rfl⟩
  have k6 : Kept V5 W6 [nb] := by rw [hW6]; exact (Kept.refl V5 [nb]).setCell (.inl (by simp)) _
  rw [← hW6] at hown6
  have HX6 := Lib.hid (HX4.out.own_turn kv nb hnb'.2 k6)
  obtain ⟨nb6, hsl6, hnb6⟩ := hown6.sl
  have hne6 : fl.set 3 1 ≠ [] := by intro e; have h := congrArg List.length e; rw [List.length_set, HFL.out.1] at h; cases h
  have hbe : nb6 = nb := by have := (hnb6.resolve_left hne6).1; simpa [Value.ownBlock] using this.symm
  subst hbe
  have HS6 := Lib.hid (And.intro hsl6 hne6)
  have hn4 : n + 1 ≤ V4.heap.size := by have h1 := HB4.out; omega
  have HK6 := Lib.hid ((HK4.out.trans (KeptA.of0 kv)).trans (KeptA.of (A := fun x => n + 1 ≤ x) k6 (fun x hx => by simp at hx; subst hx; have h3 := hnb'.2.1; omega)))
  have HG6 := Lib.hid ((HG4.out.kept kv (by simp)).kept k6 (fun x hx => by simp at hx; subst hx; exact HG.out.2 _ (by have h3 := hnb'.2.1; omega)))
  have HX5 := Lib.hid (HX4.out.kept0 kv)
  have HNB := Lib.hid (show nb6 ≠ q by have h1 := HQ1.out.2.1; have h2 := hnb'.2.1; omega)
  have hq3 : n + 1 ≤ q := by have h1 := HQ1.out.1; have h2 := HB3.out.lt; omega
  have HCO := Lib.hid (HC.out.2.2 _ W6 b q _ nb6 0 HX6.out HG6.out (fun x hx => HG.out.2 x hx.1.1) hsl6 (.inr ⟨fun hx => hx.2.elim (fun h => h rfl) id, HNB.out⟩))
  have HQ3 := Lib.hid hq3
  have hcell' : V5.cell? ⟨nb6, 3, none⟩ = some (.int .u8 x3) := hcell
  clear hnb hnb' hown hsl hcell hx3 hown6 hsl6 hnb6 kv k6 hn4 hq3 hne6
  go_wp2_with fail
  refine (seq_x HX5.out).mono ?_
  rintro _ _ ⟨rfl, rfl⟩
  go_wp2_with fail
  refine (which_x HX5.out).mono ?_
  rintro _ _ ⟨rfl, rfl⟩
  go_upto_region 13 with fail
  rw [← hW6]
  clear hW6 hcell' hfr
  go_wp2_with fail
  refine HCO.out.mono ?_
  rintro _ V7 ⟨rfl, hK7, B, hBA, hX7⟩
  have HX7 := Lib.hid hX7
  have HS7 := Lib.hid (hK7.sl HS6.out.1 (.inr (fun hx => hx.elim (fun h => h.2.elim (fun h => h rfl) id) (fun h => HNB.out h))))
  have HK7 := Lib.hid (HK6.out.trans (hK7.mono (fun x hx => hx.elim (fun h => h.1.1) (fun h => by subst h; exact HQ3.out))))
  have HIM7 := Lib.hid (image_x hX7 (by show (fl.set 3 1).length ≤ 1000000; rw [List.length_set]; have := HFL.out.1; omega))
  clear hK7 hBA hX7
  go_wp2_with fail
  refine (seq_x HX7.out).mono ?_
  rintro _ _ ⟨rfl, rfl⟩
  go_wp2_with fail
  refine (which_x HX7.out).mono ?_
  rintro _ _ ⟨rfl, rfl⟩
  go_wp2_with fail
  refine HIM7.out.mono ?_
  rintro _ V8 ⟨v8, nb8, rfl, _, hsl8, _, k8⟩
  have HS8 := Lib.hid (And.intro hsl8 (And.intro (HS7.out.kept k8 (.inr (by simp))) k8))
  have HX8 := Lib.hid (HX7.out.kept0 k8)
  clear hsl8 k8
  go_wp2_with fail
  refine (same_any V8 _ _ nb8 0 nb6 0 _ _ HS8.out.1 HS8.out.2.1).mono ?_
  rintro _ V9 ⟨_, rfl, rfl, k9⟩
  have HX9 := Lib.hid (And.intro (HX8.out.kept0 k9) k9)
  clear k9
  rw [decide_eq_true rfl]
  go_wp2_with fail
  refine (stale_x HX9.out.1).mono ?_
  rintro _ _ ⟨rfl, rfl⟩
  go_wp2_with fail
  go_ret
  exact ⟨_, rfl, rfl, ((HK7.out.trans (KeptA.of0 HS8.out.2.2)).trans (KeptA.of0 HX9.out.2)).kept (Kept.refl w []) (fun x hx => by have h1 := HS.out.2.1; omega)⟩
end Go.Proofs.YtcikhnkehglkgaaGreatDoor
