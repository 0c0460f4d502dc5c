/- PROVED: the walk of ShadowStale. No conditions beyond those that each theorem states. -/
import Derived.Test.YtcikhnkehglkgaaGreatDoorShN
import Derived.Test.YtcikhnkehglkgaaGreatDoorShS
import Derived.Test.YtcikhnkehglkgaaGreatDoorRw
import Derived.Test.YtcikhnkehglkgaaGreatDoorDkLf
namespace Go.Proofs.YtcikhnkehglkgaaGreatDoor
open Go.RowKit Go.Proofs.YtcikhnkehglkgaaGreatDoorLib Go.Shelf
set_option linter.unusedSimpArgs false
set_option linter.unusedVariables false

/-- bytes behind an empty row -/
theorem fresh_copy {W : World} {sv : Value} {bs so : Nat} {l : List Int} (hs : Sl .u8 W sv bs so l) (hl : l.length ≤ 1000000) :
    ∃ v' W', (Builtin.append_ #[27, 27] 27 #[.slice (some ⟨W.heap.size, 0, none⟩) 0 0, sv]).run Tryz.prog (W.alloc (.cells #[] 5)) = .ok v' W' ∧ Own 5 .u8 W' W.heap.size v' l ∧ Kept W W' [] := by
  obtain ⟨i0, hi, hz0, hz1, hz2⟩ := info_parts info8
  have hE : Own 5 .u8 (W.alloc (.cells #[] 5)) W.heap.size (.slice (some ⟨W.heap.size, 0, none⟩) 0 0) [] := World.ownsRow_made (base := W.heap.size) (e := 5) (size := 1) W #[] 0 (Nat.le_refl _) (Nat.zero_le _) rfl
  have kE : Kept W (W.alloc (.cells #[] 5)) [] := (Kept.refl _ _).alloc _
  obtain ⟨v7, w7, hap, ho7, k7⟩ := own_append (P := Tryz.prog) Tryz.underlying27 hi hz0 hz1 hz2 hE (hs.kept kE (.inr (by simp))) (by simp; omega) (by unfold maxLen; simp; omega) (by simp) 27
  rw [List.nil_append] at ho7
  exact ⟨v7, w7, hap, ho7, kE.trans k7 (by simp [Value.ownBlock])⟩
theorem xor8 (a : Int) (h : a = 255 ∨ a = 0) : ∃ y : Int, y ≠ a ∧ 0 ≤ y ∧ y ≤ 255 ∧ bits BinOp.xor IntKind.u8 a 8 = y := by
  rcases h with rfl | rfl
  · exact ⟨247, by decide, by decide, by decide, by kernel_rfl⟩
  · exact ⟨8, by decide, by decide, by decide, by kernel_rfl⟩
theorem facL_head {e f g : Int} (hr : gRight e f g = true) (h : gTotal e f g ≠ 0) : ∃ a, (facL e f g)[0]? = some a ∧ (a = 255 ∨ a = 0) := by
  have hl := facL_len hr
  obtain ⟨a, ha⟩ : ∃ a, (facL e f g)[0]? = some a := ⟨_, List.getElem?_eq_getElem (by omega)⟩
  refine ⟨a, ha, ?_⟩
  have hm := List.mem_of_getElem? ha
  unfold facL at hm
  rcases List.mem_append.1 hm with h | h
  · exact .inl (List.eq_of_mem_replicate h)
  · exact .inr (List.eq_of_mem_replicate h)
set_option maxRecDepth 100000 in
set_option maxHeartbeats 4000000 in
theorem ShadowStale_post (w : World) (hg : GeoLaid w) (e f g sz fail : Int) (z0 : 0 ≤ sz) (z1 : sz ≤ 255) (j0 : 0 ≤ fail) (j1 : fail ≤ 255) :
    Calls Tryz.prog 4 #[.agg #[.int .i64 e, .int .i64 f, .int .i64 g], .int .u8 sz, .int .u8 fail] w (Post w [] fun v W => v = .bool true) := by
  obtain ⟨n, hn⟩ : ∃ n, w.heap.size = n := ⟨_, rfl⟩
  obtain ⟨W1, hW1⟩ : ∃ W1, W1 = w.alloc (.cells #[.int .i64 e, .int .i64 f, .int .i64 g] 23) := ⟨_, rfl⟩
  have bk : Blk W1 n 23 [.int .i64 e, .int .i64 f, .int .i64 g] := by rw [hW1, ← hn]; exact Blk.new _ _ _
  have kw : Kept w W1 [] := by rw [hW1]; exact (Kept.refl w []).alloc _
  have s1 : W1.heap.size = n + 1 := by rw [hW1, World.size_alloc, hn]
  have hg1 := hg.kept kw (by simp)
  have hg0 := hg
  have HAW := Lib.hid (awake07_any W1 hg1)
  have HFE := Lib.hid (fun W => few_any W e f g)
  have HRR := Lib.hid (fun W => rright_any W e f g)
  have HRT := Lib.hid (fun W => rtotal_any W e f g)
  have HB := Lib.hid bk
  have HK := Lib.hid kw
  have HS := Lib.hid (And.intro s1 hn)
  have HG := Lib.hid (And.intro hg1 (show ∀ x, n + 1 ≤ x → nGlobals ≤ x from fun x hx => by have := hg.sz; omega))
  clear bk kw s1 hg1 hg
  cases hF : fewG e f g
  · rw [hF] at HFE
    clear hF
    go_enter Tryz.func4, Tryz.ntmps4
    go_upto_region 1 with fail
    simp only [hn, ← hW1]
    clear hn hW1
    go_wp2_with fail
    refine (HAW.out).mono ?_
    rintro _ V1 ⟨_, rfl, rfl, kv⟩
    have HB1 := Lib.hid (HB.out.kept kv (by simp))
    have HK1 := Lib.hid (HK.out.trans kv (by simp))
    clear kv
    have g0 := HB1.out.cell 0 rfl
    have g1 := HB1.out.cell 1 rfl
    have g2 := HB1.out.cell 2 rfl
    go_wp2_with fail
    refine (HFE.out V1).mono ?_
    rintro _ V2 ⟨_, rfl, rfl, kv⟩
    have HB2 := Lib.hid (HB1.out.kept kv (by simp))
    have HK2 := Lib.hid (HK1.out.trans kv (by simp))
    clear kv g0 g1 g2
    have g0 := HB2.out.cell 0 rfl
    have g1 := HB2.out.cell 1 rfl
    have g2 := HB2.out.cell 2 rfl
    go_wp2_with fail
    refine (HRR.out V2).mono ?_
    rintro _ V3 ⟨_, rfl, rfl, kv⟩
    have HB3 := Lib.hid (HB2.out.kept kv (by simp))
    have HK3 := Lib.hid (HK2.out.trans kv (by simp))
    clear kv g0 g1 g2
    have g0 := HB3.out.cell 0 rfl
    have g1 := HB3.out.cell 1 rfl
    have g2 := HB3.out.cell 2 rfl
    go_wp2_with fail
    go_ret
    exact ⟨_, rfl, rfl, HK3.out⟩
  cases hR : gRight e f g
  · rw [hF] at HFE
    rw [hR] at HRR
    clear hF hR
    go_enter Tryz.func4, Tryz.ntmps4
    go_upto_region 1 with fail
    simp only [hn, ← hW1]
    clear hn hW1
    go_wp2_with fail
    refine (HAW.out).mono ?_
    rintro _ V1 ⟨_, rfl, rfl, kv⟩
    have HB1 := Lib.hid (HB.out.kept kv (by simp))
    have HK1 := Lib.hid (HK.out.trans kv (by simp))
    clear kv
    have g0 := HB1.out.cell 0 rfl
    have g1 := HB1.out.cell 1 rfl
    have g2 := HB1.out.cell 2 rfl
    go_wp2_with fail
    refine (HFE.out V1).mono ?_
    rintro _ V2 ⟨_, rfl, rfl, kv⟩
    have HB2 := Lib.hid (HB1.out.kept kv (by simp))
    have HK2 := Lib.hid (HK1.out.trans kv (by simp))
    clear kv g0 g1 g2
    have g0 := HB2.out.cell 0 rfl
    have g1 := HB2.out.cell 1 rfl
    have g2 := HB2.out.cell 2 rfl
    go_wp2_with fail
    refine (HRR.out V2).mono ?_
    rintro _ V3 ⟨_, rfl, rfl, kv⟩
    have HB3 := Lib.hid (HB2.out.kept kv (by simp))
    have HK3 := Lib.hid (HK2.out.trans kv (by simp))
    clear kv g0 g1 g2
    have g0 := HB3.out.cell 0 rfl
    have g1 := HB3.out.cell 1 rfl
    have g2 := HB3.out.cell 2 rfl
    go_wp2_with fail
    go_ret
    exact ⟨_, rfl, rfl, HK3.out⟩
  have ht5 : gTotal e f g ≤ 500 := by
    unfold fewG at hF
    rw [hR] at hF
    simpa using hF
  rw [hF] at HFE
  rw [hR] at HRR
  by_cases hT : gTotal e f g = 0
  · rw [hT] at HRT
    clear hF hR hT ht5
    go_enter Tryz.func4, Tryz.ntmps4
    go_upto_region 1 with fail
    simp only [hn, ← hW1]
    clear hn hW1
    go_wp2_with fail
    refine (HAW.out).mono ?_
    rintro _ V1 ⟨_, rfl, rfl, kv⟩
    have HB1 := Lib.hid (HB.out.kept kv (by simp))
    have HK1 := Lib.hid (HK.out.trans kv (by simp))
    clear kv
    have g0 := HB1.out.cell 0 rfl
    have g1 := HB1.out.cell 1 rfl
    have g2 := HB1.out.cell 2 rfl
    go_wp2_with fail
    refine (HFE.out V1).mono ?_
    rintro _ V2 ⟨_, rfl, rfl, kv⟩
    have HB2 := Lib.hid (HB1.out.kept kv (by simp))
    have HK2 := Lib.hid (HK1.out.trans kv (by simp))
    clear kv g0 g1 g2
    have g0 := HB2.out.cell 0 rfl
    have g1 := HB2.out.cell 1 rfl
    have g2 := HB2.out.cell 2 rfl
    go_wp2_with fail
    refine (HRR.out V2).mono ?_
    rintro _ V3 ⟨_, rfl, rfl, kv⟩
    have HB3 := Lib.hid (HB2.out.kept kv (by simp))
    have HK3 := Lib.hid (HK2.out.trans kv (by simp))
    clear kv g0 g1 g2
    have g0 := HB3.out.cell 0 rfl
    have g1 := HB3.out.cell 1 rfl
    have g2 := HB3.out.cell 2 rfl
    go_wp2_with fail
    refine (HRT.out V3).mono ?_
    rintro _ V4 ⟨_, rfl, rfl, kv⟩
    have HK4 := Lib.hid (HK3.out.trans kv (by simp))
    clear kv
    go_wp2_with fail
    go_ret
    exact ⟨_, rfl, rfl, HK4.out⟩
  -- the chips are some
  obtain ⟨b1, b2, b3⟩ := freshM_bd sz
  obtain ⟨sp1, sp2⟩ := span_few hR ht5 (freshM sz) b1 (by omega)
  have HFR := Lib.hid (fun W (hg : GeoLaid W) => fresh07_any W hg sz e f g z0 z1 hR ht5)
  have HSP := Lib.hid (fun W => rspan_any W (freshM sz) e f g)
  have hflen := facL_len hR
  have hflb := facL_bts e f g
  obtain ⟨a0, ha0, hav⟩ := facL_head hR hT
  obtain ⟨y, hya, hy0, hy1, hxor⟩ := xor8 a0 hav
  have hw : atWhy (DiskS.new (2 * spanN (freshM sz) e f g + 1) (freshM sz)) 0 e f g = 0 := by
    have e1 : (DiskS.new (2 * spanN (freshM sz) e f g + 1) (freshM sz)).last.length = 2 * spanN (freshM sz) e f g + 1 := by simp [DiskS.new]
    have e2 : (DiskS.new (2 * spanN (freshM sz) e f g + 1) (freshM sz)).size = freshM sz := rfl
    unfold atWhy
    rw [e1, e2, if_neg (by simp [hR]), if_neg (by omega), if_neg (by omega)]
  obtain ⟨d1, i1, k1, hz1, mk1, c1⟩ := format_go (s := DiskS.new (2 * spanN (freshM sz) e f g + 1) (freshM sz)) (fun _ _ => rfl) (by simp [DiskS.new]) (by show freshM sz ≤ 4096; omega) hw (by show (0 : Nat) < _; omega) (by omega)
  have q1 : d1.size = freshM sz := k1.size
  have p1 : ∀ m, d1.plan m = false := fun m => by rw [k1.plan]; rfl
  have hsc : secs (gTotal e f g) (freshM sz) ≤ 500 := Nat.le_trans (secs_le _ _ (by omega)) ht5
  have o1 : d1.ops ≤ 506 := by have h1 := k1.ops; have h2 : (DiskS.new (2 * spanN (freshM sz) e f g + 1) (freshM sz)).ops = 0 := rfl; have h3 : (DiskS.new (2 * spanN (freshM sz) e f g + 1) (freshM sz)).size = freshM sz := rfl; rw [h3] at h1; omega
  obtain ⟨d2, n2, hn2, i2, k2, gt2, wr2, ma2, c2⟩ := open_go i1 (by omega) (by rw [q1]; omega)
  have q2 : d2.size = freshM sz := by rw [k2.size, q1]
  have o2 : d2.ops ≤ 909 := by have := k2.ops; omega
  have p2 : ∀ m, d2.plan m = false := fun m => by rw [k2.plan]; exact p1 m
  have hz2 : d2.get (slotAt d2 1 e f g) = List.replicate d2.size 0 := by rw [gt2, slotAt_kin k2, k2.size]; exact hz1
  generalize hfl : facL e f g = fl at *
  have hxl : (fl.set 0 y).length = gTotal e f g := by rw [List.length_set]; exact hflen
  have hxb : Bts (fl.set 0 y) := by
    intro x hx
    rcases List.mem_or_eq_of_mem_set hx with h | h
    · exact hflb x h
    · omega
  have hxne : fl.set 0 y ≠ fl := by
    intro h
    have h1 : (fl.set 0 y)[0]? = some y := by rw [List.getElem?_set_self (by omega)]
    rw [h, ha0] at h1
    simp only [Option.some.injEq] at h1
    exact hya h1.symm
  obtain ⟨ff, hff⟩ : ∃ ff : Nat, fail = (ff : Int) := ⟨fail.toNat, by omega⟩
  obtain ⟨sp, hsp⟩ : ∃ sp, spanN (freshM sz) e f g = sp := ⟨_, rfl⟩
  have hsp2 : spanN d2.size e f g = sp := by rw [q2]; exact hsp
  have sl := stale_law i2 hz2 p2 hxl hxb (ff % (sp + 2)) (by rw [hsp2]; exact Nat.mod_lt _ (by omega))
  rw [hsp2] at sl
  have em : commitM (d2.fail ((d2.ops : Int) + 1 + (ff % (sp + 2) : Nat))) ⟨fl, 1, 0, false⟩ e f g (fl.set 0 y) = ((layS (d2.fail ((d2.ops : Int) + 1 + (ff % (sp + 2) : Nat))) 1 e f g 2 (fl.set 0 y)).1, ⟨fl, 1, 0, true⟩, 3) := by
    have hwy : commitWhy ⟨fl, 1, 0, false⟩ (fl.set 0 y) = -1 := by
      unfold commitWhy
      rw [if_neg (by simp), if_neg (by simp), if_neg hxne, if_neg (by simp)]
    unfold commitM
    rw [if_neg (by simp [hwy])]
    show (if (layS (d2.fail ((d2.ops : Int) + 1 + (ff % (sp + 2) : Nat))) 1 e f g 2 (fl.set 0 y)).2 ≠ 0 then _ else _) = _
    rw [if_pos (by rw [sl.1]; decide)]
    exact Prod.ext rfl (Prod.ext rfl sl.1)
  generalize layS (d2.fail ((d2.ops : Int) + 1 + (ff % (sp + 2) : Nat))) 1 e f g 2 (fl.set 0 y) = L at *
  obtain ⟨d3, er⟩ := L
  simp only at sl em
  obtain ⟨rfl, o3, q3, h', hh', i3⟩ := sl
  have hm2 : d2.marks = 0 := by rw [ma2, mk1]; rfl
  obtain ⟨d4, n4, hn4, i4, k4, gt4, wr4, ma4, c4⟩ := open_go i3 (by omega) (by rw [q3, q2, hsp]; omega)
  have o4 : d4.ops ≤ 2000 := by have := k4.ops; omega
  obtain ⟨d5, h5, hh5, hs5, c5⟩ := commit_fin (fl := fl) (x := fl.set 0 y) i4 hh' (by omega) (by omega) hxl hxb hxne
  have em2 : ∀ l, commitM d3 ⟨fl, 1, 0, true⟩ e f g l = (d3, ⟨fl, 1, 0, true⟩, 11) := fun l => by
    unfold commitM
    have hwy : commitWhy ⟨fl, 1, 0, true⟩ l = 11 := by unfold commitWhy; rw [if_pos rfl]
    rw [if_pos (by simp [hwy]), hwy]
  have HC1 : Hid (∀ (V : World) (b q : Nat) (L : List (Nat × Value × List Int)) (s : Sess w V n b q e f g (d2.fail ((d2.ops : Int) + 1 + (ff % (sp + 2) : Nat))) ⟨fl, 1, 0, false⟩ L) (bq : Nat) (v : Value) (hm : (bq, v, fl.set 0 y) ∈ L),
      Calls Tryz.prog 21 #[pt q, v] V (fun ee V' => ee = .returned (.int .i64 3) ∧ Sess w V' n b q e f g d3 ⟨fl, 1, 0, true⟩ L)) := Lib.hid (by
    intro V b q L s bq v hm
    have c := sess_commit s (by show d2.ops < _; omega) (by show (0 : Int) ≤ 1; decide) (by show (1 : Int) ≤ _; decide) (by show (-1 : Int) ≤ 0; decide) (by show (0 : Int) ≤ 2; decide) hflb (by show fl.length ≤ _; omega) hm hxb (by omega)
    rw [em] at c
    exact c)
  have HC2 : Hid (∀ (V : World) (b q : Nat) (L : List (Nat × Value × List Int)) (s : Sess w V n b q e f g d3 ⟨fl, 1, 0, true⟩ L) (bq : Nat) (v : Value) (l : List Int) (hm : (bq, v, l) ∈ L) (hb : Bts l) (hl : l.length ≤ 100000),
      Calls Tryz.prog 21 #[pt q, v] V (fun ee V' => ee = .returned (.int .i64 11) ∧ Sess w V' n b q e f g d3 ⟨fl, 1, 0, true⟩ L)) := Lib.hid (by
    intro V b q L s bq v l hm hb hl
    have c := sess_commit s (by omega) (by show (0 : Int) ≤ 1; decide) (by show (1 : Int) ≤ _; decide) (by show (-1 : Int) ≤ 0; decide) (by show (0 : Int) ≤ 2; decide) hflb (by show fl.length ≤ _; omega) hm hb hl
    rw [em2] at c
    exact c)
  have HC5 := Lib.hid (fun (V : World) (b q : Nat) (L : List (Nat × Value × List Int)) (s : Sess w V n b q e f g d4 h' L) (bq : Nat) (v : Value) (hm : (bq, v, fl.set 0 y) ∈ L) =>
    (show Calls Tryz.prog 21 #[pt q, v] V (fun ee V' => ee = .returned (.int .i64 0) ∧ Sess w V' n b q e f g d5 h5 L) by
      obtain ⟨A, a1, a2, a3⟩ := s.ex
      have hng := s.ng
      refine (c5 A V b q v bq 0 a1 s.geo (fun x hx => by have := a2 x hx; omega) (s.sls _ hm) ((a3 _ hm).imp id (fun h => ⟨h.1, h.2.1⟩))).mono ?_
      rintro ee V' ⟨rfl, k, B, h1, h2⟩
      exact ⟨rfl, s.on a2 a3 k h1 h2⟩))
  have HFM := Lib.hid c1
  have HOP := Lib.hid c2
  have HOP4 := Lib.hid c4
  have HMD := Lib.hid (And.intro hm2 o2)
  have HL := Lib.hid (And.intro hflen (And.intro hflb (And.intro hxb (And.intro hxl (show fl ≠ [] by intro e0; rw [e0] at hflen; simp at hflen; omega)))))
  have HX0 := Lib.hid (And.intro ha0 (And.intro hya hy0))
  have HH5 := Lib.hid (And.intro hh5 hs5)
  have HG0 := Lib.hid hg0
  have HGT := Lib.hid ht5
  have HNG : Hid (nGlobals ≤ n) := Lib.hid (by have h1 := hg0.sz; omega)
  rw [hsp] at HSP HFR HFM
  have ht4 : gTotal e f g ≤ 500 := ht5
  have t0 : (((gTotal e f g : Nat) : Int) == 0) = false := by simp; exact hT
  have y1 : sz.tmod 100 = sz % 100 := Int.tmod_eq_emod_of_nonneg z0
  have y2 : IntKind.i64.wrap (sz % 100) = sz % 100 := by rw [IntKind.wrap_i64]; omega
  have y3 : (0 : Int) ≤ sz % 100 := by omega
  have y4 : sz % 100 ≤ 99 := by omega
  have y5 : IntKind.u8.wrap (sz % 100) = sz % 100 := by rw [IntKind.wrap_u8]; omega
  have y6 : IntKind.i64.wrap ((sp : Int) + 2) = (sp : Int) + 2 := by rw [IntKind.wrap_i64]; omega
  have y7 : IntKind.i64.wrap fail = fail := by rw [IntKind.wrap_i64]; omega
  have y8 : fail.tmod ((sp : Int) + 2) = ((ff % (sp + 2) : Nat) : Int) := by rw [hff, Int.tmod_eq_emod_of_nonneg (by omega)]; simp
  have y9 : ¬ ((sp : Int) + 2 = 0) := by omega
  have y10 : IntKind.i64.wrap ((d2.ops : Int) + 1) = (d2.ops : Int) + 1 := by rw [IntKind.wrap_i64]; omega
  have hmod : ff % (sp + 2) < sp + 2 := Nat.mod_lt _ (by omega)
  generalize ff % (sp + 2) = mm at *
  have y11 : IntKind.i64.wrap ((d2.ops : Int) + 1 + (mm : Nat)) = (d2.ops : Int) + 1 + (mm : Nat) := by rw [IntKind.wrap_i64]; omega
  have y12 : IntKind.i64.wrap ((mm : Nat) : Int) = ((mm : Nat) : Int) := by rw [IntKind.wrap_i64]; omega
  have HMB := Lib.hid (And.intro hmod (And.intro (show sp ≤ 17 by omega) b3))
  generalize gTotal e f g = gt at *
  generalize hDN : DiskS.new (2 * sp + 1) (freshM sz) = D0 at *
  clear hF hR hT ht5 b1 b2 sp1 sp2 hflen hflb ha0 hav hya hy0 hy1 hw i1 k1 hz1 mk1 c1 q1 p1 hsc o1 i2 k2 gt2 wr2 ma2 c2 q2 o2 p2 hz2 hxl hxb hxne hsp hsp2 em em2 o3 q3 hh' i3 hm2 i4 k4 gt4 wr4 ma4 c4 o4 hh5 hs5 c5 hmod hfl ht4 z0 z1 hff hDN b3

  go_enter Tryz.func4, Tryz.ntmps4
  go_upto_region 1 with fail
  simp only [hn, ← hW1]
  clear hn hW1
  go_wp2_with fail
  refine (HAW.out).mono ?_
  rintro _ V1 ⟨_, rfl, rfl, kv⟩
  have HB1 := Lib.hid (HB.out.kept kv (by simp))
  have HK1 := Lib.hid (HK.out.trans kv (by simp))
  clear kv
  have g0 := HB1.out.cell 0 rfl
  have g1 := HB1.out.cell 1 rfl
  have g2 := HB1.out.cell 2 rfl
  go_wp2_with fail
  refine (HFE.out V1).mono ?_
  rintro _ V2 ⟨_, rfl, rfl, kv⟩
  have HB2 := Lib.hid (HB1.out.kept kv (by simp))
  have HK2 := Lib.hid (HK1.out.trans kv (by simp))
  clear kv g0 g1 g2
  have g0 := HB2.out.cell 0 rfl
  have g1 := HB2.out.cell 1 rfl
  have g2 := HB2.out.cell 2 rfl
  go_wp2_with fail
  refine (HRR.out V2).mono ?_
  rintro _ V3 ⟨_, rfl, rfl, kv⟩
  have HB3 := Lib.hid (HB2.out.kept kv (by simp))
  have HK3 := Lib.hid (HK2.out.trans kv (by simp))
  clear kv g0 g1 g2
  have g0 := HB3.out.cell 0 rfl
  have g1 := HB3.out.cell 1 rfl
  have g2 := HB3.out.cell 2 rfl
  go_wp2_with fail
  refine (HRT.out V3).mono ?_
  rintro _ V4 ⟨_, rfl, rfl, kv⟩
  have HB4 := Lib.hid (HB3.out.kept kv (by simp))
  have HK4 := Lib.hid (HK3.out.trans kv (by simp))
  clear kv g0 g1 g2
  have g0 := HB4.out.cell 0 rfl
  have g1 := HB4.out.cell 1 rfl
  have g2 := HB4.out.cell 2 rfl
  have HG4 : Hid (GeoLaid V4) := Lib.hid (HG0.out.kept HK4.out (by simp))
  go_wp2_with fail
  refine (HFR.out V4 HG4.out).mono ?_
  rintro _ V5 ⟨_, rfl, ⟨b, F, rfl, hd, hF⟩, kv⟩
  have S5 : St (fun x => n + 1 ≤ x) V5 b D0 := ⟨⟨F, hd, fun x hx => by have h1 := hF x hx; have h2 := HB4.out.lt; omega⟩, fun x hx => by have h1 := kv.size; have h2 := HB4.out.lt; omega⟩
  have HB5 := Lib.hid (HB4.out.kept kv (by simp))
  have HK5 := Lib.hid (KeptA.of0 (A := fun x => n + 1 ≤ x) (HK4.out.trans kv (by simp)))
  have HG5 := Lib.hid (HG4.out.kept kv (by simp))
  have HF5 := Lib.hid (HFM.out _ V5 b S5 HG5.out HG.out.2)
  clear S5 hd hF kv g0 g1 g2
  have g0 := HB5.out.cell 0 rfl
  have g1 := HB5.out.cell 1 rfl
  have g2 := HB5.out.cell 2 rfl
  go_wp2_with fail
  refine HF5.out.mono ?_
  rintro _ V6 ⟨rfl, hS, hK⟩
  have HB6 := Lib.hid (hK.blk HB5.out (by omega))
  have HG6 := Lib.hid (hK.geo HG5.out HG.out.2)
  have HK6 := Lib.hid (HK5.out.trans hK)
  have HO6 := Lib.hid (HOP.out _ V6 b hS HG6.out HG.out.2)
  clear hS hK g0 g1 g2
  have g0 := HB6.out.cell 0 rfl
  have g1 := HB6.out.cell 1 rfl
  have g2 := HB6.out.cell 2 rfl
  go_wp2_with fail
  refine HO6.out.mono ?_
  intro ee V7 hO
  obtain ⟨q, rfl, s7⟩ := sess_start hO HG6.out HB6.out HK6.out HNG.out
  have S7 := Lib.hid s7
  clear hO s7 g0 g1 g2
  go_wp2_with fail
  refine (sess_image S7.out (by show fl.length ≤ _; have := HL.out.1; have := HGT.out; omega)).mono ?_
  rintro _ V8 ⟨v, nb, rfl, s8⟩
  have hsw := s8.sls _ (List.mem_cons_self)
  simp only at hsw
  obtain ⟨cv, hcv⟩ := hsw.at HL.out.2.2.2.2
  subst hcv
  obtain ⟨v9, V9, hap, hown, k9⟩ := fresh_copy hsw (by have := HL.out.1; have := HGT.out; omega)
  obtain ⟨nx, hsx, hnx⟩ := hown.sl
  have hnx' := hnx.resolve_left HL.out.2.2.2.2
  have hxlt := hsx.lt HL.out.2.2.2.2
  obtain ⟨cx, hcx⟩ := hsx.at HL.out.2.2.2.2
  subst hcx
  have hcell : V9.cell? ⟨nx, 0, none⟩ = some (.int .u8 a0) := hsx.cell HX0.out.1
  have hfr : V9.frozen? ⟨nx, 0, none⟩ = false := hown.free hnx'.1 0
  have hlen1 : (0 : Int) < fl.length := by have := HL.out.2.2.2.2; have h0 := List.length_pos_iff.2 this; omega
  have hlen2 : (fl.length : Int) ≤ 500 := by have := HL.out.1; have := HGT.out; omega
  have hown10 := hown.set hnx'.1 0 y (by omega)
  obtain ⟨V10, hV10⟩ : ∃ V10, V10 = V9.setCell ⟨nx, 0, none⟩ (.int .u8 y) := ⟨_, rfl⟩
  have k10 : Kept V9 V10 [nx] := by rw [hV10]; exact (Kept.refl V9 [nx]).setCell (.inl (by simp)) _
  rw [← hV10] at hown10
  obtain ⟨nx', hsx10, hnx10⟩ := hown10.sl
  have hxe : fl.set 0 y ≠ [] := by intro e0; have h1 := congrArg List.length e0; rw [List.length_set] at h1; simp at h1; exact HL.out.2.2.2.2 h1
  have hbe : nx' = nx := by have := (hnx10.resolve_left hxe).1; simpa [Value.ownBlock] using this.symm
  subst hbe
  have S10 := Lib.hid (s8.push k9 ⟨hnx'.2, hxlt⟩ k10 hsx10)
  have HAP := Lib.hid hap
  clear s8 hsw hap hown k9 hsx hnx hnx' hxlt hown10 k10 hsx10 hnx10 hxe
  go_upto_region 16 with (first | (at_builtin; refine wpList_append_run rfl _ _ _ rfl rfl rfl HAP.out ?_))
  rw [← hV10]
  clear hV10 hcell hfr hlen1 hlen2 hxor
  have g0 := S10.out.blk.cell 0 rfl
  have g1 := S10.out.blk.cell 1 rfl
  have g2 := S10.out.blk.cell 2 rfl
  go_wp2_with fail
  rw [← HMB.out.2.2]
  refine (HSP.out _).mono ?_
  rintro _ V11 ⟨_, rfl, rfl, kv⟩
  have S11 := Lib.hid (S10.out.kept0 kv)
  have S12 := Lib.hid (S11.out.kept0 (Kept.refl V11 []).drew)
  clear kv g0 g1 g2
  go_wp2_with fail
  go_region_held3 (fun W => True) (first | trivial | go_keep) (first
    | (go_at_call 25; (with_reducible refine (sess_ops S12.out).mono ?_); rintro _ wa ⟨rfl, sa⟩; have SA := Lib.hid sa; clear sa)
    | (go_at_call 24; (with_reducible refine (sess_fail SA.out (by have := HMD.out; omega) ((d2.ops : Int) + 1 + (mm : Nat)) (by omega) (by have := HMD.out; have := HMB.out; omega)).mono ?_); rintro _ wb ⟨rfl, sb⟩; have SB := Lib.hid sb; clear sb))
  go_wp2_with fail
  refine (HC1.out _ b q _ SB.out _ _ (List.mem_cons_self)).mono ?_
  rintro _ V13 ⟨rfl, s13⟩
  have S13 := Lib.hid s13
  clear s13
  go_wp2_with fail
  refine (sess_ops S13.out).mono ?_
  rintro _ V14 ⟨rfl, s14⟩
  have S14 := Lib.hid s14
  clear s14
  go_wp2_with fail
  refine (HC2.out _ b q _ S14.out _ _ _ (List.mem_cons_self) HL.out.2.2.1 (by have := HL.out.2.2.2.1; have := HGT.out; omega)).mono ?_
  rintro _ V15 ⟨rfl, s15⟩
  have S15 := Lib.hid s15
  clear s15
  go_wp2_with fail
  refine (HC2.out _ b q _ S15.out _ _ _ (List.mem_cons_of_mem _ (List.mem_cons_self)) HL.out.2.1 (by have := HL.out.1; have := HGT.out; omega)).mono ?_
  rintro _ V16 ⟨rfl, s16⟩
  have S16 := Lib.hid s16
  clear s16
  go_wp2_with fail
  refine (sess_ops S16.out).mono ?_
  rintro _ V17 ⟨rfl, s17⟩
  have S17 := Lib.hid s17
  clear s17
  go_wp2_with fail
  refine (sess_stale S17.out).mono ?_
  rintro _ _ ⟨rfl, rfl⟩
  go_wp2_with fail
  refine (sess_image S17.out (by show fl.length ≤ _; have := HL.out.1; have := HGT.out; omega)).mono ?_
  rintro _ V18 ⟨v18, nb18, rfl, s18⟩
  have S18 := Lib.hid s18
  clear s18
  go_wp2_with fail
  refine (same_any V18 _ _ nb18 0 nb 0 fl fl (S18.out.sls _ (List.mem_cons_self)) (S18.out.sls _ (List.mem_cons_of_mem _ (List.mem_cons_of_mem _ (List.mem_cons_self))))).mono ?_
  rintro _ V19 ⟨_, rfl, rfl, kv⟩
  have S19 := Lib.hid (S18.out.kept0 kv)
  clear kv
  rw [decide_eq_true rfl]
  go_wp2_with fail
  refine (sess_seq S19.out).mono ?_
  rintro _ _ ⟨rfl, rfl⟩
  have g0 := S19.out.blk.cell 0 rfl
  have g1 := S19.out.blk.cell 1 rfl
  have g2 := S19.out.blk.cell 2 rfl
  go_wp2_with fail
  refine (sess_open S19.out HOP4.out).mono ?_
  rintro _ V20 ⟨q', rfl, s20⟩
  have S20 := Lib.hid s20
  clear s20 g0 g1 g2
  go_wp2_with fail
  refine (HC5.out _ b q' _ S20.out _ _ (List.mem_cons_of_mem _ (List.mem_cons_self))).mono ?_
  rintro _ V21 ⟨rfl, s21⟩
  have S21 := Lib.hid s21
  clear s21
  go_wp2_with fail
  refine (sess_stale S21.out).mono ?_
  rintro _ _ ⟨rfl, rfl⟩
  rw [HH5.out.2]
  go_wp2_with fail
  refine (sess_image S21.out (by rw [HH5.out.1]; have := HL.out.2.2.2.1; have := HGT.out; omega)).mono ?_
  rintro _ V22 ⟨v22, nb22, rfl, s22⟩
  have S22 := Lib.hid s22
  clear s22
  go_wp2_with fail
  refine (same_any V22 _ _ nb22 0 nx' 0 h5.now (fl.set 0 y) (S22.out.sls _ (List.mem_cons_self)) (S22.out.sls _ (List.mem_cons_of_mem _ (List.mem_cons_of_mem _ (List.mem_cons_self))))).mono ?_
  rintro _ V23 ⟨_, rfl, rfl, kv⟩
  have S23 := Lib.hid (S22.out.kept0 kv)
  clear kv
  rw [decide_eq_true HH5.out.1]
  go_wp2_with fail
  go_ret
  exact ⟨_, rfl, rfl, S23.out.k.kept (Kept.refl w []) (fun x hx => by have h1 := HS.out.2; omega)⟩
theorem ShadowStale_walk (w : World) (hg : GeoLaid w) (e f g sz fail : Int) (z0 : 0 ≤ sz) (z1 : sz ≤ 255) (j0 : 0 ≤ fail) (j1 : fail ≤ 255) :
    Calls Tryz.prog 4 #[.agg #[.int .i64 e, .int .i64 f, .int .i64 g], .int .u8 sz, .int .u8 fail] w (fun e W => e = .returned (.bool true) ∧ Below w.heap.size w W) :=
  (ShadowStale_post w hg e f g sz fail z0 z1 j0 j1).mono fun _ _ ⟨_, h1, h2, h3⟩ => ⟨by rw [h1, h2], h3.below _ (Nat.le_refl _) (by simp)⟩
end Go.Proofs.YtcikhnkehglkgaaGreatDoor
