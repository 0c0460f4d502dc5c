/- PROVED: the walk of SlotApart. No conditions beyond those that each theorem states. -/
import Derived.Test.YtlglbgemmljmlaaDoorSlY
namespace Go.Proofs.YtlglbgemmljmlaaDoor
open Go.RowKit Go.Proofs.YtlglbgemmljmlaaDoorLib
set_option linter.unusedSimpArgs false
set_option linter.unusedVariables false

set_option maxRecDepth 100000 in
set_option maxHeartbeats 1500000 in
theorem apartY (w : World) (hg : GeoLaid w) (e f g : Int) (v vc : Value) (bq off bq2 off2 : Nat) (l c : List Int) (sz fl : Int) (second : Bool) (tv : Value) (ts : List (Int × List Int)) (hsl : Sl .u8 w v bq off l) (hB : Bts l) (hbq : l = [] ∨ bq < w.heap.size) (hsc : Sl .u8 w vc bq2 off2 c) (hBc : Bts c) (hbc : c = [] ∨ bq2 < w.heap.size) (htv : SliceAt (TearK w.heap.size) 2 w w.heap.size tv ts) (z0 : 0 ≤ sz) (z1 : sz ≤ 255) (f0 : 0 ≤ fl) (f1 : fl ≤ 255) (hr : gRight e f g = true) (ht : gTotal e f g ≤ 500) (hl : l.length = gTotal e f g) (hc : c.length = gTotal e f g) :
    Calls Tryd.prog 7 #[.agg #[.int .i64 e, .int .i64 f, .int .i64 g], v, vc, .int .u8 sz, .bool second, .int .u8 fl, tv] w (Post w [] fun r W => r = .bool true) := by
  obtain ⟨m1, m2, m3⟩ := freshM_bd sz
  obtain ⟨sp1, sp2⟩ := span_few hr ht (freshM sz) m1 (by omega)
  obtain ⟨one, two, hot, hwb⟩ : ∃ one two : Int, ((one = 0 ∧ two = 1) ∨ (one = 1 ∧ two = 0)) ∧ one = (if second = true then 1 else 0) ∧ two = (if second = true then 0 else 1) := by
    cases second
    · exact ⟨0, 1, .inl ⟨rfl, rfl⟩, rfl, rfl⟩
    · exact ⟨1, 0, .inr ⟨rfl, rfl⟩, rfl, rfl⟩
  have hlaw := apart_law (m := freshM sz) ⟨m1, by omega⟩ hr hot hl hc hB ts fl.toNat
  rw [show ((fl.toNat : Nat) : Int) = fl by omega] at hlaw
  have HFR := Lib.hid (fun W (hg : GeoLaid W) => fresh_any W hg sz e f g z0 z1 hr ht)
  have HSP0 : spanN (freshM sz) e f g ≤ 201 := by omega
  generalize freshM sz = m at *
  have HSP := Lib.hid HSP0
  obtain ⟨d1, s2, y, D, S, Wd, rd, rs, rw', e1, e2, e3, e4, e5, e6, o1, o2, o3, o4, o5, o6, o7, o8, hfin⟩ := hlaw
  have HM := Lib.hid (And.intro e1 (And.intro e2 (And.intro e3 (And.intro e4 (And.intro e5 e6)))))
  have HO := Lib.hid (And.intro o1 (And.intro o2 (And.intro o3 (And.intro o4 (And.intro o5 (And.intro o6 (And.intro o7 o8)))))))
  have HSL := Lib.hid hsl
  have HSC := Lib.hid hsc
  have HBT := Lib.hid hB
  have HBU := Lib.hid hBc
  have HBQ := Lib.hid hbq
  have HBC := Lib.hid hbc
  have HTT := Lib.hid htv
  have hfew : fewG e f g = true := by unfold fewG; simp [hr]; omega
  have x8 : IntKind.i64.wrap fl = fl := by rw [IntKind.wrap_i64]; omega
  have tl : ((l.length : Int) != (l.length : Int)) = false := by simp
  have tc : ((c.length : Int) != (l.length : Int)) = false := by simp; omega
  obtain ⟨Av, cv, ev⟩ := hsl.form
  subst ev
  obtain ⟨Au, cu, ev⟩ := hsc.form
  subst ev
  obtain ⟨At, ct, ev, _, _, _⟩ := id htv
  subst ev
  have ll := hsl.len
  unfold maxLen at ll
  have lc := hsc.len
  unfold maxLen at lc
  have l0 : (0 : Int) ≤ l.length := by omega
  have l1 : (l.length : Int) ≤ 9223372036854775807 := by omega
  have m0' : (0 : Int) ≤ c.length := by omega
  have m1' : (c.length : Int) ≤ 9223372036854775807 := by omega
  have hb0 := Blk.new w 23 [.int .i64 e, .int .i64 f, .int .i64 g]
  have k0 : Kept w (w.alloc (.cells #[.int .i64 e, .int .i64 f, .int .i64 g] 23)) [] := (Kept.refl w []).alloc _
  have HAW := Lib.hid (awake_any _ (hg.alloc (.cells #[.int .i64 e, .int .i64 f, .int .i64 g] 23)))
  have HFE := Lib.hid (fun W => few_any W e f g)
  have HRR := Lib.hid (fun W => rright_any W e f g)
  have HRT := Lib.hid (fun W => rtotal_any W e f g)
  have HG := Lib.hid hg
  have HB0 := Lib.hid hb0
  have K0 := Lib.hid k0
  rw [hfew] at HFE
  rw [hr] at HRR
  rw [← hl] at HRT
  clear hg hsl hsc hB hBc hbq hbc htv hb0 k0 hr ht hl hc m1 m2 m3 sp1 sp2 hfew ll lc hot e1 e2 e3 e4 e5 e6 o1 o2 o3 o4 o5 o6 o7 o8 HSP0
  rcases hfin with ⟨k1, hR⟩ | ⟨k1, k2, hR, hRo, hRs, hR2⟩
  · have HR1 := Lib.hid (And.intro hR trivial)
    clear hR
    cases second
    all_goals (
      simp only [Bool.false_eq_true, if_false, if_true] at hwb
      have HW1 := Lib.hid hwb
      clear hwb
      go_enter Tryd.func7, Tryd.ntmps7
      go_wp2_with fail
      refine (HAW.out).mono ?_
      rintro _ x1 ⟨_, rfl, rfl, kx1⟩
      have hbx1 := (HB0.out).kept kx1 (by simp)
      have KX1 := Lib.hid (K0.out.trans kx1 (by simp))
      have g10 := hbx1.cell 0 rfl
      have g11 := hbx1.cell 1 rfl
      have g12 := hbx1.cell 2 rfl
      clear kx1
      go_wp2_with fail
      refine (HFE.out x1).mono ?_
      rintro _ x2 ⟨_, rfl, rfl, kx2⟩
      have hbx2 := (hbx1).kept kx2 (by simp)
      have KX2 := Lib.hid (KX1.out.trans kx2 (by simp))
      have g20 := hbx2.cell 0 rfl
      have g21 := hbx2.cell 1 rfl
      have g22 := hbx2.cell 2 rfl
      clear kx2
      clear g10 g11 g12
      go_wp2_with fail
      refine (HRR.out x2).mono ?_
      rintro _ x3 ⟨_, rfl, rfl, kx3⟩
      have hbx3 := (hbx2).kept kx3 (by simp)
      have KX3 := Lib.hid (KX2.out.trans kx3 (by simp))
      have g30 := hbx3.cell 0 rfl
      have g31 := hbx3.cell 1 rfl
      have g32 := hbx3.cell 2 rfl
      clear kx3
      clear g20 g21 g22
      go_wp2_with fail
      refine (HRT.out x3).mono ?_
      rintro _ x4 ⟨_, rfl, rfl, kx4⟩
      have hbx4 := (hbx3).kept kx4 (by simp)
      have KX4 := Lib.hid (KX3.out.trans kx4 (by simp))
      have g40 := hbx4.cell 0 rfl
      have g41 := hbx4.cell 1 rfl
      have g42 := hbx4.cell 2 rfl
      clear kx4
      clear g30 g31 g32
      obtain ⟨xo, hxo⟩ : ∃ xo, xo = x4.alloc (.cells #[.int .u8 0, .int .i64 0, .int .u64 0, .slice none 0 0, .int .u8 0, .slice At ts.length ct] 58) := ⟨_, rfl⟩
      have kxo : Kept x4 xo [] := by rw [hxo]; exact (Kept.refl x4 []).alloc _
      have hbo : Blk xo x4.heap.size 58 [.int .u8 0, .int .i64 0, .int .u64 0, .slice none 0 0, .int .u8 0, .slice At ts.length ct] := by rw [hxo]; exact Blk.new _ _ _
      have HFO := Lib.hid (few_one xo x4.heap.size w.heap.size w.heap.size _ ts hbo (HTT.out.kept (KX4.out.trans kxo (by simp)) (Nat.le_refl _) (by simp) (fun _ _ h => h.kept (KX4.out.trans kxo (by simp)) (Nat.le_refl _) (by simp))))
      have HXO := Lib.hid (And.intro hxo trivial)
      go_wp2_with fail
      rw [← HXO.out.1]
      refine HFO.out.mono ?_
      rintro _ x5 ⟨_, rfl, ⟨sm, rfl⟩, kx5⟩
      have hbx5 := (hbx4.kept kxo (by simp)).kept kx5 (by simp)
      have KX5 := Lib.hid ((KX4.out.trans kxo (by simp)).trans kx5 (by simp))
      have g50 := hbx5.cell 0 rfl
      have g51 := hbx5.cell 1 rfl
      have g52 := hbx5.cell 2 rfl
      clear kx5 kxo hbo hxo HXO HFO g40 g41 g42
      have HFR1 := Lib.hid (HFR.out x5 (HG.out.kept KX5.out (by simp)))
      have hplt := hbx5.lt
      cases sm
      · go_wp2_with fail
        refine HFR1.out.mono ?_
        rintro _ V0 ⟨_, rfl, ⟨b, F, rfl, hd, hF⟩, kx6⟩
        have KZ := Lib.hid (KX5.out.trans kx6 (by simp))
        clear hd hF kx6 HFR1
        go_wp2_with fail
        go_ret
        exact ⟨_, rfl, rfl, KZ.out⟩
      go_wp2_with fail
      refine HFR1.out.mono ?_
      rintro _ V0 ⟨_, rfl, ⟨b, F, rfl, hd, hF⟩, kx6⟩
      have hbx6 := hbx5.kept kx6 (by simp)
      have hst0 : St (fun x => x5.heap.size ≤ x) V0 b (DiskS.new (2 * spanN m e f g) m) := ⟨⟨F, hd, hF⟩, fun x hx => Nat.le_trans kx6.size hx⟩
      obtain ⟨A0, hA0⟩ : ∃ A : Nat → Prop, A = fun x => x5.heap.size ≤ x := ⟨_, rfl⟩
      rw [← hA0] at hst0
      have HST0 := Lib.hid hst0
      have HK0 := Lib.hid (KeptA.refl A0 V0)
      have HP := Lib.hid hbx6
      have HPA : Hid (¬ A0 w.heap.size) := Lib.hid (by rw [hA0]; intro h; have h' : x5.heap.size ≤ w.heap.size := h; omega)
      have kv0 := KX5.out.trans kx6 (by simp)
      have hlo : ∀ x, A0 x → w.heap.size ≤ x := by rw [hA0]; intro x hx; have h' : x5.heap.size ≤ x := hx; have := KX5.out.size; omega
      have HGV := Lib.hid (HG.out.kept kv0 (by simp))
      have HAB := Lib.hid hlo
      have HAN : Hid (∀ x, A0 x → nGlobals ≤ x) := Lib.hid (fun x hx => by have h1 := HG.out.sz; have := hlo x hx; omega)
      have HSLV := Lib.hid (HSL.out.kept kv0 (.inr (by simp)))
      have HSLW := Lib.hid (HSC.out.kept kv0 (.inr (by simp)))
      have notA : ∀ q, q < w.heap.size → ¬ A0 q := by rw [hA0]; intro q hq h2; have h' : x5.heap.size ≤ q := h2; have := KX5.out.size; omega
      have HARG : Hid (l = [] ∨ ¬ A0 bq) := Lib.hid (HBQ.out.imp id (notA bq))
      have HARH : Hid (c = [] ∨ ¬ A0 bq2) := Lib.hid (HBC.out.imp id (notA bq2))
      have HTV := Lib.hid (HTT.out.kept kv0 (Nat.le_refl _) (by simp) (fun _ _ h => h.kept kv0 (Nat.le_refl _) (by simp)))
      have HBV : Hid (w.heap.size ≤ V0.heap.size) := Lib.hid kv0.size
      have HWK := Lib.hid (show ∀ W, KeptA A0 V0 W → Kept w W [] from fun W h => h.kept kv0 hlo)
      clear hbx1 hbx2 hbx3 hbx4 hbx5 hbx6 g50 g51 g52 kx6 hplt hd hF hst0 HFR1 hA0 kv0 hlo notA
      have HC0 := Lib.hid (data_st HST0.out (HK0.out.geo HGV.out HAN.out) (by show 0 < _; decide) one e f g (.slice Av l.length cv) bq off l (HK0.out.sl HSLV.out HARG.out) HBT.out)
      rw [HM.out.1, HW1.out.1] at HC0
      have c00 := (HK0.out.blk HP.out HPA.out).cell 0 rfl
      have c01 := (HK0.out.blk HP.out HPA.out).cell 1 rfl
      have c02 := (HK0.out.blk HP.out HPA.out).cell 2 rfl
      go_wp2_with fail
      refine HC0.out.mono ?_
      rintro _ V1 ⟨rfl, hst, hk⟩
      have HST1 := Lib.hid (show St A0 V1 b d1 from hst)
      have HK1 := Lib.hid (HK0.out.trans hk)
      clear hst hk HC0
      clear c00 c01 c02
      have HC1 := Lib.hid (seal_st HST1.out (HK1.out.geo HGV.out HAN.out) (by have := HO.out.1; omega) one e f g 5 (by decide) (by decide) (.slice Av l.length cv) bq off l (HK1.out.sl HSLV.out HARG.out) HBT.out)
      rw [HM.out.2.1, HW1.out.1] at HC1
      have c10 := (HK1.out.blk HP.out HPA.out).cell 0 rfl
      have c11 := (HK1.out.blk HP.out HPA.out).cell 1 rfl
      have c12 := (HK1.out.blk HP.out HPA.out).cell 2 rfl
      go_wp2_with fail
      refine HC1.out.mono ?_
      rintro _ V2 ⟨rfl, hst, hk⟩
      have HST2 := Lib.hid (show St A0 V2 b s2 from hst)
      have HK2 := Lib.hid (HK1.out.trans hk)
      clear hst hk HC1
      clear c10 c11 c12
      have HC2 := Lib.hid (sync_st HST2.out (by have := HO.out.2.1; omega))
      rw [HM.out.2.2.1] at HC2
      have c20 := (HK2.out.blk HP.out HPA.out).cell 0 rfl
      have c21 := (HK2.out.blk HP.out HPA.out).cell 1 rfl
      have c22 := (HK2.out.blk HP.out HPA.out).cell 2 rfl
      go_wp2_with fail
      refine HC2.out.mono ?_
      rintro _ V3 ⟨rfl, hst, hk⟩
      have HST3 := Lib.hid (show St A0 V3 b y from hst)
      have HK3 := Lib.hid (HK2.out.trans hk)
      clear hst hk HC2
      clear c20 c21 c22
      have yo0 : (0 : Int) ≤ y.ops := by omega
      have yo1 : (y.ops : Int) ≤ 100003 := by have := HO.out.2.2.1; omega
      have HC3 := Lib.hid (opsN_st HST3.out)
      have c30 := (HK3.out.blk HP.out HPA.out).cell 0 rfl
      have c31 := (HK3.out.blk HP.out HPA.out).cell 1 rfl
      have c32 := (HK3.out.blk HP.out HPA.out).cell 2 rfl
      go_wp2_with fail
      refine HC3.out.mono ?_
      rintro _ V4 ⟨rfl, hst, hk⟩
      have HST4 := Lib.hid (show St A0 V4 b y from hst)
      have HK4 := Lib.hid (HK3.out.trans hk)
      clear hst hk HC3
      clear c30 c31 c32
      have HC4 := Lib.hid (fail_st HST4.out (by rw [HO.out.2.2.2.1]; decide) ((y.ops : Int) + 1 + fl) (by omega) (by omega))
      have c40 := (HK4.out.blk HP.out HPA.out).cell 0 rfl
      have c41 := (HK4.out.blk HP.out HPA.out).cell 1 rfl
      have c42 := (HK4.out.blk HP.out HPA.out).cell 2 rfl
      go_wp2_with fail
      refine HC4.out.mono ?_
      rintro _ V5 ⟨rfl, hst, hk⟩
      have HST5 := Lib.hid (show St A0 V5 b (y.fail ((y.ops : Int) + 1 + fl)) from hst)
      have HK5 := Lib.hid (HK4.out.trans hk)
      clear hst hk HC4
      clear c40 c41 c42
      have HC5 := Lib.hid (data_st HST5.out (HK5.out.geo HGV.out HAN.out) (by show y.ops < _; have := HO.out.2.2.1; omega) two e f g (.slice Au c.length cu) bq2 off2 c (HK5.out.sl HSLW.out HARH.out) HBU.out)
      rw [HM.out.2.2.2.1, HW1.out.2] at HC5
      have c50 := (HK5.out.blk HP.out HPA.out).cell 0 rfl
      have c51 := (HK5.out.blk HP.out HPA.out).cell 1 rfl
      have c52 := (HK5.out.blk HP.out HPA.out).cell 2 rfl
      go_wp2_with fail
      refine HC5.out.mono ?_
      rintro _ V6 ⟨rfl, hst, hk⟩
      have HST6 := Lib.hid (show St A0 V6 b D from hst)
      have HK6 := Lib.hid (HK5.out.trans hk)
      clear hst hk HC5
      clear c50 c51 c52
      have HC6 := Lib.hid (seal_st HST6.out (HK6.out.geo HGV.out HAN.out) (by have := HO.out.2.2.2.2.1; omega) two e f g 6 (by decide) (by decide) (.slice Au c.length cu) bq2 off2 c (HK6.out.sl HSLW.out HARH.out) HBU.out)
      rw [HM.out.2.2.2.2.1, HW1.out.2] at HC6
      have c60 := (HK6.out.blk HP.out HPA.out).cell 0 rfl
      have c61 := (HK6.out.blk HP.out HPA.out).cell 1 rfl
      have c62 := (HK6.out.blk HP.out HPA.out).cell 2 rfl
      go_wp2_with fail
      refine HC6.out.mono ?_
      rintro _ V7 ⟨rfl, hst, hk⟩
      have HST7 := Lib.hid (show St A0 V7 b S from hst)
      have HK7 := Lib.hid (HK6.out.trans hk)
      clear hst hk HC6
      clear c60 c61 c62
      have HC7 := Lib.hid (wipe_st HST7.out (HK7.out.geo HGV.out HAN.out) HAN.out (by have := HO.out.2.2.2.2.2.1; omega) two e f g)
      rw [HM.out.2.2.2.2.2, HW1.out.2] at HC7
      have c70 := (HK7.out.blk HP.out HPA.out).cell 0 rfl
      have c71 := (HK7.out.blk HP.out HPA.out).cell 1 rfl
      have c72 := (HK7.out.blk HP.out HPA.out).cell 2 rfl
      go_wp2_with fail
      refine HC7.out.mono ?_
      rintro _ V8 ⟨rfl, hst, hk⟩
      have HST8 := Lib.hid (show St A0 V8 b Wd from hst)
      have HK8 := Lib.hid (HK7.out.trans hk)
      clear hst hk HC7
      clear c70 c71 c72
      have HC8 := Lib.hid (crash_st HST8.out HAB.out (HK8.out.tears HAB.out HBV.out HTV.out))
      have c80 := (HK8.out.blk HP.out HPA.out).cell 0 rfl
      have c81 := (HK8.out.blk HP.out HPA.out).cell 1 rfl
      have c82 := (HK8.out.blk HP.out HPA.out).cell 2 rfl
      go_wp2_with fail
      refine HC8.out.mono ?_
      rintro _ V9 ⟨rfl, hst, hk⟩
      have HST9 := Lib.hid (show St A0 V9 b (Wd.crash ts) from hst)
      have HK9 := Lib.hid (HK8.out.trans hk)
      clear hst hk HC8
      clear c80 c81 c82
      have HC9 := Lib.hid (read_st HST9.out (HK9.out.geo HGV.out HAN.out) HAN.out (by show Wd.ops < _; have := HO.out.2.2.2.2.2.2.1; omega) one e f g (by rw [show (Wd.crash ts).size = m from HO.out.2.2.2.2.2.2.2]; exact HSP.out))
      rw [HR1.out.1, HW1.out.1] at HC9
      have c90 := (HK9.out.blk HP.out HPA.out).cell 0 rfl
      have c91 := (HK9.out.blk HP.out HPA.out).cell 1 rfl
      have c92 := (HK9.out.blk HP.out HPA.out).cell 2 rfl
      go_wp2_with fail
      refine HC9.out.mono ?_
      rintro _ U10 ⟨Ai10, ci10, q10, rfl, hs, hq, hst, hk⟩
      obtain ⟨A10, hA1, hA2, hst2⟩ : ∃ B : Nat → Prop, (∀ x, B x → A0 x) ∧ (¬ B U10.heap.size) ∧ St B (U10.alloc (.cells #[.int .i64 2, .int .i64 0, .int .u64 5, .slice Ai10 l.length ci10] 37)) b k1 := ⟨_, fun x h => h.1.1, fun h => h.2 rfl, hst.alloc_hold (.cells #[.int .i64 2, .int .i64 0, .int .u64 5, .slice Ai10 l.length ci10] 37)⟩
      have HST10 := Lib.hid hst2
      have HS10 := Lib.hid hA1
      have hk2 : KeptA A0 V9 (U10.alloc (.cells #[.int .i64 2, .int .i64 0, .int .u64 5, .slice Ai10 l.length ci10] 37)) := hk.trans (KeptA.of0 ((Kept.refl _ []).alloc _))
      have HK10 := Lib.hid (HK9.out.trans hk2)
      have HBX := Lib.hid (Blk.new U10 37 [.int .i64 2, .int .i64 0, .int .u64 5, .slice Ai10 l.length ci10])
      have HNX := Lib.hid hA2
      have HIM := Lib.hid (hs.kept ((Kept.refl U10 []).alloc (.cells #[.int .i64 2, .int .i64 0, .int .u64 5, .slice Ai10 l.length ci10] 37)) (.inr (by simp)))
      generalize hV10 : U10.alloc (.cells #[.int .i64 2, .int .i64 0, .int .u64 5, .slice Ai10 l.length ci10] 37) = V10 at *
      clear hst hst2 hk hk2 hs hq hA1 hA2 HC9
      clear c90 c91 c92
      have gx0 := HBX.out.cell 0 rfl
      have gx2 := HBX.out.cell 2 rfl
      have gx3 := HBX.out.cell 3 rfl
      have HSMx := Lib.hid (same_any V10 _ _ q10 0 bq off l l HIM.out (HK10.out.sl HSLV.out HARG.out))
      rw [show decide (l = l) = true by simp] at HSMx
      go_wp2_with fail
      refine HSMx.out.mono ?_
      rintro _ E ⟨_, rfl, rfl, ke⟩
      have KE := Lib.hid ((HWK.out _ (HK10.out)).trans ke (by simp))
      clear ke HSMx
      go_wp2_with fail
      go_ret
      exact ⟨_, rfl, rfl, KE.out⟩)
  · have HR1 := Lib.hid (And.intro hR (And.intro hRo (And.intro hRs hR2)))
    clear hR hRo hRs hR2
    cases second
    all_goals (
      simp only [Bool.false_eq_true, if_false, if_true] at hwb
      have HW1 := Lib.hid hwb
      clear hwb
      go_enter Tryd.func7, Tryd.ntmps7
      go_wp2_with fail
      refine (HAW.out).mono ?_
      rintro _ x1 ⟨_, rfl, rfl, kx1⟩
      have hbx1 := (HB0.out).kept kx1 (by simp)
      have KX1 := Lib.hid (K0.out.trans kx1 (by simp))
      have g10 := hbx1.cell 0 rfl
      have g11 := hbx1.cell 1 rfl
      have g12 := hbx1.cell 2 rfl
      clear kx1
      go_wp2_with fail
      refine (HFE.out x1).mono ?_
      rintro _ x2 ⟨_, rfl, rfl, kx2⟩
      have hbx2 := (hbx1).kept kx2 (by simp)
      have KX2 := Lib.hid (KX1.out.trans kx2 (by simp))
      have g20 := hbx2.cell 0 rfl
      have g21 := hbx2.cell 1 rfl
      have g22 := hbx2.cell 2 rfl
      clear kx2
      clear g10 g11 g12
      go_wp2_with fail
      refine (HRR.out x2).mono ?_
      rintro _ x3 ⟨_, rfl, rfl, kx3⟩
      have hbx3 := (hbx2).kept kx3 (by simp)
      have KX3 := Lib.hid (KX2.out.trans kx3 (by simp))
      have g30 := hbx3.cell 0 rfl
      have g31 := hbx3.cell 1 rfl
      have g32 := hbx3.cell 2 rfl
      clear kx3
      clear g20 g21 g22
      go_wp2_with fail
      refine (HRT.out x3).mono ?_
      rintro _ x4 ⟨_, rfl, rfl, kx4⟩
      have hbx4 := (hbx3).kept kx4 (by simp)
      have KX4 := Lib.hid (KX3.out.trans kx4 (by simp))
      have g40 := hbx4.cell 0 rfl
      have g41 := hbx4.cell 1 rfl
      have g42 := hbx4.cell 2 rfl
      clear kx4
      clear g30 g31 g32
      obtain ⟨xo, hxo⟩ : ∃ xo, xo = x4.alloc (.cells #[.int .u8 0, .int .i64 0, .int .u64 0, .slice none 0 0, .int .u8 0, .slice At ts.length ct] 58) := ⟨_, rfl⟩
      have kxo : Kept x4 xo [] := by rw [hxo]; exact (Kept.refl x4 []).alloc _
      have hbo : Blk xo x4.heap.size 58 [.int .u8 0, .int .i64 0, .int .u64 0, .slice none 0 0, .int .u8 0, .slice At ts.length ct] := by rw [hxo]; exact Blk.new _ _ _
      have HFO := Lib.hid (few_one xo x4.heap.size w.heap.size w.heap.size _ ts hbo (HTT.out.kept (KX4.out.trans kxo (by simp)) (Nat.le_refl _) (by simp) (fun _ _ h => h.kept (KX4.out.trans kxo (by simp)) (Nat.le_refl _) (by simp))))
      have HXO := Lib.hid (And.intro hxo trivial)
      go_wp2_with fail
      rw [← HXO.out.1]
      refine HFO.out.mono ?_
      rintro _ x5 ⟨_, rfl, ⟨sm, rfl⟩, kx5⟩
      have hbx5 := (hbx4.kept kxo (by simp)).kept kx5 (by simp)
      have KX5 := Lib.hid ((KX4.out.trans kxo (by simp)).trans kx5 (by simp))
      have g50 := hbx5.cell 0 rfl
      have g51 := hbx5.cell 1 rfl
      have g52 := hbx5.cell 2 rfl
      clear kx5 kxo hbo hxo HXO HFO g40 g41 g42
      have HFR1 := Lib.hid (HFR.out x5 (HG.out.kept KX5.out (by simp)))
      have hplt := hbx5.lt
      cases sm
      · go_wp2_with fail
        refine HFR1.out.mono ?_
        rintro _ V0 ⟨_, rfl, ⟨b, F, rfl, hd, hF⟩, kx6⟩
        have KZ := Lib.hid (KX5.out.trans kx6 (by simp))
        clear hd hF kx6 HFR1
        go_wp2_with fail
        go_ret
        exact ⟨_, rfl, rfl, KZ.out⟩
      go_wp2_with fail
      refine HFR1.out.mono ?_
      rintro _ V0 ⟨_, rfl, ⟨b, F, rfl, hd, hF⟩, kx6⟩
      have hbx6 := hbx5.kept kx6 (by simp)
      have hst0 : St (fun x => x5.heap.size ≤ x) V0 b (DiskS.new (2 * spanN m e f g) m) := ⟨⟨F, hd, hF⟩, fun x hx => Nat.le_trans kx6.size hx⟩
      obtain ⟨A0, hA0⟩ : ∃ A : Nat → Prop, A = fun x => x5.heap.size ≤ x := ⟨_, rfl⟩
      rw [← hA0] at hst0
      have HST0 := Lib.hid hst0
      have HK0 := Lib.hid (KeptA.refl A0 V0)
      have HP := Lib.hid hbx6
      have HPA : Hid (¬ A0 w.heap.size) := Lib.hid (by rw [hA0]; intro h; have h' : x5.heap.size ≤ w.heap.size := h; omega)
      have kv0 := KX5.out.trans kx6 (by simp)
      have hlo : ∀ x, A0 x → w.heap.size ≤ x := by rw [hA0]; intro x hx; have h' : x5.heap.size ≤ x := hx; have := KX5.out.size; omega
      have HGV := Lib.hid (HG.out.kept kv0 (by simp))
      have HAB := Lib.hid hlo
      have HAN : Hid (∀ x, A0 x → nGlobals ≤ x) := Lib.hid (fun x hx => by have h1 := HG.out.sz; have := hlo x hx; omega)
      have HSLV := Lib.hid (HSL.out.kept kv0 (.inr (by simp)))
      have HSLW := Lib.hid (HSC.out.kept kv0 (.inr (by simp)))
      have notA : ∀ q, q < w.heap.size → ¬ A0 q := by rw [hA0]; intro q hq h2; have h' : x5.heap.size ≤ q := h2; have := KX5.out.size; omega
      have HARG : Hid (l = [] ∨ ¬ A0 bq) := Lib.hid (HBQ.out.imp id (notA bq))
      have HARH : Hid (c = [] ∨ ¬ A0 bq2) := Lib.hid (HBC.out.imp id (notA bq2))
      have HTV := Lib.hid (HTT.out.kept kv0 (Nat.le_refl _) (by simp) (fun _ _ h => h.kept kv0 (Nat.le_refl _) (by simp)))
      have HBV : Hid (w.heap.size ≤ V0.heap.size) := Lib.hid kv0.size
      have HWK := Lib.hid (show ∀ W, KeptA A0 V0 W → Kept w W [] from fun W h => h.kept kv0 hlo)
      clear hbx1 hbx2 hbx3 hbx4 hbx5 hbx6 g50 g51 g52 kx6 hplt hd hF hst0 HFR1 hA0 kv0 hlo notA
      have HC0 := Lib.hid (data_st HST0.out (HK0.out.geo HGV.out HAN.out) (by show 0 < _; decide) one e f g (.slice Av l.length cv) bq off l (HK0.out.sl HSLV.out HARG.out) HBT.out)
      rw [HM.out.1, HW1.out.1] at HC0
      have c00 := (HK0.out.blk HP.out HPA.out).cell 0 rfl
      have c01 := (HK0.out.blk HP.out HPA.out).cell 1 rfl
      have c02 := (HK0.out.blk HP.out HPA.out).cell 2 rfl
      go_wp2_with fail
      refine HC0.out.mono ?_
      rintro _ V1 ⟨rfl, hst, hk⟩
      have HST1 := Lib.hid (show St A0 V1 b d1 from hst)
      have HK1 := Lib.hid (HK0.out.trans hk)
      clear hst hk HC0
      clear c00 c01 c02
      have HC1 := Lib.hid (seal_st HST1.out (HK1.out.geo HGV.out HAN.out) (by have := HO.out.1; omega) one e f g 5 (by decide) (by decide) (.slice Av l.length cv) bq off l (HK1.out.sl HSLV.out HARG.out) HBT.out)
      rw [HM.out.2.1, HW1.out.1] at HC1
      have c10 := (HK1.out.blk HP.out HPA.out).cell 0 rfl
      have c11 := (HK1.out.blk HP.out HPA.out).cell 1 rfl
      have c12 := (HK1.out.blk HP.out HPA.out).cell 2 rfl
      go_wp2_with fail
      refine HC1.out.mono ?_
      rintro _ V2 ⟨rfl, hst, hk⟩
      have HST2 := Lib.hid (show St A0 V2 b s2 from hst)
      have HK2 := Lib.hid (HK1.out.trans hk)
      clear hst hk HC1
      clear c10 c11 c12
      have HC2 := Lib.hid (sync_st HST2.out (by have := HO.out.2.1; omega))
      rw [HM.out.2.2.1] at HC2
      have c20 := (HK2.out.blk HP.out HPA.out).cell 0 rfl
      have c21 := (HK2.out.blk HP.out HPA.out).cell 1 rfl
      have c22 := (HK2.out.blk HP.out HPA.out).cell 2 rfl
      go_wp2_with fail
      refine HC2.out.mono ?_
      rintro _ V3 ⟨rfl, hst, hk⟩
      have HST3 := Lib.hid (show St A0 V3 b y from hst)
      have HK3 := Lib.hid (HK2.out.trans hk)
      clear hst hk HC2
      clear c20 c21 c22
      have yo0 : (0 : Int) ≤ y.ops := by omega
      have yo1 : (y.ops : Int) ≤ 100003 := by have := HO.out.2.2.1; omega
      have HC3 := Lib.hid (opsN_st HST3.out)
      have c30 := (HK3.out.blk HP.out HPA.out).cell 0 rfl
      have c31 := (HK3.out.blk HP.out HPA.out).cell 1 rfl
      have c32 := (HK3.out.blk HP.out HPA.out).cell 2 rfl
      go_wp2_with fail
      refine HC3.out.mono ?_
      rintro _ V4 ⟨rfl, hst, hk⟩
      have HST4 := Lib.hid (show St A0 V4 b y from hst)
      have HK4 := Lib.hid (HK3.out.trans hk)
      clear hst hk HC3
      clear c30 c31 c32
      have HC4 := Lib.hid (fail_st HST4.out (by rw [HO.out.2.2.2.1]; decide) ((y.ops : Int) + 1 + fl) (by omega) (by omega))
      have c40 := (HK4.out.blk HP.out HPA.out).cell 0 rfl
      have c41 := (HK4.out.blk HP.out HPA.out).cell 1 rfl
      have c42 := (HK4.out.blk HP.out HPA.out).cell 2 rfl
      go_wp2_with fail
      refine HC4.out.mono ?_
      rintro _ V5 ⟨rfl, hst, hk⟩
      have HST5 := Lib.hid (show St A0 V5 b (y.fail ((y.ops : Int) + 1 + fl)) from hst)
      have HK5 := Lib.hid (HK4.out.trans hk)
      clear hst hk HC4
      clear c40 c41 c42
      have HC5 := Lib.hid (data_st HST5.out (HK5.out.geo HGV.out HAN.out) (by show y.ops < _; have := HO.out.2.2.1; omega) two e f g (.slice Au c.length cu) bq2 off2 c (HK5.out.sl HSLW.out HARH.out) HBU.out)
      rw [HM.out.2.2.2.1, HW1.out.2] at HC5
      have c50 := (HK5.out.blk HP.out HPA.out).cell 0 rfl
      have c51 := (HK5.out.blk HP.out HPA.out).cell 1 rfl
      have c52 := (HK5.out.blk HP.out HPA.out).cell 2 rfl
      go_wp2_with fail
      refine HC5.out.mono ?_
      rintro _ V6 ⟨rfl, hst, hk⟩
      have HST6 := Lib.hid (show St A0 V6 b D from hst)
      have HK6 := Lib.hid (HK5.out.trans hk)
      clear hst hk HC5
      clear c50 c51 c52
      have HC6 := Lib.hid (seal_st HST6.out (HK6.out.geo HGV.out HAN.out) (by have := HO.out.2.2.2.2.1; omega) two e f g 6 (by decide) (by decide) (.slice Au c.length cu) bq2 off2 c (HK6.out.sl HSLW.out HARH.out) HBU.out)
      rw [HM.out.2.2.2.2.1, HW1.out.2] at HC6
      have c60 := (HK6.out.blk HP.out HPA.out).cell 0 rfl
      have c61 := (HK6.out.blk HP.out HPA.out).cell 1 rfl
      have c62 := (HK6.out.blk HP.out HPA.out).cell 2 rfl
      go_wp2_with fail
      refine HC6.out.mono ?_
      rintro _ V7 ⟨rfl, hst, hk⟩
      have HST7 := Lib.hid (show St A0 V7 b S from hst)
      have HK7 := Lib.hid (HK6.out.trans hk)
      clear hst hk HC6
      clear c60 c61 c62
      have HC7 := Lib.hid (wipe_st HST7.out (HK7.out.geo HGV.out HAN.out) HAN.out (by have := HO.out.2.2.2.2.2.1; omega) two e f g)
      rw [HM.out.2.2.2.2.2, HW1.out.2] at HC7
      have c70 := (HK7.out.blk HP.out HPA.out).cell 0 rfl
      have c71 := (HK7.out.blk HP.out HPA.out).cell 1 rfl
      have c72 := (HK7.out.blk HP.out HPA.out).cell 2 rfl
      go_wp2_with fail
      refine HC7.out.mono ?_
      rintro _ V8 ⟨rfl, hst, hk⟩
      have HST8 := Lib.hid (show St A0 V8 b Wd from hst)
      have HK8 := Lib.hid (HK7.out.trans hk)
      clear hst hk HC7
      clear c70 c71 c72
      have HC8 := Lib.hid (crash_st HST8.out HAB.out (HK8.out.tears HAB.out HBV.out HTV.out))
      have c80 := (HK8.out.blk HP.out HPA.out).cell 0 rfl
      have c81 := (HK8.out.blk HP.out HPA.out).cell 1 rfl
      have c82 := (HK8.out.blk HP.out HPA.out).cell 2 rfl
      go_wp2_with fail
      refine HC8.out.mono ?_
      rintro _ V9 ⟨rfl, hst, hk⟩
      have HST9 := Lib.hid (show St A0 V9 b (Wd.crash ts) from hst)
      have HK9 := Lib.hid (HK8.out.trans hk)
      clear hst hk HC8
      clear c80 c81 c82
      have HC9 := Lib.hid (read_st HST9.out (HK9.out.geo HGV.out HAN.out) HAN.out (by show Wd.ops < _; have := HO.out.2.2.2.2.2.2.1; omega) one e f g (by rw [show (Wd.crash ts).size = m from HO.out.2.2.2.2.2.2.2]; exact HSP.out))
      rw [HR1.out.1, HW1.out.1] at HC9
      have c90 := (HK9.out.blk HP.out HPA.out).cell 0 rfl
      have c91 := (HK9.out.blk HP.out HPA.out).cell 1 rfl
      have c92 := (HK9.out.blk HP.out HPA.out).cell 2 rfl
      go_wp2_with fail
      refine HC9.out.mono ?_
      rintro _ U10 ⟨Ai10, ci10, q10, rfl, hs, hq, hst, hk⟩
      obtain ⟨A10, hA1, hA2, hst2⟩ : ∃ B : Nat → Prop, (∀ x, B x → A0 x) ∧ (¬ B U10.heap.size) ∧ St B (U10.alloc (.cells #[.int .i64 0, .int .i64 0, .int .u64 0, .slice Ai10 0 ci10] 37)) b k1 := ⟨_, fun x h => h.1.1, fun h => h.2 rfl, hst.alloc_hold (.cells #[.int .i64 0, .int .i64 0, .int .u64 0, .slice Ai10 0 ci10] 37)⟩
      have HST10 := Lib.hid hst2
      have HS10 := Lib.hid hA1
      have hk2 : KeptA A0 V9 (U10.alloc (.cells #[.int .i64 0, .int .i64 0, .int .u64 0, .slice Ai10 0 ci10] 37)) := hk.trans (KeptA.of0 ((Kept.refl _ []).alloc _))
      have HK10 := Lib.hid (HK9.out.trans hk2)
      have HBX := Lib.hid (Blk.new U10 37 [.int .i64 0, .int .i64 0, .int .u64 0, .slice Ai10 0 ci10])
      have HNX := Lib.hid hA2
      have HIM := Lib.hid (hs.kept ((Kept.refl U10 []).alloc (.cells #[.int .i64 0, .int .i64 0, .int .u64 0, .slice Ai10 0 ci10] 37)) (.inr (by simp)))
      have HUS := Lib.hid (show V9.heap.size ≤ U10.heap.size from hk.size)
      generalize hV10 : U10.alloc (.cells #[.int .i64 0, .int .i64 0, .int .u64 0, .slice Ai10 0 ci10] 37) = V10 at *
      clear hst hst2 hk hk2 hs hq hA1 hA2 HC9
      clear c90 c91 c92
      have AN1 := Lib.hid (fun x h => HAN.out x (HS10.out x h))
      have HC10 := Lib.hid (read_st HST10.out (HK10.out.geo HGV.out HAN.out) AN1.out (by have := HR1.out.2.1; omega) one e f g (by rw [HR1.out.2.2.1]; exact HSP.out))
      rw [HR1.out.2.2.2, HW1.out.1] at HC10
      have c100 := (HK10.out.blk HP.out HPA.out).cell 0 rfl
      have c101 := (HK10.out.blk HP.out HPA.out).cell 1 rfl
      have c102 := (HK10.out.blk HP.out HPA.out).cell 2 rfl
      go_wp2_with fail
      refine HC10.out.mono ?_
      rintro _ U11 ⟨Ai11, ci11, q11, rfl, hs, hq, hst, hk⟩
      have hbx := hk.blk HBX.out HNX.out
      have u0 := hbx.cell 0 rfl
      have u1 := hbx.cell 1 rfl
      have u2 := hbx.cell 2 rfl
      have u3 := hbx.cell 3 rfl
      have f0 := hbx.free 0
      have f1 := hbx.free 1
      have f2 := hbx.free 2
      have f3 := hbx.free 3
      have hsx := HBX.out.lt
      have hq' : l = [] ∨ q11 ≠ U10.heap.size := hq.imp id (fun h => by have h1 := h.1; omega)
      have hbz := blk4 hbx (.int .i64 2) (.int .i64 0) (.int .u64 5) (.slice Ai11 l.length ci11)
      have HIM2 := Lib.hid (slS hs hq' (.int .i64 2) (.int .i64 0) (.int .u64 5) (.slice Ai11 l.length ci11))
      have hx0 : ¬ A10 U10.heap.size := HNX.out
      have hAX : A0 U10.heap.size := HST9.out.up _ (by have := HUS.out; omega)
      have HKz := Lib.hid (HK10.out.trans ((hk.mono HS10.out).trans (KeptA.of (kept4 (g := U10.heap.size) (Kept.refl U11 [U10.heap.size]) (.inl (by simp)) (.int .i64 2) (.int .i64 0) (.int .u64 5) (.slice Ai11 l.length ci11)) (fun x hx => by simp at hx; subst hx; exact hAX))))
      have HBZ := Lib.hid hbz
      clear HIM
      have HIM := HIM2
      clear hbx hsx hq' hbz hx0 hAX hs hq hst hk HC10 HIM2
      clear c100 c101 c102
      generalize hZ : ((((U11.setCell ⟨U10.heap.size, 0, none⟩ (.int .i64 2)).setCell ⟨U10.heap.size, 1, none⟩ (.int .i64 0)).setCell ⟨U10.heap.size, 2, none⟩ (.int .u64 5)).setCell ⟨U10.heap.size, 3, none⟩ (.slice Ai11 l.length ci11)) = VZ at HIM HKz HBZ
      have gx0 := HBZ.out.cell 0 rfl
      have gx2 := HBZ.out.cell 2 rfl
      have gx3 := HBZ.out.cell 3 rfl
      have HSMx := Lib.hid (same_any VZ _ _ q11 0 bq off l l HIM.out (HKz.out.sl HSLV.out HARG.out))
      rw [show decide (l = l) = true by simp] at HSMx
      go_wp2_with fail
      refine HSMx.out.mono ?_
      rintro _ E ⟨_, rfl, rfl, ke⟩
      have KE := Lib.hid ((HWK.out _ (HKz.out)).trans ke (by simp))
      clear ke HSMx
      go_wp2_with fail
      go_ret
      exact ⟨_, rfl, rfl, KE.out⟩)
set_option maxRecDepth 100000 in
set_option maxHeartbeats 1500000 in
theorem SlotApart_post (w : World) (hg : GeoLaid w) (e f g : Int) (v vc : Value) (bq off bq2 off2 : Nat) (l c : List Int) (sz fl : Int) (second : Bool) (tv : Value) (ts : List (Int × List Int)) (hsl : Sl .u8 w v bq off l) (hB : Bts l) (hbq : l = [] ∨ bq < w.heap.size) (hsc : Sl .u8 w vc bq2 off2 c) (hBc : Bts c) (hbc : c = [] ∨ bq2 < w.heap.size) (htv : SliceAt (TearK w.heap.size) 2 w w.heap.size tv ts) (z0 : 0 ≤ sz) (z1 : sz ≤ 255) (f0 : 0 ≤ fl) (f1 : fl ≤ 255) :
    Calls Tryd.prog 7 #[.agg #[.int .i64 e, .int .i64 f, .int .i64 g], v, vc, .int .u8 sz, .bool second, .int .u8 fl, tv] w (Post w [] fun r W => r = .bool true) := by
  by_cases hgood : gRight e f g = true ∧ gTotal e f g ≤ 500 ∧ l.length = gTotal e f g ∧ c.length = l.length
  · obtain ⟨hr, ht, hl, hc⟩ := hgood
    exact apartY w hg e f g v vc bq off bq2 off2 l c sz fl second tv ts hsl hB hbq hsc hBc hbc htv z0 z1 f0 f1 hr ht hl (hc.trans hl)
  obtain ⟨Av, cv, ev⟩ := hsl.form
  subst ev
  obtain ⟨Au, cu, ev⟩ := hsc.form
  subst ev
  obtain ⟨At, ct, ev, _, _, _⟩ := id htv
  subst ev
  have ll := hsl.len
  unfold maxLen at ll
  have lc := hsc.len
  unfold maxLen at lc
  have l0 : (0 : Int) ≤ l.length := by omega
  have l1 : (l.length : Int) ≤ 9223372036854775807 := by omega
  have m0' : (0 : Int) ≤ c.length := by omega
  have m1' : (c.length : Int) ≤ 9223372036854775807 := by omega
  have hb0 := Blk.new w 23 [.int .i64 e, .int .i64 f, .int .i64 g]
  have k0 : Kept w (w.alloc (.cells #[.int .i64 e, .int .i64 f, .int .i64 g] 23)) [] := (Kept.refl w []).alloc _
  have HAW := Lib.hid (awake_any _ (hg.alloc (.cells #[.int .i64 e, .int .i64 f, .int .i64 g] 23)))
  have HFE := Lib.hid (fun W => few_any W e f g)
  have HRR := Lib.hid (fun W => rright_any W e f g)
  have HRT := Lib.hid (fun W => rtotal_any W e f g)
  have HG := Lib.hid hg
  have HB0 := Lib.hid hb0
  have K0 := Lib.hid k0
  clear HG
  cases hr : gRight e f g
  · rw [hr] at HRR
    rw [show fewG e f g = true by unfold fewG; rw [hr]; rfl] at HFE
    clear hg hsl hsc hB hBc hbq hbc htv hb0 k0 hr hgood ll lc
    go_enter Tryd.func7, Tryd.ntmps7
    go_wp2_with fail
    refine (HAW.out).mono ?_
    rintro _ x1 ⟨_, rfl, rfl, kx1⟩
    have hbx1 := (HB0.out).kept kx1 (by simp)
    have KX1 := Lib.hid (K0.out.trans kx1 (by simp))
    have g10 := hbx1.cell 0 rfl
    have g11 := hbx1.cell 1 rfl
    have g12 := hbx1.cell 2 rfl
    clear kx1
    go_wp2_with fail
    refine (HFE.out x1).mono ?_
    rintro _ x2 ⟨_, rfl, rfl, kx2⟩
    have hbx2 := (hbx1).kept kx2 (by simp)
    have KX2 := Lib.hid (KX1.out.trans kx2 (by simp))
    have g20 := hbx2.cell 0 rfl
    have g21 := hbx2.cell 1 rfl
    have g22 := hbx2.cell 2 rfl
    clear kx2
    clear g10 g11 g12
    go_wp2_with fail
    refine (HRR.out x2).mono ?_
    rintro _ x3 ⟨_, rfl, rfl, kx3⟩
    have hbx3 := (hbx2).kept kx3 (by simp)
    have KX3 := Lib.hid (KX2.out.trans kx3 (by simp))
    have g30 := hbx3.cell 0 rfl
    have g31 := hbx3.cell 1 rfl
    have g32 := hbx3.cell 2 rfl
    clear kx3
    clear g20 g21 g22
    clear hbx1 hbx2 hbx3 g30 g31 g32
    go_wp2_with fail
    go_ret
    exact ⟨_, rfl, rfl, KX3.out⟩
  rw [hr] at HRR
  by_cases ht : gTotal e f g ≤ 500
  · rw [show fewG e f g = true by unfold fewG; rw [hr]; simp; omega] at HFE
    by_cases hl : l.length = gTotal e f g
    · have hc : c.length ≠ l.length := fun h => hgood ⟨hr, ht, hl, h⟩
      rw [← hl] at HRT
      have tl : ((l.length : Int) != (l.length : Int)) = false := by simp
      have tc : ((c.length : Int) != (l.length : Int)) = true := by simp; omega
      clear hg hsl hsc hB hBc hbq hbc htv hb0 k0 hr hgood ll lc ht hl hc
      go_enter Tryd.func7, Tryd.ntmps7
      go_wp2_with fail
      refine (HAW.out).mono ?_
      rintro _ x1 ⟨_, rfl, rfl, kx1⟩
      have hbx1 := (HB0.out).kept kx1 (by simp)
      have KX1 := Lib.hid (K0.out.trans kx1 (by simp))
      have g10 := hbx1.cell 0 rfl
      have g11 := hbx1.cell 1 rfl
      have g12 := hbx1.cell 2 rfl
      clear kx1
      go_wp2_with fail
      refine (HFE.out x1).mono ?_
      rintro _ x2 ⟨_, rfl, rfl, kx2⟩
      have hbx2 := (hbx1).kept kx2 (by simp)
      have KX2 := Lib.hid (KX1.out.trans kx2 (by simp))
      have g20 := hbx2.cell 0 rfl
      have g21 := hbx2.cell 1 rfl
      have g22 := hbx2.cell 2 rfl
      clear kx2
      clear g10 g11 g12
      go_wp2_with fail
      refine (HRR.out x2).mono ?_
      rintro _ x3 ⟨_, rfl, rfl, kx3⟩
      have hbx3 := (hbx2).kept kx3 (by simp)
      have KX3 := Lib.hid (KX2.out.trans kx3 (by simp))
      have g30 := hbx3.cell 0 rfl
      have g31 := hbx3.cell 1 rfl
      have g32 := hbx3.cell 2 rfl
      clear kx3
      clear g20 g21 g22
      go_wp2_with fail
      refine (HRT.out x3).mono ?_
      rintro _ x4 ⟨_, rfl, rfl, kx4⟩
      have hbx4 := (hbx3).kept kx4 (by simp)
      have KX4 := Lib.hid (KX3.out.trans kx4 (by simp))
      have g40 := hbx4.cell 0 rfl
      have g41 := hbx4.cell 1 rfl
      have g42 := hbx4.cell 2 rfl
      clear kx4
      clear g30 g31 g32
      clear hbx1 hbx2 hbx3 hbx4 g40 g41 g42
      go_wp2_with fail
      go_ret
      exact ⟨_, rfl, rfl, KX4.out⟩
    · generalize gTotal e f g = T at *
      have tl : ((l.length : Int) != (T : Int)) = true := by simp; omega
      clear hg hsl hsc hB hBc hbq hbc htv hb0 k0 hr hgood ll lc ht hl
      go_enter Tryd.func7, Tryd.ntmps7
      go_wp2_with fail
      refine (HAW.out).mono ?_
      rintro _ x1 ⟨_, rfl, rfl, kx1⟩
      have hbx1 := (HB0.out).kept kx1 (by simp)
      have KX1 := Lib.hid (K0.out.trans kx1 (by simp))
      have g10 := hbx1.cell 0 rfl
      have g11 := hbx1.cell 1 rfl
      have g12 := hbx1.cell 2 rfl
      clear kx1
      go_wp2_with fail
      refine (HFE.out x1).mono ?_
      rintro _ x2 ⟨_, rfl, rfl, kx2⟩
      have hbx2 := (hbx1).kept kx2 (by simp)
      have KX2 := Lib.hid (KX1.out.trans kx2 (by simp))
      have g20 := hbx2.cell 0 rfl
      have g21 := hbx2.cell 1 rfl
      have g22 := hbx2.cell 2 rfl
      clear kx2
      clear g10 g11 g12
      go_wp2_with fail
      refine (HRR.out x2).mono ?_
      rintro _ x3 ⟨_, rfl, rfl, kx3⟩
      have hbx3 := (hbx2).kept kx3 (by simp)
      have KX3 := Lib.hid (KX2.out.trans kx3 (by simp))
      have g30 := hbx3.cell 0 rfl
      have g31 := hbx3.cell 1 rfl
      have g32 := hbx3.cell 2 rfl
      clear kx3
      clear g20 g21 g22
      go_wp2_with fail
      refine (HRT.out x3).mono ?_
      rintro _ x4 ⟨_, rfl, rfl, kx4⟩
      have hbx4 := (hbx3).kept kx4 (by simp)
      have KX4 := Lib.hid (KX3.out.trans kx4 (by simp))
      have g40 := hbx4.cell 0 rfl
      have g41 := hbx4.cell 1 rfl
      have g42 := hbx4.cell 2 rfl
      clear kx4
      clear g30 g31 g32
      clear hbx1 hbx2 hbx3 hbx4 g40 g41 g42
      go_wp2_with fail
      go_ret
      exact ⟨_, rfl, rfl, KX4.out⟩
  · rw [show fewG e f g = false by unfold fewG; rw [hr]; simp; omega] at HFE
    clear hg hsl hsc hB hBc hbq hbc htv hb0 k0 hr hgood ht ll lc
    go_enter Tryd.func7, Tryd.ntmps7
    go_wp2_with fail
    refine (HAW.out).mono ?_
    rintro _ x1 ⟨_, rfl, rfl, kx1⟩
    have hbx1 := (HB0.out).kept kx1 (by simp)
    have KX1 := Lib.hid (K0.out.trans kx1 (by simp))
    have g10 := hbx1.cell 0 rfl
    have g11 := hbx1.cell 1 rfl
    have g12 := hbx1.cell 2 rfl
    clear kx1
    go_wp2_with fail
    refine (HFE.out x1).mono ?_
    rintro _ x2 ⟨_, rfl, rfl, kx2⟩
    have hbx2 := (hbx1).kept kx2 (by simp)
    have KX2 := Lib.hid (KX1.out.trans kx2 (by simp))
    have g20 := hbx2.cell 0 rfl
    have g21 := hbx2.cell 1 rfl
    have g22 := hbx2.cell 2 rfl
    clear kx2
    clear g10 g11 g12
    go_wp2_with fail
    refine (HRR.out x2).mono ?_
    rintro _ x3 ⟨_, rfl, rfl, kx3⟩
    have hbx3 := (hbx2).kept kx3 (by simp)
    have KX3 := Lib.hid (KX2.out.trans kx3 (by simp))
    have g30 := hbx3.cell 0 rfl
    have g31 := hbx3.cell 1 rfl
    have g32 := hbx3.cell 2 rfl
    clear kx3
    clear g20 g21 g22
    clear hbx1 hbx2 hbx3 g30 g31 g32
    go_wp2_with fail
    go_ret
    exact ⟨_, rfl, rfl, KX3.out⟩
theorem SlotApart_walk (w : World) (hg : GeoLaid w) (e f g : Int) (v vc : Value) (l c : List Int) (sz fl : Int) (second : Bool) (tv : Value) (ts : List (Int × List Int)) (hs : SliceAt Byte1 1 w w.heap.size v l) (hs2 : SliceAt Byte1 1 w w.heap.size vc c) (htv : SliceAt (TearK w.heap.size) 2 w w.heap.size tv ts) (z0 : 0 ≤ sz) (z1 : sz ≤ 255) (f0 : 0 ≤ fl) (f1 : fl ≤ 255) :
    Calls Tryd.prog 7 #[.agg #[.int .i64 e, .int .i64 f, .int .i64 g], v, vc, .int .u8 sz, .bool second, .int .u8 fl, tv] w (fun e W => e = .returned (.bool true) ∧ Below w.heap.size w W) := by
  obtain ⟨bq, off, hsl, hB, hbq⟩ := Sl.of_at hs
  obtain ⟨bq2, off2, hsc, hBc, hbc⟩ := Sl.of_at hs2
  exact (SlotApart_post w hg e f g v vc bq off bq2 off2 l c sz fl second tv ts hsl hB hbq hsc hBc hbc htv z0 z1 f0 f1).mono fun _ _ ⟨_, h1, h2, h3⟩ => ⟨by rw [h1, h2], h3.below _ (Nat.le_refl _) (by simp)⟩
end Go.Proofs.YtlglbgemmljmlaaDoor
