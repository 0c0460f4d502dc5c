/- PROVED: the walk of SlotBack. No conditions beyond those that each theorem states. -/
import Derived.Test.YtlglbgemmljmlaaDoorSlV
import Derived.Test.YtlglbgemmljmlaaDoorSlArg
namespace Go.Proofs.YtlglbgemmljmlaaDoor
open Go.RowKit Go.Proofs.YtlglbgemmljmlaaDoorLib
set_option linter.unusedSimpArgs false
set_option linter.unusedVariables false

set_option maxRecDepth 100000 in
set_option maxHeartbeats 1500000 in
theorem backT (w : World) (hg : GeoLaid w) (e f g : Int) (v : Value) (bq off : Nat) (l : List Int) (sz : Int) (second : Bool) (seq : Int) (hsl : Sl .u8 w v bq off l) (hB : Bts l) (hbq : l = [] ∨ bq < w.heap.size) (z0 : 0 ≤ sz) (z1 : sz ≤ 255) (sq0 : 0 ≤ seq) (sq1 : seq ≤ 18446744073709551615)
    (hr : gRight e f g = true) (ht : gTotal e f g ≤ 500) (hl : l.length = gTotal e f g) :
    Calls Tryd.prog 6 #[.agg #[.int .i64 e, .int .i64 f, .int .i64 g], v, .int .u8 sz, .bool second, .int .u64 seq, .bool true] w (Post w [] fun r W => r = .bool true) := by
  obtain ⟨m1, m2, m3⟩ := freshM_bd sz
  obtain ⟨sp1, sp2⟩ := span_few hr ht (freshM sz) m1 (by omega)
  obtain ⟨which, hwh, hwb⟩ : ∃ which : Int, (which = 0 ∨ which = 1) ∧ which = if second = true then 1 else 0 := by
    cases second
    · exact ⟨0, .inl rfl, rfl⟩
    · exact ⟨1, .inr rfl, rfl⟩
  obtain ⟨d1, s1, s2, y2, s3, w1, s4, hd1, hr1, hd2, hy, hr2, hw1, hr3, o1, o2, o3, o4, o5, o6, e1z, e2z, e3z⟩ := back_law (m := freshM sz) ⟨m1, by omega⟩ rfl hr hwh hl hB sq0 sq1 true
  simp only [Bool.false_eq_true, if_false, if_true] at hy
  have hs17 : spanN (freshM sz) e f g ≤ 201 := by omega
  obtain ⟨Av, cv, ev⟩ := hsl.form
  subst ev
  have hb0 := Blk.new w 23 [.int .i64 e, .int .i64 f, .int .i64 g]
  have k0 : Kept w (w.alloc (.cells #[.int .i64 e, .int .i64 f, .int .i64 g] 23)) [] := (Kept.refl w []).alloc _
  have HAW := Lib.hid (awake_any _ (hg.alloc (.cells #[.int .i64 e, .int .i64 f, .int .i64 g] 23)))
  have HFE := Lib.hid (fun W => few_any W e f g)
  have HRR := Lib.hid (fun W => rright_any W e f g)
  have HRT := Lib.hid (fun W => rtotal_any W e f g)
  have hfew : fewG e f g = true := by unfold fewG; simp [hr]; omega
  rw [hfew] at HFE
  rw [hr] at HRR
  rw [← hl] at HRT
  have HFR := Lib.hid (fun W (hg : GeoLaid W) => fresh_any W hg sz e f g z0 z1 hr ht)
  have HG := Lib.hid hg
  have HSL := Lib.hid hsl
  have HBT := Lib.hid hB
  have HBQ := Lib.hid hbq
  have HB0 := Lib.hid hb0
  have K0 := Lib.hid k0
  have ll := hsl.len
  unfold maxLen at ll
  have l0 : (0 : Int) ≤ l.length := by omega
  have l1 : (l.length : Int) ≤ 9223372036854775807 := by omega
  have tl : ((l.length : Int) != (l.length : Int)) = false := by simp
  have HM := Lib.hid (And.intro hd1 (And.intro hr1 (And.intro hd2 (And.intro hy (And.intro hr2 (And.intro hw1 hr3))))))
  have HO := Lib.hid (And.intro o1 (And.intro o2 (And.intro o3 (And.intro o4 (And.intro o5 o6)))))
  have HZ := Lib.hid (And.intro e1z (And.intro e2z (And.intro e3z hs17)))
  clear hg hsl hB hbq hb0 k0 hr ht hl hd1 hr1 hd2 hy hr2 hw1 hr3 o1 o2 o3 o4 o5 o6 e1z e2z e3z hs17 m1 m2 m3 sp1 sp2 hfew ll hwh
  cases second
  all_goals (
    simp only [Bool.false_eq_true, if_false, if_true] at hwb
    have HWB := Lib.hid (And.intro hwb trivial)
    clear hwb
    go_enter Tryd.func6, Tryd.ntmps6
    go_wp2_with fail
    refine HAW.out.mono ?_
    rintro _ x1 ⟨_, rfl, rfl, kx1⟩
    have hbx := HB0.out.kept kx1 (by simp)
    have g10 := hbx.cell 0 rfl
    have g11 := hbx.cell 1 rfl
    have g12 := hbx.cell 2 rfl
    go_wp2_with fail
    refine (HFE.out x1).mono ?_
    rintro _ x2 ⟨_, rfl, rfl, kx2⟩
    have hbx2 := hbx.kept kx2 (by simp)
    have g20 := hbx2.cell 0 rfl
    have g21 := hbx2.cell 1 rfl
    have g22 := hbx2.cell 2 rfl
    go_wp2_with fail
    refine (HRR.out x2).mono ?_
    rintro _ x3 ⟨_, rfl, rfl, kx3⟩
    have hbx3 := hbx2.kept kx3 (by simp)
    have g30 := hbx3.cell 0 rfl
    have g31 := hbx3.cell 1 rfl
    have g32 := hbx3.cell 2 rfl
    go_wp2_with fail
    refine (HRT.out x3).mono ?_
    rintro _ x4 ⟨_, rfl, rfl, kx4⟩
    have hbx4 := hbx3.kept kx4 (by simp)
    have g40 := hbx4.cell 0 rfl
    have g41 := hbx4.cell 1 rfl
    have g42 := hbx4.cell 2 rfl
    have kw4 := (((K0.out.trans kx1 (by simp)).trans kx2 (by simp)).trans kx3 (by simp)).trans kx4 (by simp)
    have HFR1 := Lib.hid (HFR.out x4 (HG.out.kept kw4 (by simp)))
    have KW4 := Lib.hid kw4
    have hplt := hbx4.lt
    go_wp2_with fail
    refine HFR1.out.mono ?_
    rintro _ V0 ⟨_, rfl, ⟨b, F, rfl, hd, hF⟩, kx5⟩
    have hbx5 := hbx4.kept kx5 (by simp)
    have hst0 : St (fun x => x4.heap.size ≤ x) V0 b (DiskS.new (2 * spanN (freshM sz) e f g) (freshM sz)) := ⟨⟨F, hd, hF⟩, fun x hx => Nat.le_trans kx5.size hx⟩
    obtain ⟨A0, hA0⟩ : ∃ A : Nat → Prop, A = fun x => x4.heap.size ≤ x := ⟨_, rfl⟩
    rw [← hA0] at hst0
    have HST0 := Lib.hid hst0
    have HK0 := Lib.hid (KeptA.refl A0 V0)
    have HS0 : Hid (∀ x, A0 x → A0 x) := Lib.hid (fun _ h => h)
    have HP := Lib.hid hbx5
    have HPA : Hid (¬ A0 w.heap.size) := Lib.hid (by rw [hA0]; intro h; have h' : x4.heap.size ≤ w.heap.size := h; omega)
    have HGV := Lib.hid (HG.out.kept (KW4.out.trans kx5 (by simp)) (by simp))
    have HAN : Hid (∀ x, A0 x → nGlobals ≤ x) := Lib.hid (by rw [hA0]; intro x hx; have h1 := HG.out.sz; have h2 := KW4.out.size; have h' : x4.heap.size ≤ x := hx; omega)
    have HSLV := Lib.hid (HSL.out.kept (KW4.out.trans kx5 (by simp)) (.inr (by simp)))
    have HARG : Hid (l = [] ∨ ¬ A0 bq) := Lib.hid (HBQ.out.imp id (fun h => by rw [hA0]; intro h2; have h' : x4.heap.size ≤ bq := h2; have := KW4.out.size; omega))
    have HWK := Lib.hid (show ∀ W, KeptA A0 V0 W → Kept w W [] from fun W h => h.kept (KW4.out.trans kx5 (by simp)) (by rw [hA0]; intro x hx; have h' : x4.heap.size ≤ x := hx; have := KW4.out.size; omega))
    clear hbx hbx2 hbx3 hbx4 hbx5 g10 g11 g12 g20 g21 g22 g30 g31 g32 g40 g41 g42 kx1 kx2 kx3 kx4 kx5 kw4 hplt hd hF hst0 HFR1
    have HC0 := Lib.hid (data_st HST0.out (HK0.out.geo HGV.out HAN.out) (by show 0 < _; decide) which e f g (.slice Av l.length cv) bq off l (HK0.out.sl HSLV.out HARG.out) HBT.out)
    rw [HM.out.1, HWB.out.1] at HC0
    have c00 := (HK0.out.blk HP.out HPA.out).cell 0 rfl
    have c01 := (HK0.out.blk HP.out HPA.out).cell 1 rfl
    have c02 := (HK0.out.blk HP.out HPA.out).cell 2 rfl
    go_wp2_with fail
    refine HC0.out.mono ?_
    rintro _ V1 ⟨rfl, hst, hk⟩
    have HST1 := Lib.hid (show St A0 V1 b d1 from hst)
    have HK1 := Lib.hid (HK0.out.trans (hk.mono HS0.out))
    have HS1 := Lib.hid HS0.out
    clear hst hk HC0
    clear c00 c01 c02
    have HC1 := Lib.hid (read_st HST1.out (HK1.out.geo HGV.out HAN.out) (fun x h => HAN.out x (HS1.out x h)) (by have := HO.out.1; omega) which e f g (by rw [HZ.out.1]; exact HZ.out.2.2.2))
    rw [HM.out.2.1, HWB.out.1] at HC1
    have c10 := (HK1.out.blk HP.out HPA.out).cell 0 rfl
    have c11 := (HK1.out.blk HP.out HPA.out).cell 1 rfl
    have c12 := (HK1.out.blk HP.out HPA.out).cell 2 rfl
    go_wp2_with fail
    refine HC1.out.mono ?_
    rintro _ U2 ⟨Ai2, ci2, q2, rfl, hs, hq, hst, hk⟩
    obtain ⟨A2, hA1, hA2, hA3, hst2⟩ : ∃ B : Nat → Prop, (∀ x, B x → A0 x) ∧ (¬ B U2.heap.size) ∧ ([] = ([] : List Int) ∨ ¬ B q2) ∧ St B (U2.alloc (.cells #[.int .i64 0, .int .i64 6, .int .u64 0, .slice Ai2 0 ci2] 37)) b s1 := ⟨_, fun x h => h.1.1, fun h => h.2 rfl, (by
      by_cases e0 : [] = ([] : List Int)
      · exact .inl e0
      · exact .inr (fun h => h.1.2.elim (fun h => h rfl) e0)), hst.alloc_hold (.cells #[.int .i64 0, .int .i64 6, .int .u64 0, .slice Ai2 0 ci2] 37)⟩
    have HST2 := Lib.hid hst2
    have HS2 := Lib.hid (fun x h => HS1.out x (hA1 x h))
    have hk2 : KeptA A0 V1 (U2.alloc (.cells #[.int .i64 0, .int .i64 6, .int .u64 0, .slice Ai2 0 ci2] 37)) := hk.trans (KeptA.of0 ((Kept.refl _ []).alloc _))
    have HK2 := Lib.hid (HK1.out.trans (hk2.mono HS1.out))
    have HBX_2 := Lib.hid (Blk.new U2 37 [.int .i64 0, .int .i64 6, .int .u64 0, .slice Ai2 0 ci2])
    have HNX_2 := Lib.hid hA2
    generalize hV2 : U2.alloc (.cells #[.int .i64 0, .int .i64 6, .int .u64 0, .slice Ai2 0 ci2] 37) = V2 at *
    clear hst hst2 hk hk2 hs hq hA1 hA2 hA3 HC1
    clear c10 c11 c12
    have HC2 := Lib.hid (seal_st HST2.out (HK2.out.geo HGV.out HAN.out) (by have := HO.out.2.1; omega) which e f g seq sq0 sq1 (.slice Av l.length cv) bq off l (HK2.out.sl HSLV.out HARG.out) HBT.out)
    rw [HM.out.2.2.1, HWB.out.1] at HC2
    have c20 := (HK2.out.blk HP.out HPA.out).cell 0 rfl
    have c21 := (HK2.out.blk HP.out HPA.out).cell 1 rfl
    have c22 := (HK2.out.blk HP.out HPA.out).cell 2 rfl
    go_wp2_with fail
    refine HC2.out.mono ?_
    rintro _ V3 ⟨rfl, hst, hk⟩
    have HST3 := Lib.hid (show St A2 V3 b s2 from hst)
    have HK3 := Lib.hid (HK2.out.trans (hk.mono HS2.out))
    have HS3 := Lib.hid HS2.out
    have HBX_3 := Lib.hid (hk.blk HBX_2.out HNX_2.out)
    have HNX_3 := Lib.hid HNX_2.out
    clear hst hk HC2
    clear c20 c21 c22
    have HC3 := Lib.hid (sync_st HST3.out (by have := HO.out.2.2.1; omega))
    rw [HM.out.2.2.2.1] at HC3
    have c30 := (HK3.out.blk HP.out HPA.out).cell 0 rfl
    have c31 := (HK3.out.blk HP.out HPA.out).cell 1 rfl
    have c32 := (HK3.out.blk HP.out HPA.out).cell 2 rfl
    go_wp2_with fail
    refine HC3.out.mono ?_
    rintro _ V4 ⟨rfl, hst, hk⟩
    have HST4 := Lib.hid (show St A2 V4 b y2 from hst)
    have HK4 := Lib.hid (HK3.out.trans (hk.mono HS3.out))
    have HS4 := Lib.hid HS3.out
    have HBX_4 := Lib.hid (hk.blk HBX_3.out HNX_3.out)
    have HNX_4 := Lib.hid HNX_3.out
    clear hst hk HC3
    clear c30 c31 c32
    have HC4 := Lib.hid (read_st HST4.out (HK4.out.geo HGV.out HAN.out) (fun x h => HAN.out x (HS4.out x h)) (by have := HO.out.2.2.2.1; omega) which e f g (by rw [HZ.out.2.1]; exact HZ.out.2.2.2))
    rw [HM.out.2.2.2.2.1, HWB.out.1] at HC4
    have c40 := (HK4.out.blk HP.out HPA.out).cell 0 rfl
    have c41 := (HK4.out.blk HP.out HPA.out).cell 1 rfl
    have c42 := (HK4.out.blk HP.out HPA.out).cell 2 rfl
    go_wp2_with fail
    refine HC4.out.mono ?_
    rintro _ U5 ⟨Ai5, ci5, q5, rfl, hs, hq, hst, hk⟩
    obtain ⟨A5, hA1, hA2, hA3, hst2⟩ : ∃ B : Nat → Prop, (∀ x, B x → A2 x) ∧ (¬ B U5.heap.size) ∧ (l = ([] : List Int) ∨ ¬ B q5) ∧ St B (U5.alloc (.cells #[.int .i64 2, .int .i64 0, .int .u64 seq, .slice Ai5 l.length ci5] 37)) b s3 := ⟨_, fun x h => h.1.1, fun h => h.2 rfl, (by
      by_cases e0 : l = ([] : List Int)
      · exact .inl e0
      · exact .inr (fun h => h.1.2.elim (fun h => h rfl) e0)), hst.alloc_hold (.cells #[.int .i64 2, .int .i64 0, .int .u64 seq, .slice Ai5 l.length ci5] 37)⟩
    have HST5 := Lib.hid hst2
    have HS5 := Lib.hid (fun x h => HS4.out x (hA1 x h))
    have hk2 : KeptA A2 V4 (U5.alloc (.cells #[.int .i64 2, .int .i64 0, .int .u64 seq, .slice Ai5 l.length ci5] 37)) := hk.trans (KeptA.of0 ((Kept.refl _ []).alloc _))
    have HK5 := Lib.hid (HK4.out.trans (hk2.mono HS4.out))
    have HBY_5 := Lib.hid (Blk.new U5 37 [.int .i64 2, .int .i64 0, .int .u64 seq, .slice Ai5 l.length ci5])
    have HNY_5 := Lib.hid hA2
    have HBX_5 := Lib.hid (hk2.blk HBX_4.out HNX_4.out)
    have HNX_5 : Hid (¬ A5 _) := Lib.hid (fun h => HNX_4.out (hA1 _ h))
    have HI5 := Lib.hid ((KeptA.of0 (A := A5) ((Kept.refl U5 []).alloc (.cells #[.int .i64 2, .int .i64 0, .int .u64 seq, .slice Ai5 l.length ci5] 37))).sl hs hA3)
    have HIN5 := Lib.hid hA3
    generalize hV5 : U5.alloc (.cells #[.int .i64 2, .int .i64 0, .int .u64 seq, .slice Ai5 l.length ci5] 37) = V5 at *
    clear hst hst2 hk hk2 hs hq hA1 hA2 hA3 HC4
    clear c40 c41 c42
    have HC5 := Lib.hid (wipe_st HST5.out (HK5.out.geo HGV.out HAN.out) (fun x h => HAN.out x (HS5.out x h)) (by have := HO.out.2.2.2.2.1; omega) which e f g)
    rw [HM.out.2.2.2.2.2.1, HWB.out.1] at HC5
    have c50 := (HK5.out.blk HP.out HPA.out).cell 0 rfl
    have c51 := (HK5.out.blk HP.out HPA.out).cell 1 rfl
    have c52 := (HK5.out.blk HP.out HPA.out).cell 2 rfl
    go_wp2_with fail
    refine HC5.out.mono ?_
    rintro _ V6 ⟨rfl, hst, hk⟩
    have HST6 := Lib.hid (show St A5 V6 b w1 from hst)
    have HK6 := Lib.hid (HK5.out.trans (hk.mono HS5.out))
    have HS6 := Lib.hid HS5.out
    have HBX_6 := Lib.hid (hk.blk HBX_5.out HNX_5.out)
    have HNX_6 := Lib.hid HNX_5.out
    have HBY_6 := Lib.hid (hk.blk HBY_5.out HNY_5.out)
    have HNY_6 := Lib.hid HNY_5.out
    have HI6 := Lib.hid (hk.sl HI5.out HIN5.out)
    have HIN6 := Lib.hid HIN5.out
    clear hst hk HC5
    clear c50 c51 c52
    have HC6 := Lib.hid (read_st HST6.out (HK6.out.geo HGV.out HAN.out) (fun x h => HAN.out x (HS6.out x h)) (by have := HO.out.2.2.2.2.2; omega) which e f g (by rw [HZ.out.2.2.1]; exact HZ.out.2.2.2))
    rw [HM.out.2.2.2.2.2.2, HWB.out.1] at HC6
    have c60 := (HK6.out.blk HP.out HPA.out).cell 0 rfl
    have c61 := (HK6.out.blk HP.out HPA.out).cell 1 rfl
    have c62 := (HK6.out.blk HP.out HPA.out).cell 2 rfl
    go_wp2_with fail
    refine HC6.out.mono ?_
    rintro _ U7 ⟨Ai7, ci7, q7, rfl, hs, hq, hst, hk⟩
    obtain ⟨A7, hA1, hA2, hA3, hst2⟩ : ∃ B : Nat → Prop, (∀ x, B x → A5 x) ∧ (¬ B U7.heap.size) ∧ ([] = ([] : List Int) ∨ ¬ B q7) ∧ St B (U7.alloc (.cells #[.int .i64 0, .int .i64 6, .int .u64 0, .slice Ai7 0 ci7] 37)) b s4 := ⟨_, fun x h => h.1.1, fun h => h.2 rfl, (by
      by_cases e0 : [] = ([] : List Int)
      · exact .inl e0
      · exact .inr (fun h => h.1.2.elim (fun h => h rfl) e0)), hst.alloc_hold (.cells #[.int .i64 0, .int .i64 6, .int .u64 0, .slice Ai7 0 ci7] 37)⟩
    have HST7 := Lib.hid hst2
    have HS7 := Lib.hid (fun x h => HS6.out x (hA1 x h))
    have hk2 : KeptA A5 V6 (U7.alloc (.cells #[.int .i64 0, .int .i64 6, .int .u64 0, .slice Ai7 0 ci7] 37)) := hk.trans (KeptA.of0 ((Kept.refl _ []).alloc _))
    have HK7 := Lib.hid (HK6.out.trans (hk2.mono HS6.out))
    have HBZ_7 := Lib.hid (Blk.new U7 37 [.int .i64 0, .int .i64 6, .int .u64 0, .slice Ai7 0 ci7])
    have HNZ_7 := Lib.hid hA2
    have HBX_7 := Lib.hid (hk2.blk HBX_6.out HNX_6.out)
    have HNX_7 : Hid (¬ A7 _) := Lib.hid (fun h => HNX_6.out (hA1 _ h))
    have HBY_7 := Lib.hid (hk2.blk HBY_6.out HNY_6.out)
    have HNY_7 : Hid (¬ A7 _) := Lib.hid (fun h => HNY_6.out (hA1 _ h))
    have HI7 := Lib.hid (hk2.sl HI6.out HIN6.out)
    have HIN7 := Lib.hid (HIN6.out.imp id (fun hn h => hn (hA1 _ h)))
    generalize hV7 : U7.alloc (.cells #[.int .i64 0, .int .i64 6, .int .u64 0, .slice Ai7 0 ci7] 37) = V7 at *
    clear hst hst2 hk hk2 hs hq hA1 hA2 hA3 HC6
    clear c60 c61 c62

    have gx0 := HBX_7.out.cell 0 rfl
    have gx1 := HBX_7.out.cell 1 rfl
    have gy0 := HBY_7.out.cell 0 rfl
    have gy2 := HBY_7.out.cell 2 rfl
    have gy3 := HBY_7.out.cell 3 rfl
    have gz0 := HBZ_7.out.cell 0 rfl
    have HSM := Lib.hid (same_any V7 _ _ q5 0 bq off l l HI7.out (HK7.out.sl HSLV.out HARG.out))
    rw [show decide (l = l) = true by simp] at HSM
    have tq : (seq == seq) = true := by simp
    go_wp2_with fail
    refine HSM.out.mono ?_
    rintro _ E ⟨_, rfl, rfl, ke⟩
    have hz := (HBZ_7.out.kept ke (by simp)).cell 0 rfl
    have KE := Lib.hid ((HWK.out _ HK7.out).trans ke (by simp))
    clear gx0 gx1 gy0 gy2 gy3 gz0 ke HSM
    go_wp2_with fail
    go_ret
    exact ⟨_, rfl, rfl, KE.out⟩)
set_option maxRecDepth 100000 in
set_option maxHeartbeats 1500000 in
theorem backF (w : World) (hg : GeoLaid w) (e f g : Int) (v : Value) (bq off : Nat) (l : List Int) (sz : Int) (second : Bool) (seq : Int) (hsl : Sl .u8 w v bq off l) (hB : Bts l) (hbq : l = [] ∨ bq < w.heap.size) (z0 : 0 ≤ sz) (z1 : sz ≤ 255) (sq0 : 0 ≤ seq) (sq1 : seq ≤ 18446744073709551615)
    (hr : gRight e f g = true) (ht : gTotal e f g ≤ 500) (hl : l.length = gTotal e f g) :
    Calls Tryd.prog 6 #[.agg #[.int .i64 e, .int .i64 f, .int .i64 g], v, .int .u8 sz, .bool second, .int .u64 seq, .bool false] w (Post w [] fun r W => r = .bool true) := by
  obtain ⟨m1, m2, m3⟩ := freshM_bd sz
  obtain ⟨sp1, sp2⟩ := span_few hr ht (freshM sz) m1 (by omega)
  obtain ⟨which, hwh, hwb⟩ : ∃ which : Int, (which = 0 ∨ which = 1) ∧ which = if second = true then 1 else 0 := by
    cases second
    · exact ⟨0, .inl rfl, rfl⟩
    · exact ⟨1, .inr rfl, rfl⟩
  obtain ⟨d1, s1, s2, y2, s3, w1, s4, hd1, hr1, hd2, hy, hr2, hw1, hr3, o1, o2, o3, o4, o5, o6, e1z, e2z, e3z⟩ := back_law (m := freshM sz) ⟨m1, by omega⟩ rfl hr hwh hl hB sq0 sq1 false
  simp only [Bool.false_eq_true, if_false, if_true] at hy
  obtain ⟨rfl, _⟩ := Prod.mk.inj hy
  have hs17 : spanN (freshM sz) e f g ≤ 201 := by omega
  obtain ⟨Av, cv, ev⟩ := hsl.form
  subst ev
  have hb0 := Blk.new w 23 [.int .i64 e, .int .i64 f, .int .i64 g]
  have k0 : Kept w (w.alloc (.cells #[.int .i64 e, .int .i64 f, .int .i64 g] 23)) [] := (Kept.refl w []).alloc _
  have HAW := Lib.hid (awake_any _ (hg.alloc (.cells #[.int .i64 e, .int .i64 f, .int .i64 g] 23)))
  have HFE := Lib.hid (fun W => few_any W e f g)
  have HRR := Lib.hid (fun W => rright_any W e f g)
  have HRT := Lib.hid (fun W => rtotal_any W e f g)
  have hfew : fewG e f g = true := by unfold fewG; simp [hr]; omega
  rw [hfew] at HFE
  rw [hr] at HRR
  rw [← hl] at HRT
  have HFR := Lib.hid (fun W (hg : GeoLaid W) => fresh_any W hg sz e f g z0 z1 hr ht)
  have HG := Lib.hid hg
  have HSL := Lib.hid hsl
  have HBT := Lib.hid hB
  have HBQ := Lib.hid hbq
  have HB0 := Lib.hid hb0
  have K0 := Lib.hid k0
  have ll := hsl.len
  unfold maxLen at ll
  have l0 : (0 : Int) ≤ l.length := by omega
  have l1 : (l.length : Int) ≤ 9223372036854775807 := by omega
  have tl : ((l.length : Int) != (l.length : Int)) = false := by simp
  have HM := Lib.hid (And.intro hd1 (And.intro hr1 (And.intro hd2 (And.intro hy (And.intro hr2 (And.intro hw1 hr3))))))
  have HO := Lib.hid (And.intro o1 (And.intro o2 (And.intro o3 (And.intro o4 (And.intro o5 o6)))))
  have HZ := Lib.hid (And.intro e1z (And.intro e2z (And.intro e3z hs17)))
  clear hg hsl hB hbq hb0 k0 hr ht hl hd1 hr1 hd2 hy hr2 hw1 hr3 o1 o2 o3 o4 o5 o6 e1z e2z e3z hs17 m1 m2 m3 sp1 sp2 hfew ll hwh
  cases second
  all_goals (
    simp only [Bool.false_eq_true, if_false, if_true] at hwb
    have HWB := Lib.hid (And.intro hwb trivial)
    clear hwb
    go_enter Tryd.func6, Tryd.ntmps6
    go_wp2_with fail
    refine HAW.out.mono ?_
    rintro _ x1 ⟨_, rfl, rfl, kx1⟩
    have hbx := HB0.out.kept kx1 (by simp)
    have g10 := hbx.cell 0 rfl
    have g11 := hbx.cell 1 rfl
    have g12 := hbx.cell 2 rfl
    go_wp2_with fail
    refine (HFE.out x1).mono ?_
    rintro _ x2 ⟨_, rfl, rfl, kx2⟩
    have hbx2 := hbx.kept kx2 (by simp)
    have g20 := hbx2.cell 0 rfl
    have g21 := hbx2.cell 1 rfl
    have g22 := hbx2.cell 2 rfl
    go_wp2_with fail
    refine (HRR.out x2).mono ?_
    rintro _ x3 ⟨_, rfl, rfl, kx3⟩
    have hbx3 := hbx2.kept kx3 (by simp)
    have g30 := hbx3.cell 0 rfl
    have g31 := hbx3.cell 1 rfl
    have g32 := hbx3.cell 2 rfl
    go_wp2_with fail
    refine (HRT.out x3).mono ?_
    rintro _ x4 ⟨_, rfl, rfl, kx4⟩
    have hbx4 := hbx3.kept kx4 (by simp)
    have g40 := hbx4.cell 0 rfl
    have g41 := hbx4.cell 1 rfl
    have g42 := hbx4.cell 2 rfl
    have kw4 := (((K0.out.trans kx1 (by simp)).trans kx2 (by simp)).trans kx3 (by simp)).trans kx4 (by simp)
    have HFR1 := Lib.hid (HFR.out x4 (HG.out.kept kw4 (by simp)))
    have KW4 := Lib.hid kw4
    have hplt := hbx4.lt
    go_wp2_with fail
    refine HFR1.out.mono ?_
    rintro _ V0 ⟨_, rfl, ⟨b, F, rfl, hd, hF⟩, kx5⟩
    have hbx5 := hbx4.kept kx5 (by simp)
    have hst0 : St (fun x => x4.heap.size ≤ x) V0 b (DiskS.new (2 * spanN (freshM sz) e f g) (freshM sz)) := ⟨⟨F, hd, hF⟩, fun x hx => Nat.le_trans kx5.size hx⟩
    obtain ⟨A0, hA0⟩ : ∃ A : Nat → Prop, A = fun x => x4.heap.size ≤ x := ⟨_, rfl⟩
    rw [← hA0] at hst0
    have HST0 := Lib.hid hst0
    have HK0 := Lib.hid (KeptA.refl A0 V0)
    have HS0 : Hid (∀ x, A0 x → A0 x) := Lib.hid (fun _ h => h)
    have HP := Lib.hid hbx5
    have HPA : Hid (¬ A0 w.heap.size) := Lib.hid (by rw [hA0]; intro h; have h' : x4.heap.size ≤ w.heap.size := h; omega)
    have HGV := Lib.hid (HG.out.kept (KW4.out.trans kx5 (by simp)) (by simp))
    have HAN : Hid (∀ x, A0 x → nGlobals ≤ x) := Lib.hid (by rw [hA0]; intro x hx; have h1 := HG.out.sz; have h2 := KW4.out.size; have h' : x4.heap.size ≤ x := hx; omega)
    have HSLV := Lib.hid (HSL.out.kept (KW4.out.trans kx5 (by simp)) (.inr (by simp)))
    have HARG : Hid (l = [] ∨ ¬ A0 bq) := Lib.hid (HBQ.out.imp id (fun h => by rw [hA0]; intro h2; have h' : x4.heap.size ≤ bq := h2; have := KW4.out.size; omega))
    have HWK := Lib.hid (show ∀ W, KeptA A0 V0 W → Kept w W [] from fun W h => h.kept (KW4.out.trans kx5 (by simp)) (by rw [hA0]; intro x hx; have h' : x4.heap.size ≤ x := hx; have := KW4.out.size; omega))
    clear hbx hbx2 hbx3 hbx4 hbx5 g10 g11 g12 g20 g21 g22 g30 g31 g32 g40 g41 g42 kx1 kx2 kx3 kx4 kx5 kw4 hplt hd hF hst0 HFR1
    have HC0 := Lib.hid (data_st HST0.out (HK0.out.geo HGV.out HAN.out) (by show 0 < _; decide) which e f g (.slice Av l.length cv) bq off l (HK0.out.sl HSLV.out HARG.out) HBT.out)
    rw [HM.out.1, HWB.out.1] at HC0
    have c00 := (HK0.out.blk HP.out HPA.out).cell 0 rfl
    have c01 := (HK0.out.blk HP.out HPA.out).cell 1 rfl
    have c02 := (HK0.out.blk HP.out HPA.out).cell 2 rfl
    go_wp2_with fail
    refine HC0.out.mono ?_
    rintro _ V1 ⟨rfl, hst, hk⟩
    have HST1 := Lib.hid (show St A0 V1 b d1 from hst)
    have HK1 := Lib.hid (HK0.out.trans (hk.mono HS0.out))
    have HS1 := Lib.hid HS0.out
    clear hst hk HC0
    clear c00 c01 c02
    have HC1 := Lib.hid (read_st HST1.out (HK1.out.geo HGV.out HAN.out) (fun x h => HAN.out x (HS1.out x h)) (by have := HO.out.1; omega) which e f g (by rw [HZ.out.1]; exact HZ.out.2.2.2))
    rw [HM.out.2.1, HWB.out.1] at HC1
    have c10 := (HK1.out.blk HP.out HPA.out).cell 0 rfl
    have c11 := (HK1.out.blk HP.out HPA.out).cell 1 rfl
    have c12 := (HK1.out.blk HP.out HPA.out).cell 2 rfl
    go_wp2_with fail
    refine HC1.out.mono ?_
    rintro _ U2 ⟨Ai2, ci2, q2, rfl, hs, hq, hst, hk⟩
    obtain ⟨A2, hA1, hA2, hA3, hst2⟩ : ∃ B : Nat → Prop, (∀ x, B x → A0 x) ∧ (¬ B U2.heap.size) ∧ ([] = ([] : List Int) ∨ ¬ B q2) ∧ St B (U2.alloc (.cells #[.int .i64 0, .int .i64 6, .int .u64 0, .slice Ai2 0 ci2] 37)) b s1 := ⟨_, fun x h => h.1.1, fun h => h.2 rfl, (by
      by_cases e0 : [] = ([] : List Int)
      · exact .inl e0
      · exact .inr (fun h => h.1.2.elim (fun h => h rfl) e0)), hst.alloc_hold (.cells #[.int .i64 0, .int .i64 6, .int .u64 0, .slice Ai2 0 ci2] 37)⟩
    have HST2 := Lib.hid hst2
    have HS2 := Lib.hid (fun x h => HS1.out x (hA1 x h))
    have hk2 : KeptA A0 V1 (U2.alloc (.cells #[.int .i64 0, .int .i64 6, .int .u64 0, .slice Ai2 0 ci2] 37)) := hk.trans (KeptA.of0 ((Kept.refl _ []).alloc _))
    have HK2 := Lib.hid (HK1.out.trans (hk2.mono HS1.out))
    have HBX_2 := Lib.hid (Blk.new U2 37 [.int .i64 0, .int .i64 6, .int .u64 0, .slice Ai2 0 ci2])
    have HNX_2 := Lib.hid hA2
    generalize hV2 : U2.alloc (.cells #[.int .i64 0, .int .i64 6, .int .u64 0, .slice Ai2 0 ci2] 37) = V2 at *
    clear hst hst2 hk hk2 hs hq hA1 hA2 hA3 HC1
    clear c10 c11 c12
    have HC2 := Lib.hid (seal_st HST2.out (HK2.out.geo HGV.out HAN.out) (by have := HO.out.2.1; omega) which e f g seq sq0 sq1 (.slice Av l.length cv) bq off l (HK2.out.sl HSLV.out HARG.out) HBT.out)
    rw [HM.out.2.2.1, HWB.out.1] at HC2
    have c20 := (HK2.out.blk HP.out HPA.out).cell 0 rfl
    have c21 := (HK2.out.blk HP.out HPA.out).cell 1 rfl
    have c22 := (HK2.out.blk HP.out HPA.out).cell 2 rfl
    go_wp2_with fail
    refine HC2.out.mono ?_
    rintro _ V3 ⟨rfl, hst, hk⟩
    have HST3 := Lib.hid (show St A2 V3 b s2 from hst)
    have HK3 := Lib.hid (HK2.out.trans (hk.mono HS2.out))
    have HS3 := Lib.hid HS2.out
    have HBX_3 := Lib.hid (hk.blk HBX_2.out HNX_2.out)
    have HNX_3 := Lib.hid HNX_2.out
    clear hst hk HC2
    clear c20 c21 c22
    have HC3 := Lib.hid (read_st HST3.out (HK3.out.geo HGV.out HAN.out) (fun x h => HAN.out x (HS3.out x h)) (by have := HO.out.2.2.2.1; omega) which e f g (by rw [HZ.out.2.1]; exact HZ.out.2.2.2))
    rw [HM.out.2.2.2.2.1, HWB.out.1] at HC3
    have c30 := (HK3.out.blk HP.out HPA.out).cell 0 rfl
    have c31 := (HK3.out.blk HP.out HPA.out).cell 1 rfl
    have c32 := (HK3.out.blk HP.out HPA.out).cell 2 rfl
    go_wp2_with fail
    refine HC3.out.mono ?_
    rintro _ U4 ⟨Ai4, ci4, q4, rfl, hs, hq, hst, hk⟩
    obtain ⟨A4, hA1, hA2, hA3, hst2⟩ : ∃ B : Nat → Prop, (∀ x, B x → A2 x) ∧ (¬ B U4.heap.size) ∧ (l = ([] : List Int) ∨ ¬ B q4) ∧ St B (U4.alloc (.cells #[.int .i64 2, .int .i64 0, .int .u64 seq, .slice Ai4 l.length ci4] 37)) b s3 := ⟨_, fun x h => h.1.1, fun h => h.2 rfl, (by
      by_cases e0 : l = ([] : List Int)
      · exact .inl e0
      · exact .inr (fun h => h.1.2.elim (fun h => h rfl) e0)), hst.alloc_hold (.cells #[.int .i64 2, .int .i64 0, .int .u64 seq, .slice Ai4 l.length ci4] 37)⟩
    have HST4 := Lib.hid hst2
    have HS4 := Lib.hid (fun x h => HS3.out x (hA1 x h))
    have hk2 : KeptA A2 V3 (U4.alloc (.cells #[.int .i64 2, .int .i64 0, .int .u64 seq, .slice Ai4 l.length ci4] 37)) := hk.trans (KeptA.of0 ((Kept.refl _ []).alloc _))
    have HK4 := Lib.hid (HK3.out.trans (hk2.mono HS3.out))
    have HBY_4 := Lib.hid (Blk.new U4 37 [.int .i64 2, .int .i64 0, .int .u64 seq, .slice Ai4 l.length ci4])
    have HNY_4 := Lib.hid hA2
    have HBX_4 := Lib.hid (hk2.blk HBX_3.out HNX_3.out)
    have HNX_4 : Hid (¬ A4 _) := Lib.hid (fun h => HNX_3.out (hA1 _ h))
    have HI4 := Lib.hid ((KeptA.of0 (A := A4) ((Kept.refl U4 []).alloc (.cells #[.int .i64 2, .int .i64 0, .int .u64 seq, .slice Ai4 l.length ci4] 37))).sl hs hA3)
    have HIN4 := Lib.hid hA3
    generalize hV4 : U4.alloc (.cells #[.int .i64 2, .int .i64 0, .int .u64 seq, .slice Ai4 l.length ci4] 37) = V4 at *
    clear hst hst2 hk hk2 hs hq hA1 hA2 hA3 HC3
    clear c30 c31 c32
    have HC4 := Lib.hid (wipe_st HST4.out (HK4.out.geo HGV.out HAN.out) (fun x h => HAN.out x (HS4.out x h)) (by have := HO.out.2.2.2.2.1; omega) which e f g)
    rw [HM.out.2.2.2.2.2.1, HWB.out.1] at HC4
    have c40 := (HK4.out.blk HP.out HPA.out).cell 0 rfl
    have c41 := (HK4.out.blk HP.out HPA.out).cell 1 rfl
    have c42 := (HK4.out.blk HP.out HPA.out).cell 2 rfl
    go_wp2_with fail
    refine HC4.out.mono ?_
    rintro _ V5 ⟨rfl, hst, hk⟩
    have HST5 := Lib.hid (show St A4 V5 b w1 from hst)
    have HK5 := Lib.hid (HK4.out.trans (hk.mono HS4.out))
    have HS5 := Lib.hid HS4.out
    have HBX_5 := Lib.hid (hk.blk HBX_4.out HNX_4.out)
    have HNX_5 := Lib.hid HNX_4.out
    have HBY_5 := Lib.hid (hk.blk HBY_4.out HNY_4.out)
    have HNY_5 := Lib.hid HNY_4.out
    have HI5 := Lib.hid (hk.sl HI4.out HIN4.out)
    have HIN5 := Lib.hid HIN4.out
    clear hst hk HC4
    clear c40 c41 c42
    have HC5 := Lib.hid (read_st HST5.out (HK5.out.geo HGV.out HAN.out) (fun x h => HAN.out x (HS5.out x h)) (by have := HO.out.2.2.2.2.2; omega) which e f g (by rw [HZ.out.2.2.1]; exact HZ.out.2.2.2))
    rw [HM.out.2.2.2.2.2.2, HWB.out.1] at HC5
    have c50 := (HK5.out.blk HP.out HPA.out).cell 0 rfl
    have c51 := (HK5.out.blk HP.out HPA.out).cell 1 rfl
    have c52 := (HK5.out.blk HP.out HPA.out).cell 2 rfl
    go_wp2_with fail
    refine HC5.out.mono ?_
    rintro _ U6 ⟨Ai6, ci6, q6, rfl, hs, hq, hst, hk⟩
    obtain ⟨A6, hA1, hA2, hA3, hst2⟩ : ∃ B : Nat → Prop, (∀ x, B x → A4 x) ∧ (¬ B U6.heap.size) ∧ ([] = ([] : List Int) ∨ ¬ B q6) ∧ St B (U6.alloc (.cells #[.int .i64 0, .int .i64 6, .int .u64 0, .slice Ai6 0 ci6] 37)) b s4 := ⟨_, fun x h => h.1.1, fun h => h.2 rfl, (by
      by_cases e0 : [] = ([] : List Int)
      · exact .inl e0
      · exact .inr (fun h => h.1.2.elim (fun h => h rfl) e0)), hst.alloc_hold (.cells #[.int .i64 0, .int .i64 6, .int .u64 0, .slice Ai6 0 ci6] 37)⟩
    have HST6 := Lib.hid hst2
    have HS6 := Lib.hid (fun x h => HS5.out x (hA1 x h))
    have hk2 : KeptA A4 V5 (U6.alloc (.cells #[.int .i64 0, .int .i64 6, .int .u64 0, .slice Ai6 0 ci6] 37)) := hk.trans (KeptA.of0 ((Kept.refl _ []).alloc _))
    have HK6 := Lib.hid (HK5.out.trans (hk2.mono HS5.out))
    have HBZ_6 := Lib.hid (Blk.new U6 37 [.int .i64 0, .int .i64 6, .int .u64 0, .slice Ai6 0 ci6])
    have HNZ_6 := Lib.hid hA2
    have HBX_6 := Lib.hid (hk2.blk HBX_5.out HNX_5.out)
    have HNX_6 : Hid (¬ A6 _) := Lib.hid (fun h => HNX_5.out (hA1 _ h))
    have HBY_6 := Lib.hid (hk2.blk HBY_5.out HNY_5.out)
    have HNY_6 : Hid (¬ A6 _) := Lib.hid (fun h => HNY_5.out (hA1 _ h))
    have HI6 := Lib.hid (hk2.sl HI5.out HIN5.out)
    have HIN6 := Lib.hid (HIN5.out.imp id (fun hn h => hn (hA1 _ h)))
    generalize hV6 : U6.alloc (.cells #[.int .i64 0, .int .i64 6, .int .u64 0, .slice Ai6 0 ci6] 37) = V6 at *
    clear hst hst2 hk hk2 hs hq hA1 hA2 hA3 HC5
    clear c50 c51 c52

    have gx0 := HBX_6.out.cell 0 rfl
    have gx1 := HBX_6.out.cell 1 rfl
    have gy0 := HBY_6.out.cell 0 rfl
    have gy2 := HBY_6.out.cell 2 rfl
    have gy3 := HBY_6.out.cell 3 rfl
    have gz0 := HBZ_6.out.cell 0 rfl
    have HSM := Lib.hid (same_any V6 _ _ q4 0 bq off l l HI6.out (HK6.out.sl HSLV.out HARG.out))
    rw [show decide (l = l) = true by simp] at HSM
    have tq : (seq == seq) = true := by simp
    go_wp2_with fail
    refine HSM.out.mono ?_
    rintro _ E ⟨_, rfl, rfl, ke⟩
    have hz := (HBZ_6.out.kept ke (by simp)).cell 0 rfl
    have KE := Lib.hid ((HWK.out _ HK6.out).trans ke (by simp))
    clear gx0 gx1 gy0 gy2 gy3 gz0 ke HSM
    go_wp2_with fail
    go_ret
    exact ⟨_, rfl, rfl, KE.out⟩)
set_option maxRecDepth 100000 in
set_option maxHeartbeats 1500000 in
theorem SlotBack_post (w : World) (hg : GeoLaid w) (e f g : Int) (v : Value) (bq off : Nat) (l : List Int) (sz : Int) (second : Bool) (seq : Int) (sync : Bool) (hsl : Sl .u8 w v bq off l) (hB : Bts l) (hbq : l = [] ∨ bq < w.heap.size) (z0 : 0 ≤ sz) (z1 : sz ≤ 255) (sq0 : 0 ≤ seq) (sq1 : seq ≤ 18446744073709551615) :
    Calls Tryd.prog 6 #[.agg #[.int .i64 e, .int .i64 f, .int .i64 g], v, .int .u8 sz, .bool second, .int .u64 seq, .bool sync] w (Post w [] fun r W => r = .bool true) := by
  have hb0 := Blk.new w 23 [.int .i64 e, .int .i64 f, .int .i64 g]
  have k0 : Kept w (w.alloc (.cells #[.int .i64 e, .int .i64 f, .int .i64 g] 23)) [] := (Kept.refl w []).alloc _
  have HAW := Lib.hid (awake_any _ (hg.alloc (.cells #[.int .i64 e, .int .i64 f, .int .i64 g] 23)))
  have HFE := Lib.hid (fun W => few_any W e f g)
  have HRR := Lib.hid (fun W => rright_any W e f g)
  have HRT := Lib.hid (fun W => rtotal_any W e f g)
  have HB0 := Lib.hid hb0
  have K0 := Lib.hid k0
  by_cases hgood : gRight e f g = true ∧ gTotal e f g ≤ 500 ∧ l.length = gTotal e f g
  · obtain ⟨hr, ht, hl⟩ := hgood
    cases sync
    · exact backF w hg e f g v bq off l sz second seq hsl hB hbq z0 z1 sq0 sq1 hr ht hl
    · exact backT w hg e f g v bq off l sz second seq hsl hB hbq z0 z1 sq0 sq1 hr ht hl
  obtain ⟨Av, cv, ev⟩ := hsl.form
  subst ev
  have ll := hsl.len
  unfold maxLen at ll
  have l0 : (0 : Int) ≤ l.length := by omega
  have l1 : (l.length : Int) ≤ 9223372036854775807 := by omega
  cases hr : gRight e f g
  · rw [hr] at HRR
    rw [show fewG e f g = true by unfold fewG; rw [hr]; rfl] at HFE
    clear hg hsl hB hbq hb0 k0 hr hgood ll
    go_enter Tryd.func6, Tryd.ntmps6
    go_wp2_with fail
    refine HAW.out.mono ?_
    rintro _ x1 ⟨_, rfl, rfl, kx1⟩
    have hbx := HB0.out.kept kx1 (by simp)
    have g10 := hbx.cell 0 rfl
    have g11 := hbx.cell 1 rfl
    have g12 := hbx.cell 2 rfl
    go_wp2_with fail
    refine (HFE.out x1).mono ?_
    rintro _ x2 ⟨_, rfl, rfl, kx2⟩
    have hbx2 := hbx.kept kx2 (by simp)
    have g20 := hbx2.cell 0 rfl
    have g21 := hbx2.cell 1 rfl
    have g22 := hbx2.cell 2 rfl
    go_wp2_with fail
    refine (HRR.out x2).mono ?_
    rintro _ x3 ⟨_, rfl, rfl, kx3⟩
    have KX := Lib.hid (((K0.out.trans kx1 (by simp)).trans kx2 (by simp)).trans kx3 (by simp))
    clear kx1 kx2 kx3
    go_wp2_with fail
    go_ret
    exact ⟨_, rfl, rfl, KX.out⟩
  rw [hr] at HRR
  by_cases ht : gTotal e f g ≤ 500
  · have hl : l.length ≠ gTotal e f g := fun h => hgood ⟨hr, ht, h⟩
    rw [show fewG e f g = true by unfold fewG; rw [hr]; simp; omega] at HFE
    generalize gTotal e f g = T at *
    have tl : ((l.length : Int) != (T : Int)) = true := by simp; omega
    clear hg hsl hB hbq hb0 k0 hr hgood ht hl ll
    go_enter Tryd.func6, Tryd.ntmps6
    go_wp2_with fail
    refine HAW.out.mono ?_
    rintro _ x1 ⟨_, rfl, rfl, kx1⟩
    have hbx := HB0.out.kept kx1 (by simp)
    have g10 := hbx.cell 0 rfl
    have g11 := hbx.cell 1 rfl
    have g12 := hbx.cell 2 rfl
    go_wp2_with fail
    refine (HFE.out x1).mono ?_
    rintro _ x2 ⟨_, rfl, rfl, kx2⟩
    have hbx2 := hbx.kept kx2 (by simp)
    have g20 := hbx2.cell 0 rfl
    have g21 := hbx2.cell 1 rfl
    have g22 := hbx2.cell 2 rfl
    go_wp2_with fail
    refine (HRR.out x2).mono ?_
    rintro _ x3 ⟨_, rfl, rfl, kx3⟩
    have hbx3 := hbx2.kept kx3 (by simp)
    have g30 := hbx3.cell 0 rfl
    have g31 := hbx3.cell 1 rfl
    have g32 := hbx3.cell 2 rfl
    go_wp2_with fail
    refine (HRT.out x3).mono ?_
    rintro _ x4 ⟨_, rfl, rfl, kx4⟩
    have KX := Lib.hid ((((K0.out.trans kx1 (by simp)).trans kx2 (by simp)).trans kx3 (by simp)).trans kx4 (by simp))
    clear kx1 kx2 kx3 kx4
    go_wp2_with fail
    go_ret
    exact ⟨_, rfl, rfl, KX.out⟩
  · rw [show fewG e f g = false by unfold fewG; rw [hr]; simp; omega] at HFE
    clear hg hsl hB hbq hb0 k0 hr hgood ht ll
    go_enter Tryd.func6, Tryd.ntmps6
    go_wp2_with fail
    refine HAW.out.mono ?_
    rintro _ x1 ⟨_, rfl, rfl, kx1⟩
    have hbx := HB0.out.kept kx1 (by simp)
    have g10 := hbx.cell 0 rfl
    have g11 := hbx.cell 1 rfl
    have g12 := hbx.cell 2 rfl
    go_wp2_with fail
    refine (HFE.out x1).mono ?_
    rintro _ x2 ⟨_, rfl, rfl, kx2⟩
    have hbx2 := hbx.kept kx2 (by simp)
    have g20 := hbx2.cell 0 rfl
    have g21 := hbx2.cell 1 rfl
    have g22 := hbx2.cell 2 rfl
    go_wp2_with fail
    refine (HRR.out x2).mono ?_
    rintro _ x3 ⟨_, rfl, rfl, kx3⟩
    have KX := Lib.hid (((K0.out.trans kx1 (by simp)).trans kx2 (by simp)).trans kx3 (by simp))
    clear kx1 kx2 kx3
    go_wp2_with fail
    go_ret
    exact ⟨_, rfl, rfl, KX.out⟩
theorem SlotBack_walk (w : World) (hg : GeoLaid w) (e f g : Int) (v : Value) (l : List Int) (sz : Int) (second : Bool) (seq : Int) (sync : Bool) (hs : SliceAt Byte1 1 w w.heap.size v l) (z0 : 0 ≤ sz) (z1 : sz ≤ 255) (sq0 : 0 ≤ seq) (sq1 : seq ≤ 18446744073709551615) :
    Calls Tryd.prog 6 #[.agg #[.int .i64 e, .int .i64 f, .int .i64 g], v, .int .u8 sz, .bool second, .int .u64 seq, .bool sync] w (fun e W => e = .returned (.bool true) ∧ Below w.heap.size w W) := by
  obtain ⟨bq, off, hsl, hB, hbq⟩ := Sl.of_at hs
  exact (SlotBack_post w hg e f g v bq off l sz second seq sync hsl hB hbq z0 z1 sq0 sq1).mono fun _ _ ⟨_, h1, h2, h3⟩ => ⟨by rw [h1, h2], h3.below _ (Nat.le_refl _) (by simp)⟩
end Go.Proofs.YtlglbgemmljmlaaDoor
