/- PROVED: the law and the walk of SlotStranger. No conditions beyond those that each theorem states. -/
import Derived.Test.YtlglbgemmljmlaaDoorSlV
import Derived.Test.YtlglbgemmljmlaaDoorSlArg
namespace Go.Proofs.YtlglbgemmljmlaaDoor
open Go.RowKit Go.Proofs.YtlglbgemmljmlaaDoorLib
set_option linter.unusedSimpArgs false
set_option linter.unusedVariables false

/-- a head of other chips -/
theorem read_alien {s : DiskS} (hn : s.NoFail) (hs2 : s.size ≤ 4096) {e f g e2 f2 g2 : Int} (hw : atWhy s 0 e f g = 0) (hw2 : atWhy s 0 e2 f2 g2 = 0) {l : List Int} (hl : l.length = gTotal e f g) {seq : Int} (q0 : 0 ≤ seq) (q1 : seq ≤ 18446744073709551615)
    (h : Sealed s 0 e f g seq l) (hne : ¬ (e = e2 ∧ f = f2 ∧ g = g2)) : readM s 0 e2 f2 g2 = (s.tick, ⟨1, 0, 0, []⟩, 0) := by
  have hr := (atWhy_yes hw).1
  have hsu := sumM_u32 l
  have hde := dec_enc hr (show (l.length : Int) = gTotal e f g by rw [hl]) q0 q1 hsu.1 hsu.2 (List.replicate (s.size - (encL e f g l.length seq (sumM l)).length) 0)
  have hsp2 := slot_span hs2 hw2
  have hft := slot_fits hw2
  have h0 : slotAt s 0 e2 f2 g2 = 0 := by unfold slotAt; simp
  have h0' : slotAt s 0 e f g = 0 := by unfold slotAt; simp
  rw [h0] at hft
  have hrd := read_ok (NoFail.fails hn) (show 0 < s.last.length by omega)
  have hh := h.head
  rw [h0'] at hh
  have e0 : ((Int.toNat 0 * spanN s.size e2 f2 g2 : Nat) : Int) = ((0 : Nat) : Int) := by simp
  unfold readM
  rw [if_neg (by simp [hw2]), e0, hrd, hh]
  unfold padL
  rw [if_neg (by simp), if_neg (by rw [hde.1]; simp), if_pos]
  rw [hde.2.1, hde.2.2.1, hde.2.2.2.1]
  exact hne
/-- where there is room -/
theorem stranger_law {m : Nat} (hm : 32 ≤ m ∧ m ≤ 4096) {e f g : Int} (hr : gRight e f g = true) (hroom : 2 * spanN m e f g ≤ 40) {l : List Int} (hl : l.length = gTotal e f g) (hB : Bts l) :
    ∃ d1 s2 : DiskS, dataM (DiskS.new 40 m) 0 e f g l = (d1, 0) ∧ sealM d1 0 e f g 5 l = (s2, 0) ∧ d1.ops ≤ 40 ∧ s2.ops ≤ 41 ∧ s2.size = m ∧ s2.last.length = 40 ∧
      (∀ e2 f2 g2 : Int, atWhy s2 0 e2 f2 g2 = 0 → ¬ (e = e2 ∧ f = f2 ∧ g = g2) → readM s2 0 e2 f2 g2 = (s2.tick, ⟨1, 0, 0, []⟩, 0)) ∧
      ∃ s3, readM s2 0 e f g = (s3, ⟨2, 0, 5, l⟩, 0) := by
  have hn : (DiskS.new 40 m).NoFail := fun _ => rfl
  have hc : (DiskS.new 40 m).cach.length = (DiskS.new 40 m).last.length := by simp [DiskS.new]
  have hll : (DiskS.new 40 m).last.length = 40 := by simp [DiskS.new]
  have hsz : (DiskS.new 40 m).size = m := rfl
  have hw : atWhy (DiskS.new 40 m) 0 e f g = 0 := by
    unfold atWhy
    rw [hll, hsz, if_neg (by simp [hr]), if_neg (by omega), if_neg (by omega)]
  have hs2 : (DiskS.new 40 m).size ≤ 4096 := hm.2
  obtain ⟨h1, hk1, hg1, hrest⟩ := seal_law hn hc hs2 hw hl hB 5
  have hsp := slot_span hs2 hw
  rw [hsz] at hk1 hsp
  obtain ⟨p1, pk, pse, pg⟩ := hrest _ 0 (Kin.refl _) (fun j => rfl)
  have hk2 := hk1.trans pk
  generalize hd1 : dataM (DiskS.new 40 m) 0 e f g l = D1 at *
  obtain ⟨d1, z1⟩ := D1
  simp only at h1 hk1 hg1 hrest p1 pk pse pg hk2
  subst h1
  generalize hd2 : sealM d1 0 e f g 5 l = D2 at *
  obtain ⟨s2, z2⟩ := D2
  simp only at p1 pk pse pg hk2
  subst p1
  have hw2 : atWhy s2 0 e f g = 0 := by rw [atWhy_kin hk2, hw]
  have hn2 := hk2.nofail hn
  have hs22 : s2.size ≤ 4096 := by rw [hk2.size]; exact hs2
  have o0 : (DiskS.new 40 m).ops = 0 := rfl
  have hsc : secs l.length m ≤ 39 := by rw [hl]; omega
  refine ⟨d1, s2, rfl, hd2, by have := hk1.ops; omega, by have := hk2.ops; omega, hk2.size, by rw [hk2.len, hll], fun e2 f2 g2 hw3 hne => read_alien hn2 hs22 hw2 hw3 hl (by decide) (by decide) pse hne, ?_⟩
  exact ⟨_, pse.read hn2 hs22 hw2 hl (by decide) (by decide)⟩
theorem ops_st {A : Nat → Prop} {W : World} {b : Nat} {s : DiskS} (h : St A W b s) : Calls Tryd.prog 26 #[pt b] W (fun e V => e = .returned (.int .i64 s.ops) ∧ St A V b s ∧ KeptA A W V) := by
  obtain ⟨⟨F, h1, h2⟩, h3⟩ := h
  refine (ops_any W b F s h1).mono ?_
  rintro _ V ⟨_, rfl, rfl, k⟩
  exact ⟨rfl, St.kept0 ⟨⟨F, h1, h2⟩, h3⟩ k, KeptA.of0 k⟩
set_option maxRecDepth 100000 in
set_option maxHeartbeats 1500000 in
theorem strG (w : World) (hg : GeoLaid w) (e f g e2 f2 g2 : Int) (v : Value) (bq off : Nat) (l : List Int) (sz : Int) (hsl : Sl .u8 w v bq off l) (hB : Bts l) (hbq : l = [] ∨ bq < w.heap.size) (z0 : 0 ≤ sz) (z1 : sz ≤ 255) (hr : gRight e f g = true) (ht : gTotal e f g ≤ 500) (hl : l.length = gTotal e f g) (he : e = e2) (hf : f = f2) (hgg : g = g2) :
    Calls Tryd.prog 5 #[.agg #[.int .i64 e, .int .i64 f, .int .i64 g], .agg #[.int .i64 e2, .int .i64 f2, .int .i64 g2], .int .u8 sz, v] w (Post w [] fun r W => r = .bool true) := by
  obtain ⟨m1, m2, m3⟩ := freshM_bd sz
  obtain ⟨sp1, sp2⟩ := span_few hr ht (freshM sz) m1 (by omega)
  obtain ⟨d1, s2, hd1, hd2, o1, o2, e1z, e2z, hal, hgo⟩ := stranger_law (m := freshM sz) ⟨m1, by omega⟩ hr (by omega) hl hB
  have hw2 : atWhy s2 0 e f g = 0 := by unfold atWhy; rw [e1z, e2z, if_neg (by simp [hr]), if_neg (by omega), if_neg (by omega)]
  have HMM := Lib.hid (And.intro m3 trivial)
  have HNW := Lib.hid (fun W => new_yes W 40 (freshM sz) ⟨by decide, by decide, by omega, by omega⟩)
  rw [show ((40 : Int)).toNat = 40 from rfl, show ((freshM sz : Int)).toNat = freshM sz from rfl] at HNW
  have y1 : sz.tmod 100 = sz % 100 := Int.tmod_eq_emod_of_nonneg z0
  have y2 : IntKind.i64.wrap (sz % 100) = sz % 100 := by rw [IntKind.wrap_i64]; omega
  have y3 : (0 : Int) ≤ sz % 100 := by omega
  have y4 : sz % 100 ≤ 99 := by omega
  have y5 : IntKind.u8.wrap (sz % 100) = sz % 100 := by rw [IntKind.wrap_u8]; omega
  have HM := Lib.hid (And.intro hd1 (And.intro hd2 trivial))
  have HO := Lib.hid (And.intro o1 (And.intro o2 trivial))
  have HSL := Lib.hid hsl
  have HBT := Lib.hid hB
  have HBQ := Lib.hid hbq
  have tl : ((l.length : Int) != (l.length : Int)) = false := by simp
  subst he
  subst hf
  subst hgg
  obtain ⟨s3, hrd⟩ := hgo
  have HRD := Lib.hid (And.intro hrd trivial)
  have HRH := Lib.hid (And.intro hr trivial)
  have HSP : Hid (spanN s2.size e f g ≤ 201) := Lib.hid (by rw [e1z]; omega)
  have q1 : (e == e) = true := by simp
  obtain ⟨Av, cv, ev⟩ := hsl.form
  subst ev
  have ll := hsl.len
  unfold maxLen at ll
  have l0 : (0 : Int) ≤ l.length := by omega
  have l1 : (l.length : Int) ≤ 9223372036854775807 := by omega
  obtain ⟨w0, hw0⟩ : ∃ w0, w0 = (w.alloc (.cells #[.int .i64 e, .int .i64 f, .int .i64 g] 23)).alloc (.cells #[.int .i64 e, .int .i64 f, .int .i64 g] 23) := ⟨_, rfl⟩
  have hbp : Blk w0 w.heap.size 23 [.int .i64 e, .int .i64 f, .int .i64 g] := by rw [hw0]; exact (Blk.new _ _ _).alloc _
  have hbq' : Blk w0 (w.heap.size + 1) 23 [.int .i64 e, .int .i64 f, .int .i64 g] := by rw [hw0]; exact Blk.top _ _ (by simp) _ _
  have k0 : Kept w w0 [] := by rw [hw0]; exact ((Kept.refl w []).alloc _).alloc _
  have HAW := Lib.hid (awake_any w0 (hg.kept k0 (by simp)))
  have HFE := Lib.hid (fun W => few_any W e f g)
  have HFH := Lib.hid (fun W => few_any W e f g)
  have HRR := Lib.hid (fun W => rright_any W e f g)
  have HRT := Lib.hid (fun W => rtotal_any W e f g)
  have HP := Lib.hid hbp
  have HQ := Lib.hid hbq'
  have K0 := Lib.hid k0
  have HG := Lib.hid hg
  have hf1 : fewG e f g = true := by unfold fewG; rw [hr]; simp; omega
  rw [hf1] at HFE
  rw [hr] at HRR
  rw [hf1] at HFH
  rw [← hl] at HRT
  clear hg hsl hB hbq hr ht hl hd1 hd2 o1 o2 e1z e2z hal hw2 hbp hbq' k0 m1 m2 m3 sp1 sp2 ll hf1 hrd
  go_enter Tryd.func5, Tryd.ntmps5
  go_upto_region 1 with fail
  rw [← hw0]
  clear hw0
  go_wp2_with fail
  refine HAW.out.mono ?_
  rintro _ x1 ⟨_, rfl, rfl, k1⟩
  have p1 := HP.out.kept k1 (by simp)
  have r1 := HQ.out.kept k1 (by simp)
  have KX1 := Lib.hid (K0.out.trans k1 (by simp))
  have c0 := (p1).cell 0 rfl
  have ch0 := (r1).cell 0 rfl
  have c1 := (p1).cell 1 rfl
  have ch1 := (r1).cell 1 rfl
  have c2 := (p1).cell 2 rfl
  have ch2 := (r1).cell 2 rfl
  have HFE1 := Lib.hid (HFE.out x1)
  go_wp2_with fail
  refine HFE1.out.mono ?_
  rintro _ x2 ⟨_, rfl, rfl, k2⟩
  have p2 := p1.kept k2 (by simp)
  have r2 := r1.kept k2 (by simp)
  have KX2 := Lib.hid (KX1.out.trans k2 (by simp))
  clear c0 ch0 c1 ch1 c2 ch2
  have c0 := (p2).cell 0 rfl
  have ch0 := (r2).cell 0 rfl
  have c1 := (p2).cell 1 rfl
  have ch1 := (r2).cell 1 rfl
  have c2 := (p2).cell 2 rfl
  have ch2 := (r2).cell 2 rfl
  have HFH1 := Lib.hid (HFH.out x2)
  go_wp2_with fail
  refine HFH1.out.mono ?_
  rintro _ x3 ⟨_, rfl, rfl, k3⟩
  have p3 := p2.kept k3 (by simp)
  have r3 := r2.kept k3 (by simp)
  have KX3 := Lib.hid (KX2.out.trans k3 (by simp))
  clear c0 ch0 c1 ch1 c2 ch2
  have c0 := (p3).cell 0 rfl
  have ch0 := (r3).cell 0 rfl
  have c1 := (p3).cell 1 rfl
  have ch1 := (r3).cell 1 rfl
  have c2 := (p3).cell 2 rfl
  have ch2 := (r3).cell 2 rfl
  have HRR1 := Lib.hid (HRR.out x3)
  go_wp2_with fail
  refine HRR1.out.mono ?_
  rintro _ x4 ⟨_, rfl, rfl, k4⟩
  have p4 := p3.kept k4 (by simp)
  have r4 := r3.kept k4 (by simp)
  have KX4 := Lib.hid (KX3.out.trans k4 (by simp))
  clear k1 k2 k3 k4
  clear c0 ch0 c1 ch1 c2 ch2
  have c0 := (p4).cell 0 rfl
  have ch0 := (r4).cell 0 rfl
  have c1 := (p4).cell 1 rfl
  have ch1 := (r4).cell 1 rfl
  have c2 := (p4).cell 2 rfl
  have ch2 := (r4).cell 2 rfl
  have HRT1 := Lib.hid (HRT.out x4)
  go_wp2_with fail
  refine HRT1.out.mono ?_
  rintro _ x5 ⟨_, rfl, rfl, k5⟩
  have p5 := p4.kept k5 (by simp)
  have r5 := r4.kept k5 (by simp)
  have KX5 := Lib.hid (KX4.out.trans k5 (by simp))
  clear k5
  clear c0 ch0 c1 ch1 c2 ch2
  have HNW1 := Lib.hid (HNW.out x5)
  have hm3 := HMM.out.1
  have c0 := (p5).cell 0 rfl
  have ch0 := (r5).cell 0 rfl
  have c1 := (p5).cell 1 rfl
  have ch1 := (r5).cell 1 rfl
  have c2 := (p5).cell 2 rfl
  have ch2 := (r5).cell 2 rfl
  go_wp2_with fail
  rw [← HMM.out.1]
  refine HNW1.out.mono ?_
  rintro _ V0 ⟨_, rfl, ⟨b, F, rfl, hd, hF⟩, k6⟩
  have p6 := p5.kept k6 (by simp)
  have r6 := r5.kept k6 (by simp)
  have hst0 : St (fun x => x5.heap.size ≤ x) V0 b (DiskS.new 40 (freshM sz)) := ⟨⟨F, hd, hF⟩, fun x hx => Nat.le_trans k6.size hx⟩
  obtain ⟨A0, hA0⟩ : ∃ A : Nat → Prop, A = fun x => x5.heap.size ≤ x := ⟨_, rfl⟩
  rw [← hA0] at hst0
  have plt := p5.lt
  have rlt := r5.lt
  have HST0 := Lib.hid hst0
  have HK0 := Lib.hid (KeptA.refl A0 V0)
  have HPV := Lib.hid p6
  have HQV := Lib.hid r6
  have HPA : Hid (¬ A0 w.heap.size) := Lib.hid (by rw [hA0]; intro h; have h' : x5.heap.size ≤ w.heap.size := h; omega)
  have HQA : Hid (¬ A0 (w.heap.size + 1)) := Lib.hid (by rw [hA0]; intro h; have h' : x5.heap.size ≤ w.heap.size + 1 := h; omega)
  have HGV := Lib.hid (HG.out.kept (KX5.out.trans k6 (by simp)) (by simp))
  have HAN : Hid (∀ x, A0 x → nGlobals ≤ x) := Lib.hid (by rw [hA0]; intro x hx; have h1 := HG.out.sz; have h2 := KX5.out.size; have h' : x5.heap.size ≤ x := hx; omega)
  have HSLV := Lib.hid (HSL.out.kept (KX5.out.trans k6 (by simp)) (.inr (by simp)))
  have HARG : Hid (l = [] ∨ ¬ A0 bq) := Lib.hid (HBQ.out.imp id (fun h => by rw [hA0]; intro h2; have h' : x5.heap.size ≤ bq := h2; have := KX5.out.size; omega))
  have HWK := Lib.hid (show ∀ W, KeptA A0 V0 W → Kept w W [] from fun W h => h.kept (KX5.out.trans k6 (by simp)) (by rw [hA0]; intro x hx; have h' : x5.heap.size ≤ x := hx; have := KX5.out.size; omega))
  clear p1 p2 p3 p4 p5 p6 r1 r2 r3 r4 r5 r6 k6 hst0 hd hF plt rlt HNW1 hA0
  clear c0 ch0 c1 ch1 c2 ch2
  have HC0 := Lib.hid (data_st HST0.out (HK0.out.geo HGV.out HAN.out) (by show 0 < _; decide) 0 e f g (.slice Av l.length cv) bq off l (HK0.out.sl HSLV.out HARG.out) HBT.out)
  rw [HM.out.1] at HC0
  have c0 := (HK0.out.blk HPV.out HPA.out).cell 0 rfl
  have ch0 := (HK0.out.blk HQV.out HQA.out).cell 0 rfl
  have c1 := (HK0.out.blk HPV.out HPA.out).cell 1 rfl
  have ch1 := (HK0.out.blk HQV.out HQA.out).cell 1 rfl
  have c2 := (HK0.out.blk HPV.out HPA.out).cell 2 rfl
  have ch2 := (HK0.out.blk HQV.out HQA.out).cell 2 rfl
  go_wp2_with fail
  refine HC0.out.mono ?_
  rintro _ V1 ⟨rfl, hst, hk⟩
  have HST1 := Lib.hid (show St A0 V1 b d1 from hst)
  have HK1 := Lib.hid (HK0.out.trans hk)
  clear hst hk HC0
  clear c0 ch0 c1 ch1 c2 ch2
  have HC1 := Lib.hid (seal_st HST1.out (HK1.out.geo HGV.out HAN.out) (by have := HO.out.1; omega) 0 e f g 5 (by decide) (by decide) (.slice Av l.length cv) bq off l (HK1.out.sl HSLV.out HARG.out) HBT.out)
  rw [HM.out.2.1] at HC1
  have c0 := (HK1.out.blk HPV.out HPA.out).cell 0 rfl
  have ch0 := (HK1.out.blk HQV.out HQA.out).cell 0 rfl
  have c1 := (HK1.out.blk HPV.out HPA.out).cell 1 rfl
  have ch1 := (HK1.out.blk HQV.out HQA.out).cell 1 rfl
  have c2 := (HK1.out.blk HPV.out HPA.out).cell 2 rfl
  have ch2 := (HK1.out.blk HQV.out HQA.out).cell 2 rfl
  go_wp2_with fail
  refine HC1.out.mono ?_
  rintro _ V2 ⟨rfl, hst, hk⟩
  have HST2 := Lib.hid (show St A0 V2 b s2 from hst)
  have HK2 := Lib.hid (HK1.out.trans hk)
  clear hst hk HC1
  clear c0 ch0 c1 ch1 c2 ch2
  have HC2 := Lib.hid (ops_st HST2.out)
  have ops0 : (0 : Int) ≤ s2.ops := by omega
  have c0 := (HK2.out.blk HPV.out HPA.out).cell 0 rfl
  have ch0 := (HK2.out.blk HQV.out HQA.out).cell 0 rfl
  have c1 := (HK2.out.blk HPV.out HPA.out).cell 1 rfl
  have ch1 := (HK2.out.blk HQV.out HQA.out).cell 1 rfl
  have c2 := (HK2.out.blk HPV.out HPA.out).cell 2 rfl
  have ch2 := (HK2.out.blk HQV.out HQA.out).cell 2 rfl
  go_wp2_with fail
  refine HC2.out.mono ?_
  rintro _ V3 ⟨rfl, hst, hk⟩
  have HST3 := Lib.hid hst
  have HK3 := Lib.hid (HK2.out.trans hk)
  clear hst hk HC2
  clear c0 ch0 c1 ch1 c2 ch2
  have HC3 := Lib.hid (read_st HST3.out (HK3.out.geo HGV.out HAN.out) HAN.out (by have := HO.out.2.1; omega) 0 e f g HSP.out)
  rw [HRD.out.1] at HC3
  have c0 := (HK3.out.blk HPV.out HPA.out).cell 0 rfl
  have ch0 := (HK3.out.blk HQV.out HQA.out).cell 0 rfl
  have c1 := (HK3.out.blk HPV.out HPA.out).cell 1 rfl
  have ch1 := (HK3.out.blk HQV.out HQA.out).cell 1 rfl
  have c2 := (HK3.out.blk HPV.out HPA.out).cell 2 rfl
  have ch2 := (HK3.out.blk HQV.out HQA.out).cell 2 rfl
  go_wp2_with fail
  refine HC3.out.mono ?_
  rintro _ U4 ⟨Ai, ci, q, rfl, hs, hq, hst, hk⟩
  obtain ⟨A1, hA1, hA2, hst2⟩ : ∃ B : Nat → Prop, (∀ x, B x → A0 x) ∧ (¬ B U4.heap.size) ∧ St B (U4.alloc (.cells #[.int .i64 2, .int .i64 0, .int .u64 5, .slice Ai l.length ci] 37)) b s3 := ⟨_, fun x h => h.1.1, fun h => h.2 rfl, hst.alloc_hold _⟩
  have HST4 := Lib.hid hst2
  have HS4 := Lib.hid hA1
  have hk2 : KeptA A0 V3 (U4.alloc (.cells #[.int .i64 2, .int .i64 0, .int .u64 5, .slice Ai l.length ci] 37)) := hk.trans (KeptA.of0 ((Kept.refl _ []).alloc _))
  have HK4 := Lib.hid (HK3.out.trans hk2)
  have HBX := Lib.hid (Blk.new U4 37 [.int .i64 2, .int .i64 0, .int .u64 5, .slice Ai l.length ci])
  have HNX := Lib.hid hA2
  generalize hV4 : U4.alloc (.cells #[.int .i64 2, .int .i64 0, .int .u64 5, .slice Ai l.length ci] 37) = V4 at *
  clear hst hst2 hk hk2 hs hq hA1 hA2 HC3
  clear c0 ch0 c1 ch1 c2 ch2
  have HC4 := Lib.hid (rright_any V4 e f g)
  rw [HRH.out.1] at HC4
  have c0 := (HK4.out.blk HPV.out HPA.out).cell 0 rfl
  have ch0 := (HK4.out.blk HQV.out HQA.out).cell 0 rfl
  have c1 := (HK4.out.blk HPV.out HPA.out).cell 1 rfl
  have ch1 := (HK4.out.blk HQV.out HQA.out).cell 1 rfl
  have c2 := (HK4.out.blk HPV.out HPA.out).cell 2 rfl
  have ch2 := (HK4.out.blk HQV.out HQA.out).cell 2 rfl
  go_wp2_with fail
  refine HC4.out.mono ?_
  rintro _ V5 ⟨_, rfl, rfl, hk⟩
  have HK5 := Lib.hid (HK4.out.trans (KeptA.of0 hk))
  have HST5 := Lib.hid (HST4.out.kept0 hk)
  have HBX2 := Lib.hid (HBX.out.kept hk (by simp))
  clear hk HC4
  clear c0 ch0 c1 ch1 c2 ch2
  have hk := HK5.out
  have g0 := (hk.blk HPV.out HPA.out).cell 0 rfl
  have g1 := (hk.blk HPV.out HPA.out).cell 1 rfl
  have gg2 := (hk.blk HPV.out HPA.out).cell 2 rfl
  have h0 := (hk.blk HQV.out HQA.out).cell 0 rfl
  have h1 := (hk.blk HQV.out HQA.out).cell 1 rfl
  have h2 := (hk.blk HQV.out HQA.out).cell 2 rfl
  have b0 := HBX2.out.cell 0 rfl
  clear hk
  go_wp2_with fail
  go_region
  all_goals (
    go_wp2_with fail
    go_ret
    exact ⟨_, rfl, by first | rfl | (show Value.bool _ = Value.bool _; simp), (HWK.out _ HK5.out).drew⟩)
set_option maxRecDepth 100000 in
set_option maxHeartbeats 1500000 in
theorem strA (w : World) (hg : GeoLaid w) (e f g e2 f2 g2 : Int) (v : Value) (bq off : Nat) (l : List Int) (sz : Int) (hsl : Sl .u8 w v bq off l) (hB : Bts l) (hbq : l = [] ∨ bq < w.heap.size) (z0 : 0 ≤ sz) (z1 : sz ≤ 255) (hr : gRight e f g = true) (ht : gTotal e f g ≤ 500) (hl : l.length = gTotal e f g) (hr2 : gRight e2 f2 g2 = true) (ht2 : gTotal e2 f2 g2 ≤ 500) (hne : ¬ (e = e2 ∧ f = f2 ∧ g = g2)) :
    Calls Tryd.prog 5 #[.agg #[.int .i64 e, .int .i64 f, .int .i64 g], .agg #[.int .i64 e2, .int .i64 f2, .int .i64 g2], .int .u8 sz, v] w (Post w [] fun r W => r = .bool true) := by
  obtain ⟨m1, m2, m3⟩ := freshM_bd sz
  obtain ⟨sp1, sp2⟩ := span_few hr ht (freshM sz) m1 (by omega)
  obtain ⟨d1, s2, hd1, hd2, o1, o2, e1z, e2z, hal, hgo⟩ := stranger_law (m := freshM sz) ⟨m1, by omega⟩ hr (by omega) hl hB
  have hw2 : atWhy s2 0 e f g = 0 := by unfold atWhy; rw [e1z, e2z, if_neg (by simp [hr]), if_neg (by omega), if_neg (by omega)]
  have HMM := Lib.hid (And.intro m3 trivial)
  have HNW := Lib.hid (fun W => new_yes W 40 (freshM sz) ⟨by decide, by decide, by omega, by omega⟩)
  rw [show ((40 : Int)).toNat = 40 from rfl, show ((freshM sz : Int)).toNat = freshM sz from rfl] at HNW
  have y1 : sz.tmod 100 = sz % 100 := Int.tmod_eq_emod_of_nonneg z0
  have y2 : IntKind.i64.wrap (sz % 100) = sz % 100 := by rw [IntKind.wrap_i64]; omega
  have y3 : (0 : Int) ≤ sz % 100 := by omega
  have y4 : sz % 100 ≤ 99 := by omega
  have y5 : IntKind.u8.wrap (sz % 100) = sz % 100 := by rw [IntKind.wrap_u8]; omega
  have HM := Lib.hid (And.intro hd1 (And.intro hd2 trivial))
  have HO := Lib.hid (And.intro o1 (And.intro o2 trivial))
  have HSL := Lib.hid hsl
  have HBT := Lib.hid hB
  have HBQ := Lib.hid hbq
  have tl : ((l.length : Int) != (l.length : Int)) = false := by simp
  obtain ⟨t1, t2⟩ := span_few hr2 ht2 (freshM sz) m1 (by omega)
  have hw3 : atWhy s2 0 e2 f2 g2 = 0 := by unfold atWhy; rw [e1z, e2z, if_neg (by simp [hr2]), if_neg (by omega), if_neg (by omega)]
  obtain ⟨s3, hs3⟩ : ∃ s3, s3 = s2.tick := ⟨_, rfl⟩
  have hrd := hal e2 f2 g2 hw3 hne
  rw [← hs3] at hrd
  have HRD := Lib.hid (And.intro hrd trivial)
  have HRH := Lib.hid (And.intro hr2 trivial)
  have HSP : Hid (spanN s2.size e2 f2 g2 ≤ 201) := Lib.hid (by rw [e1z]; omega)
  have hf2 : fewG e2 f2 g2 = true := by unfold fewG; rw [hr2]; simp; omega
  obtain ⟨Av, cv, ev⟩ := hsl.form
  subst ev
  have ll := hsl.len
  unfold maxLen at ll
  have l0 : (0 : Int) ≤ l.length := by omega
  have l1 : (l.length : Int) ≤ 9223372036854775807 := by omega
  obtain ⟨w0, hw0⟩ : ∃ w0, w0 = (w.alloc (.cells #[.int .i64 e, .int .i64 f, .int .i64 g] 23)).alloc (.cells #[.int .i64 e2, .int .i64 f2, .int .i64 g2] 23) := ⟨_, rfl⟩
  have hbp : Blk w0 w.heap.size 23 [.int .i64 e, .int .i64 f, .int .i64 g] := by rw [hw0]; exact (Blk.new _ _ _).alloc _
  have hbq' : Blk w0 (w.heap.size + 1) 23 [.int .i64 e2, .int .i64 f2, .int .i64 g2] := by rw [hw0]; exact Blk.top _ _ (by simp) _ _
  have k0 : Kept w w0 [] := by rw [hw0]; exact ((Kept.refl w []).alloc _).alloc _
  have HAW := Lib.hid (awake_any w0 (hg.kept k0 (by simp)))
  have HFE := Lib.hid (fun W => few_any W e f g)
  have HFH := Lib.hid (fun W => few_any W e2 f2 g2)
  have HRR := Lib.hid (fun W => rright_any W e f g)
  have HRT := Lib.hid (fun W => rtotal_any W e f g)
  have HP := Lib.hid hbp
  have HQ := Lib.hid hbq'
  have K0 := Lib.hid k0
  have HG := Lib.hid hg
  rw [hf2] at HFH
  have HNE := Lib.hid (And.intro hne trivial)
  have hf1 : fewG e f g = true := by unfold fewG; rw [hr]; simp; omega
  rw [hf1] at HFE
  rw [hr] at HRR
  rw [← hl] at HRT
  clear hg hsl hB hbq hr ht hl hd1 hd2 o1 o2 e1z e2z hal hgo hw2 hbp hbq' k0 m1 m2 m3 sp1 sp2 ll hf1 hw3 hrd hs3 hr2 ht2 t1 t2 hne hf2
  go_enter Tryd.func5, Tryd.ntmps5
  go_upto_region 1 with fail
  rw [← hw0]
  clear hw0
  go_wp2_with fail
  refine HAW.out.mono ?_
  rintro _ x1 ⟨_, rfl, rfl, k1⟩
  have p1 := HP.out.kept k1 (by simp)
  have r1 := HQ.out.kept k1 (by simp)
  have KX1 := Lib.hid (K0.out.trans k1 (by simp))
  have c0 := (p1).cell 0 rfl
  have ch0 := (r1).cell 0 rfl
  have c1 := (p1).cell 1 rfl
  have ch1 := (r1).cell 1 rfl
  have c2 := (p1).cell 2 rfl
  have ch2 := (r1).cell 2 rfl
  have HFE1 := Lib.hid (HFE.out x1)
  go_wp2_with fail
  refine HFE1.out.mono ?_
  rintro _ x2 ⟨_, rfl, rfl, k2⟩
  have p2 := p1.kept k2 (by simp)
  have r2 := r1.kept k2 (by simp)
  have KX2 := Lib.hid (KX1.out.trans k2 (by simp))
  clear c0 ch0 c1 ch1 c2 ch2
  have c0 := (p2).cell 0 rfl
  have ch0 := (r2).cell 0 rfl
  have c1 := (p2).cell 1 rfl
  have ch1 := (r2).cell 1 rfl
  have c2 := (p2).cell 2 rfl
  have ch2 := (r2).cell 2 rfl
  have HFH1 := Lib.hid (HFH.out x2)
  go_wp2_with fail
  refine HFH1.out.mono ?_
  rintro _ x3 ⟨_, rfl, rfl, k3⟩
  have p3 := p2.kept k3 (by simp)
  have r3 := r2.kept k3 (by simp)
  have KX3 := Lib.hid (KX2.out.trans k3 (by simp))
  clear c0 ch0 c1 ch1 c2 ch2
  have c0 := (p3).cell 0 rfl
  have ch0 := (r3).cell 0 rfl
  have c1 := (p3).cell 1 rfl
  have ch1 := (r3).cell 1 rfl
  have c2 := (p3).cell 2 rfl
  have ch2 := (r3).cell 2 rfl
  have HRR1 := Lib.hid (HRR.out x3)
  go_wp2_with fail
  refine HRR1.out.mono ?_
  rintro _ x4 ⟨_, rfl, rfl, k4⟩
  have p4 := p3.kept k4 (by simp)
  have r4 := r3.kept k4 (by simp)
  have KX4 := Lib.hid (KX3.out.trans k4 (by simp))
  clear k1 k2 k3 k4
  clear c0 ch0 c1 ch1 c2 ch2
  have c0 := (p4).cell 0 rfl
  have ch0 := (r4).cell 0 rfl
  have c1 := (p4).cell 1 rfl
  have ch1 := (r4).cell 1 rfl
  have c2 := (p4).cell 2 rfl
  have ch2 := (r4).cell 2 rfl
  have HRT1 := Lib.hid (HRT.out x4)
  go_wp2_with fail
  refine HRT1.out.mono ?_
  rintro _ x5 ⟨_, rfl, rfl, k5⟩
  have p5 := p4.kept k5 (by simp)
  have r5 := r4.kept k5 (by simp)
  have KX5 := Lib.hid (KX4.out.trans k5 (by simp))
  clear k5
  clear c0 ch0 c1 ch1 c2 ch2
  have HNW1 := Lib.hid (HNW.out x5)
  have hm3 := HMM.out.1
  have c0 := (p5).cell 0 rfl
  have ch0 := (r5).cell 0 rfl
  have c1 := (p5).cell 1 rfl
  have ch1 := (r5).cell 1 rfl
  have c2 := (p5).cell 2 rfl
  have ch2 := (r5).cell 2 rfl
  go_wp2_with fail
  rw [← HMM.out.1]
  refine HNW1.out.mono ?_
  rintro _ V0 ⟨_, rfl, ⟨b, F, rfl, hd, hF⟩, k6⟩
  have p6 := p5.kept k6 (by simp)
  have r6 := r5.kept k6 (by simp)
  have hst0 : St (fun x => x5.heap.size ≤ x) V0 b (DiskS.new 40 (freshM sz)) := ⟨⟨F, hd, hF⟩, fun x hx => Nat.le_trans k6.size hx⟩
  obtain ⟨A0, hA0⟩ : ∃ A : Nat → Prop, A = fun x => x5.heap.size ≤ x := ⟨_, rfl⟩
  rw [← hA0] at hst0
  have plt := p5.lt
  have rlt := r5.lt
  have HST0 := Lib.hid hst0
  have HK0 := Lib.hid (KeptA.refl A0 V0)
  have HPV := Lib.hid p6
  have HQV := Lib.hid r6
  have HPA : Hid (¬ A0 w.heap.size) := Lib.hid (by rw [hA0]; intro h; have h' : x5.heap.size ≤ w.heap.size := h; omega)
  have HQA : Hid (¬ A0 (w.heap.size + 1)) := Lib.hid (by rw [hA0]; intro h; have h' : x5.heap.size ≤ w.heap.size + 1 := h; omega)
  have HGV := Lib.hid (HG.out.kept (KX5.out.trans k6 (by simp)) (by simp))
  have HAN : Hid (∀ x, A0 x → nGlobals ≤ x) := Lib.hid (by rw [hA0]; intro x hx; have h1 := HG.out.sz; have h2 := KX5.out.size; have h' : x5.heap.size ≤ x := hx; omega)
  have HSLV := Lib.hid (HSL.out.kept (KX5.out.trans k6 (by simp)) (.inr (by simp)))
  have HARG : Hid (l = [] ∨ ¬ A0 bq) := Lib.hid (HBQ.out.imp id (fun h => by rw [hA0]; intro h2; have h' : x5.heap.size ≤ bq := h2; have := KX5.out.size; omega))
  have HWK := Lib.hid (show ∀ W, KeptA A0 V0 W → Kept w W [] from fun W h => h.kept (KX5.out.trans k6 (by simp)) (by rw [hA0]; intro x hx; have h' : x5.heap.size ≤ x := hx; have := KX5.out.size; omega))
  clear p1 p2 p3 p4 p5 p6 r1 r2 r3 r4 r5 r6 k6 hst0 hd hF plt rlt HNW1 hA0
  clear c0 ch0 c1 ch1 c2 ch2
  have HC0 := Lib.hid (data_st HST0.out (HK0.out.geo HGV.out HAN.out) (by show 0 < _; decide) 0 e f g (.slice Av l.length cv) bq off l (HK0.out.sl HSLV.out HARG.out) HBT.out)
  rw [HM.out.1] at HC0
  have c0 := (HK0.out.blk HPV.out HPA.out).cell 0 rfl
  have ch0 := (HK0.out.blk HQV.out HQA.out).cell 0 rfl
  have c1 := (HK0.out.blk HPV.out HPA.out).cell 1 rfl
  have ch1 := (HK0.out.blk HQV.out HQA.out).cell 1 rfl
  have c2 := (HK0.out.blk HPV.out HPA.out).cell 2 rfl
  have ch2 := (HK0.out.blk HQV.out HQA.out).cell 2 rfl
  go_wp2_with fail
  refine HC0.out.mono ?_
  rintro _ V1 ⟨rfl, hst, hk⟩
  have HST1 := Lib.hid (show St A0 V1 b d1 from hst)
  have HK1 := Lib.hid (HK0.out.trans hk)
  clear hst hk HC0
  clear c0 ch0 c1 ch1 c2 ch2
  have HC1 := Lib.hid (seal_st HST1.out (HK1.out.geo HGV.out HAN.out) (by have := HO.out.1; omega) 0 e f g 5 (by decide) (by decide) (.slice Av l.length cv) bq off l (HK1.out.sl HSLV.out HARG.out) HBT.out)
  rw [HM.out.2.1] at HC1
  have c0 := (HK1.out.blk HPV.out HPA.out).cell 0 rfl
  have ch0 := (HK1.out.blk HQV.out HQA.out).cell 0 rfl
  have c1 := (HK1.out.blk HPV.out HPA.out).cell 1 rfl
  have ch1 := (HK1.out.blk HQV.out HQA.out).cell 1 rfl
  have c2 := (HK1.out.blk HPV.out HPA.out).cell 2 rfl
  have ch2 := (HK1.out.blk HQV.out HQA.out).cell 2 rfl
  go_wp2_with fail
  refine HC1.out.mono ?_
  rintro _ V2 ⟨rfl, hst, hk⟩
  have HST2 := Lib.hid (show St A0 V2 b s2 from hst)
  have HK2 := Lib.hid (HK1.out.trans hk)
  clear hst hk HC1
  clear c0 ch0 c1 ch1 c2 ch2
  have HC2 := Lib.hid (ops_st HST2.out)
  have ops0 : (0 : Int) ≤ s2.ops := by omega
  have c0 := (HK2.out.blk HPV.out HPA.out).cell 0 rfl
  have ch0 := (HK2.out.blk HQV.out HQA.out).cell 0 rfl
  have c1 := (HK2.out.blk HPV.out HPA.out).cell 1 rfl
  have ch1 := (HK2.out.blk HQV.out HQA.out).cell 1 rfl
  have c2 := (HK2.out.blk HPV.out HPA.out).cell 2 rfl
  have ch2 := (HK2.out.blk HQV.out HQA.out).cell 2 rfl
  go_wp2_with fail
  refine HC2.out.mono ?_
  rintro _ V3 ⟨rfl, hst, hk⟩
  have HST3 := Lib.hid hst
  have HK3 := Lib.hid (HK2.out.trans hk)
  clear hst hk HC2
  clear c0 ch0 c1 ch1 c2 ch2
  have HC3 := Lib.hid (read_st HST3.out (HK3.out.geo HGV.out HAN.out) HAN.out (by have := HO.out.2.1; omega) 0 e2 f2 g2 HSP.out)
  rw [HRD.out.1] at HC3
  have c0 := (HK3.out.blk HPV.out HPA.out).cell 0 rfl
  have ch0 := (HK3.out.blk HQV.out HQA.out).cell 0 rfl
  have c1 := (HK3.out.blk HPV.out HPA.out).cell 1 rfl
  have ch1 := (HK3.out.blk HQV.out HQA.out).cell 1 rfl
  have c2 := (HK3.out.blk HPV.out HPA.out).cell 2 rfl
  have ch2 := (HK3.out.blk HQV.out HQA.out).cell 2 rfl
  go_wp2_with fail
  refine HC3.out.mono ?_
  rintro _ U4 ⟨Ai, ci, q, rfl, hs, hq, hst, hk⟩
  obtain ⟨A1, hA1, hA2, hst2⟩ : ∃ B : Nat → Prop, (∀ x, B x → A0 x) ∧ (¬ B U4.heap.size) ∧ St B (U4.alloc (.cells #[.int .i64 1, .int .i64 0, .int .u64 0, .slice Ai 0 ci] 37)) b s3 := ⟨_, fun x h => h.1.1, fun h => h.2 rfl, hst.alloc_hold _⟩
  have HST4 := Lib.hid hst2
  have HS4 := Lib.hid hA1
  have hk2 : KeptA A0 V3 (U4.alloc (.cells #[.int .i64 1, .int .i64 0, .int .u64 0, .slice Ai 0 ci] 37)) := hk.trans (KeptA.of0 ((Kept.refl _ []).alloc _))
  have HK4 := Lib.hid (HK3.out.trans hk2)
  have HBX := Lib.hid (Blk.new U4 37 [.int .i64 1, .int .i64 0, .int .u64 0, .slice Ai 0 ci])
  have HNX := Lib.hid hA2
  generalize hV4 : U4.alloc (.cells #[.int .i64 1, .int .i64 0, .int .u64 0, .slice Ai 0 ci] 37) = V4 at *
  clear hst hst2 hk hk2 hs hq hA1 hA2 HC3
  clear c0 ch0 c1 ch1 c2 ch2
  have HC4 := Lib.hid (rright_any V4 e2 f2 g2)
  rw [HRH.out.1] at HC4
  have c0 := (HK4.out.blk HPV.out HPA.out).cell 0 rfl
  have ch0 := (HK4.out.blk HQV.out HQA.out).cell 0 rfl
  have c1 := (HK4.out.blk HPV.out HPA.out).cell 1 rfl
  have ch1 := (HK4.out.blk HQV.out HQA.out).cell 1 rfl
  have c2 := (HK4.out.blk HPV.out HPA.out).cell 2 rfl
  have ch2 := (HK4.out.blk HQV.out HQA.out).cell 2 rfl
  go_wp2_with fail
  refine HC4.out.mono ?_
  rintro _ V5 ⟨_, rfl, rfl, hk⟩
  have HK5 := Lib.hid (HK4.out.trans (KeptA.of0 hk))
  have HST5 := Lib.hid (HST4.out.kept0 hk)
  have HBX2 := Lib.hid (HBX.out.kept hk (by simp))
  clear hk HC4
  clear c0 ch0 c1 ch1 c2 ch2
  by_cases a5 : e = e2
  · subst a5
    by_cases a6 : f = f2
    · subst a6
      by_cases a7 : g = g2
      · exact absurd ⟨rfl, rfl, a7⟩ HNE.out.1
      · have b7 : (g == g2) = false := by simpa using a7
        have hk := HK5.out
        have g0 := (hk.blk HPV.out HPA.out).cell 0 rfl
        have g1 := (hk.blk HPV.out HPA.out).cell 1 rfl
        have gg2 := (hk.blk HPV.out HPA.out).cell 2 rfl
        have h0 := (hk.blk HQV.out HQA.out).cell 0 rfl
        have h1 := (hk.blk HQV.out HQA.out).cell 1 rfl
        have h2 := (hk.blk HQV.out HQA.out).cell 2 rfl
        have b0 := HBX2.out.cell 0 rfl
        clear hk
        go_wp2_with fail
        go_region
        all_goals (
          go_wp2_with fail
          go_ret
          exact ⟨_, rfl, by first | rfl | (show Value.bool _ = Value.bool _; simp), (HWK.out _ HK5.out).drew⟩)
    · have b6 : (f == f2) = false := by simpa using a6
      have hk := HK5.out
      have g0 := (hk.blk HPV.out HPA.out).cell 0 rfl
      have g1 := (hk.blk HPV.out HPA.out).cell 1 rfl
      have gg2 := (hk.blk HPV.out HPA.out).cell 2 rfl
      have h0 := (hk.blk HQV.out HQA.out).cell 0 rfl
      have h1 := (hk.blk HQV.out HQA.out).cell 1 rfl
      have h2 := (hk.blk HQV.out HQA.out).cell 2 rfl
      have b0 := HBX2.out.cell 0 rfl
      clear hk
      go_wp2_with fail
      go_region
      all_goals (
        go_wp2_with fail
        go_ret
        exact ⟨_, rfl, by first | rfl | (show Value.bool _ = Value.bool _; simp), (HWK.out _ HK5.out).drew⟩)
  · have b5 : (e == e2) = false := by simpa using a5
    have hk := HK5.out
    have g0 := (hk.blk HPV.out HPA.out).cell 0 rfl
    have g1 := (hk.blk HPV.out HPA.out).cell 1 rfl
    have gg2 := (hk.blk HPV.out HPA.out).cell 2 rfl
    have h0 := (hk.blk HQV.out HQA.out).cell 0 rfl
    have h1 := (hk.blk HQV.out HQA.out).cell 1 rfl
    have h2 := (hk.blk HQV.out HQA.out).cell 2 rfl
    have b0 := HBX2.out.cell 0 rfl
    clear hk
    go_wp2_with fail
    go_region
    all_goals (
      go_wp2_with fail
      go_ret
      exact ⟨_, rfl, by first | rfl | (show Value.bool _ = Value.bool _; simp), (HWK.out _ HK5.out).drew⟩)
set_option maxRecDepth 100000 in
set_option maxHeartbeats 1500000 in
theorem strR (w : World) (hg : GeoLaid w) (e f g e2 f2 g2 : Int) (v : Value) (bq off : Nat) (l : List Int) (sz : Int) (hsl : Sl .u8 w v bq off l) (hB : Bts l) (hbq : l = [] ∨ bq < w.heap.size) (z0 : 0 ≤ sz) (z1 : sz ≤ 255) (hr : gRight e f g = true) (ht : gTotal e f g ≤ 500) (hl : l.length = gTotal e f g) (hr2 : gRight e2 f2 g2 = false) :
    Calls Tryd.prog 5 #[.agg #[.int .i64 e, .int .i64 f, .int .i64 g], .agg #[.int .i64 e2, .int .i64 f2, .int .i64 g2], .int .u8 sz, v] w (Post w [] fun r W => r = .bool true) := by
  obtain ⟨m1, m2, m3⟩ := freshM_bd sz
  obtain ⟨sp1, sp2⟩ := span_few hr ht (freshM sz) m1 (by omega)
  obtain ⟨d1, s2, hd1, hd2, o1, o2, e1z, e2z, hal, hgo⟩ := stranger_law (m := freshM sz) ⟨m1, by omega⟩ hr (by omega) hl hB
  have hw2 : atWhy s2 0 e f g = 0 := by unfold atWhy; rw [e1z, e2z, if_neg (by simp [hr]), if_neg (by omega), if_neg (by omega)]
  have HMM := Lib.hid (And.intro m3 trivial)
  have HNW := Lib.hid (fun W => new_yes W 40 (freshM sz) ⟨by decide, by decide, by omega, by omega⟩)
  rw [show ((40 : Int)).toNat = 40 from rfl, show ((freshM sz : Int)).toNat = freshM sz from rfl] at HNW
  have y1 : sz.tmod 100 = sz % 100 := Int.tmod_eq_emod_of_nonneg z0
  have y2 : IntKind.i64.wrap (sz % 100) = sz % 100 := by rw [IntKind.wrap_i64]; omega
  have y3 : (0 : Int) ≤ sz % 100 := by omega
  have y4 : sz % 100 ≤ 99 := by omega
  have y5 : IntKind.u8.wrap (sz % 100) = sz % 100 := by rw [IntKind.wrap_u8]; omega
  have HM := Lib.hid (And.intro hd1 (And.intro hd2 trivial))
  have HO := Lib.hid (And.intro o1 (And.intro o2 trivial))
  have HSL := Lib.hid hsl
  have HBT := Lib.hid hB
  have HBQ := Lib.hid hbq
  have tl : ((l.length : Int) != (l.length : Int)) = false := by simp
  have hw3 : ∀ which, atWhy s2 which e2 f2 g2 = 9 := fun which => by unfold atWhy; rw [if_pos hr2]
  obtain ⟨s3, hs3⟩ : ∃ s3, s3 = s2 := ⟨_, rfl⟩
  have hrd : readM s2 0 e2 f2 g2 = (s3, ⟨0, 0, 0, []⟩, 9) := by unfold readM; rw [hw3, if_pos (by decide), hs3]; rfl
  have hdm : dataM s3 0 e2 f2 g2 l = (s3, 9) := by unfold dataM; rw [hs3, hw3, if_pos (by decide)]
  have hwm : wipeM s3 1 e2 f2 g2 = (s3, 9) := by unfold wipeM; rw [hs3, hw3, if_pos (by decide)]
  have HRD := Lib.hid (And.intro hrd trivial)
  have HRH := Lib.hid (And.intro hr2 trivial)
  have HDM := Lib.hid (And.intro hdm (And.intro hwm (show s3.ops = s2.ops by rw [hs3])))
  have HSP : Hid (spanN s2.size e2 f2 g2 ≤ 201) := Lib.hid (by unfold spanN; rw [hr2]; simp)
  have hf2 : fewG e2 f2 g2 = true := by unfold fewG; rw [hr2]; rfl
  obtain ⟨Av, cv, ev⟩ := hsl.form
  subst ev
  have ll := hsl.len
  unfold maxLen at ll
  have l0 : (0 : Int) ≤ l.length := by omega
  have l1 : (l.length : Int) ≤ 9223372036854775807 := by omega
  obtain ⟨w0, hw0⟩ : ∃ w0, w0 = (w.alloc (.cells #[.int .i64 e, .int .i64 f, .int .i64 g] 23)).alloc (.cells #[.int .i64 e2, .int .i64 f2, .int .i64 g2] 23) := ⟨_, rfl⟩
  have hbp : Blk w0 w.heap.size 23 [.int .i64 e, .int .i64 f, .int .i64 g] := by rw [hw0]; exact (Blk.new _ _ _).alloc _
  have hbq' : Blk w0 (w.heap.size + 1) 23 [.int .i64 e2, .int .i64 f2, .int .i64 g2] := by rw [hw0]; exact Blk.top _ _ (by simp) _ _
  have k0 : Kept w w0 [] := by rw [hw0]; exact ((Kept.refl w []).alloc _).alloc _
  have HAW := Lib.hid (awake_any w0 (hg.kept k0 (by simp)))
  have HFE := Lib.hid (fun W => few_any W e f g)
  have HFH := Lib.hid (fun W => few_any W e2 f2 g2)
  have HRR := Lib.hid (fun W => rright_any W e f g)
  have HRT := Lib.hid (fun W => rtotal_any W e f g)
  have HP := Lib.hid hbp
  have HQ := Lib.hid hbq'
  have K0 := Lib.hid k0
  have HG := Lib.hid hg
  rw [hf2] at HFH
  have hf1 : fewG e f g = true := by unfold fewG; rw [hr]; simp; omega
  rw [hf1] at HFE
  rw [hr] at HRR
  rw [← hl] at HRT
  clear hg hsl hB hbq hr ht hl hd1 hd2 o1 o2 e1z e2z hal hgo hw2 hbp hbq' k0 m1 m2 m3 sp1 sp2 ll hf1 hw3 hrd hs3 hr2 hdm hwm hf2
  go_enter Tryd.func5, Tryd.ntmps5
  go_upto_region 1 with fail
  rw [← hw0]
  clear hw0
  go_wp2_with fail
  refine HAW.out.mono ?_
  rintro _ x1 ⟨_, rfl, rfl, k1⟩
  have p1 := HP.out.kept k1 (by simp)
  have r1 := HQ.out.kept k1 (by simp)
  have KX1 := Lib.hid (K0.out.trans k1 (by simp))
  have c0 := (p1).cell 0 rfl
  have ch0 := (r1).cell 0 rfl
  have c1 := (p1).cell 1 rfl
  have ch1 := (r1).cell 1 rfl
  have c2 := (p1).cell 2 rfl
  have ch2 := (r1).cell 2 rfl
  have HFE1 := Lib.hid (HFE.out x1)
  go_wp2_with fail
  refine HFE1.out.mono ?_
  rintro _ x2 ⟨_, rfl, rfl, k2⟩
  have p2 := p1.kept k2 (by simp)
  have r2 := r1.kept k2 (by simp)
  have KX2 := Lib.hid (KX1.out.trans k2 (by simp))
  clear c0 ch0 c1 ch1 c2 ch2
  have c0 := (p2).cell 0 rfl
  have ch0 := (r2).cell 0 rfl
  have c1 := (p2).cell 1 rfl
  have ch1 := (r2).cell 1 rfl
  have c2 := (p2).cell 2 rfl
  have ch2 := (r2).cell 2 rfl
  have HFH1 := Lib.hid (HFH.out x2)
  go_wp2_with fail
  refine HFH1.out.mono ?_
  rintro _ x3 ⟨_, rfl, rfl, k3⟩
  have p3 := p2.kept k3 (by simp)
  have r3 := r2.kept k3 (by simp)
  have KX3 := Lib.hid (KX2.out.trans k3 (by simp))
  clear c0 ch0 c1 ch1 c2 ch2
  have c0 := (p3).cell 0 rfl
  have ch0 := (r3).cell 0 rfl
  have c1 := (p3).cell 1 rfl
  have ch1 := (r3).cell 1 rfl
  have c2 := (p3).cell 2 rfl
  have ch2 := (r3).cell 2 rfl
  have HRR1 := Lib.hid (HRR.out x3)
  go_wp2_with fail
  refine HRR1.out.mono ?_
  rintro _ x4 ⟨_, rfl, rfl, k4⟩
  have p4 := p3.kept k4 (by simp)
  have r4 := r3.kept k4 (by simp)
  have KX4 := Lib.hid (KX3.out.trans k4 (by simp))
  clear k1 k2 k3 k4
  clear c0 ch0 c1 ch1 c2 ch2
  have c0 := (p4).cell 0 rfl
  have ch0 := (r4).cell 0 rfl
  have c1 := (p4).cell 1 rfl
  have ch1 := (r4).cell 1 rfl
  have c2 := (p4).cell 2 rfl
  have ch2 := (r4).cell 2 rfl
  have HRT1 := Lib.hid (HRT.out x4)
  go_wp2_with fail
  refine HRT1.out.mono ?_
  rintro _ x5 ⟨_, rfl, rfl, k5⟩
  have p5 := p4.kept k5 (by simp)
  have r5 := r4.kept k5 (by simp)
  have KX5 := Lib.hid (KX4.out.trans k5 (by simp))
  clear k5
  clear c0 ch0 c1 ch1 c2 ch2
  have HNW1 := Lib.hid (HNW.out x5)
  have hm3 := HMM.out.1
  have c0 := (p5).cell 0 rfl
  have ch0 := (r5).cell 0 rfl
  have c1 := (p5).cell 1 rfl
  have ch1 := (r5).cell 1 rfl
  have c2 := (p5).cell 2 rfl
  have ch2 := (r5).cell 2 rfl
  go_wp2_with fail
  rw [← HMM.out.1]
  refine HNW1.out.mono ?_
  rintro _ V0 ⟨_, rfl, ⟨b, F, rfl, hd, hF⟩, k6⟩
  have p6 := p5.kept k6 (by simp)
  have r6 := r5.kept k6 (by simp)
  have hst0 : St (fun x => x5.heap.size ≤ x) V0 b (DiskS.new 40 (freshM sz)) := ⟨⟨F, hd, hF⟩, fun x hx => Nat.le_trans k6.size hx⟩
  obtain ⟨A0, hA0⟩ : ∃ A : Nat → Prop, A = fun x => x5.heap.size ≤ x := ⟨_, rfl⟩
  rw [← hA0] at hst0
  have plt := p5.lt
  have rlt := r5.lt
  have HST0 := Lib.hid hst0
  have HK0 := Lib.hid (KeptA.refl A0 V0)
  have HPV := Lib.hid p6
  have HQV := Lib.hid r6
  have HPA : Hid (¬ A0 w.heap.size) := Lib.hid (by rw [hA0]; intro h; have h' : x5.heap.size ≤ w.heap.size := h; omega)
  have HQA : Hid (¬ A0 (w.heap.size + 1)) := Lib.hid (by rw [hA0]; intro h; have h' : x5.heap.size ≤ w.heap.size + 1 := h; omega)
  have HGV := Lib.hid (HG.out.kept (KX5.out.trans k6 (by simp)) (by simp))
  have HAN : Hid (∀ x, A0 x → nGlobals ≤ x) := Lib.hid (by rw [hA0]; intro x hx; have h1 := HG.out.sz; have h2 := KX5.out.size; have h' : x5.heap.size ≤ x := hx; omega)
  have HSLV := Lib.hid (HSL.out.kept (KX5.out.trans k6 (by simp)) (.inr (by simp)))
  have HARG : Hid (l = [] ∨ ¬ A0 bq) := Lib.hid (HBQ.out.imp id (fun h => by rw [hA0]; intro h2; have h' : x5.heap.size ≤ bq := h2; have := KX5.out.size; omega))
  have HWK := Lib.hid (show ∀ W, KeptA A0 V0 W → Kept w W [] from fun W h => h.kept (KX5.out.trans k6 (by simp)) (by rw [hA0]; intro x hx; have h' : x5.heap.size ≤ x := hx; have := KX5.out.size; omega))
  clear p1 p2 p3 p4 p5 p6 r1 r2 r3 r4 r5 r6 k6 hst0 hd hF plt rlt HNW1 hA0
  clear c0 ch0 c1 ch1 c2 ch2
  have HC0 := Lib.hid (data_st HST0.out (HK0.out.geo HGV.out HAN.out) (by show 0 < _; decide) 0 e f g (.slice Av l.length cv) bq off l (HK0.out.sl HSLV.out HARG.out) HBT.out)
  rw [HM.out.1] at HC0
  have c0 := (HK0.out.blk HPV.out HPA.out).cell 0 rfl
  have ch0 := (HK0.out.blk HQV.out HQA.out).cell 0 rfl
  have c1 := (HK0.out.blk HPV.out HPA.out).cell 1 rfl
  have ch1 := (HK0.out.blk HQV.out HQA.out).cell 1 rfl
  have c2 := (HK0.out.blk HPV.out HPA.out).cell 2 rfl
  have ch2 := (HK0.out.blk HQV.out HQA.out).cell 2 rfl
  go_wp2_with fail
  refine HC0.out.mono ?_
  rintro _ V1 ⟨rfl, hst, hk⟩
  have HST1 := Lib.hid (show St A0 V1 b d1 from hst)
  have HK1 := Lib.hid (HK0.out.trans hk)
  clear hst hk HC0
  clear c0 ch0 c1 ch1 c2 ch2
  have HC1 := Lib.hid (seal_st HST1.out (HK1.out.geo HGV.out HAN.out) (by have := HO.out.1; omega) 0 e f g 5 (by decide) (by decide) (.slice Av l.length cv) bq off l (HK1.out.sl HSLV.out HARG.out) HBT.out)
  rw [HM.out.2.1] at HC1
  have c0 := (HK1.out.blk HPV.out HPA.out).cell 0 rfl
  have ch0 := (HK1.out.blk HQV.out HQA.out).cell 0 rfl
  have c1 := (HK1.out.blk HPV.out HPA.out).cell 1 rfl
  have ch1 := (HK1.out.blk HQV.out HQA.out).cell 1 rfl
  have c2 := (HK1.out.blk HPV.out HPA.out).cell 2 rfl
  have ch2 := (HK1.out.blk HQV.out HQA.out).cell 2 rfl
  go_wp2_with fail
  refine HC1.out.mono ?_
  rintro _ V2 ⟨rfl, hst, hk⟩
  have HST2 := Lib.hid (show St A0 V2 b s2 from hst)
  have HK2 := Lib.hid (HK1.out.trans hk)
  clear hst hk HC1
  clear c0 ch0 c1 ch1 c2 ch2
  have HC2 := Lib.hid (ops_st HST2.out)
  have ops0 : (0 : Int) ≤ s2.ops := by omega
  have c0 := (HK2.out.blk HPV.out HPA.out).cell 0 rfl
  have ch0 := (HK2.out.blk HQV.out HQA.out).cell 0 rfl
  have c1 := (HK2.out.blk HPV.out HPA.out).cell 1 rfl
  have ch1 := (HK2.out.blk HQV.out HQA.out).cell 1 rfl
  have c2 := (HK2.out.blk HPV.out HPA.out).cell 2 rfl
  have ch2 := (HK2.out.blk HQV.out HQA.out).cell 2 rfl
  go_wp2_with fail
  refine HC2.out.mono ?_
  rintro _ V3 ⟨rfl, hst, hk⟩
  have HST3 := Lib.hid hst
  have HK3 := Lib.hid (HK2.out.trans hk)
  clear hst hk HC2
  clear c0 ch0 c1 ch1 c2 ch2
  have HC3 := Lib.hid (read_st HST3.out (HK3.out.geo HGV.out HAN.out) HAN.out (by have := HO.out.2.1; omega) 0 e2 f2 g2 HSP.out)
  rw [HRD.out.1] at HC3
  have c0 := (HK3.out.blk HPV.out HPA.out).cell 0 rfl
  have ch0 := (HK3.out.blk HQV.out HQA.out).cell 0 rfl
  have c1 := (HK3.out.blk HPV.out HPA.out).cell 1 rfl
  have ch1 := (HK3.out.blk HQV.out HQA.out).cell 1 rfl
  have c2 := (HK3.out.blk HPV.out HPA.out).cell 2 rfl
  have ch2 := (HK3.out.blk HQV.out HQA.out).cell 2 rfl
  go_wp2_with fail
  refine HC3.out.mono ?_
  rintro _ U4 ⟨Ai, ci, q, rfl, hs, hq, hst, hk⟩
  obtain ⟨A1, hA1, hA2, hst2⟩ : ∃ B : Nat → Prop, (∀ x, B x → A0 x) ∧ (¬ B U4.heap.size) ∧ St B (U4.alloc (.cells #[.int .i64 0, .int .i64 0, .int .u64 0, .slice Ai 0 ci] 37)) b s3 := ⟨_, fun x h => h.1.1, fun h => h.2 rfl, hst.alloc_hold _⟩
  have HST4 := Lib.hid hst2
  have HSM := Lib.hid hA1
  have hk2 : KeptA A0 V3 (U4.alloc (.cells #[.int .i64 0, .int .i64 0, .int .u64 0, .slice Ai 0 ci] 37)) := hk.trans (KeptA.of0 ((Kept.refl _ []).alloc _))
  have HK4 := Lib.hid (HK3.out.trans hk2)
  have HBX := Lib.hid (Blk.new U4 37 [.int .i64 0, .int .i64 0, .int .u64 0, .slice Ai 0 ci])
  have HNX := Lib.hid hA2
  generalize hV4 : U4.alloc (.cells #[.int .i64 0, .int .i64 0, .int .u64 0, .slice Ai 0 ci] 37) = V4 at *
  clear hst hst2 hk hk2 hs hq hA1 hA2 HC3
  clear c0 ch0 c1 ch1 c2 ch2
  have HC4 := Lib.hid (rright_any V4 e2 f2 g2)
  rw [HRH.out.1] at HC4
  have c0 := (HK4.out.blk HPV.out HPA.out).cell 0 rfl
  have ch0 := (HK4.out.blk HQV.out HQA.out).cell 0 rfl
  have c1 := (HK4.out.blk HPV.out HPA.out).cell 1 rfl
  have ch1 := (HK4.out.blk HQV.out HQA.out).cell 1 rfl
  have c2 := (HK4.out.blk HPV.out HPA.out).cell 2 rfl
  have ch2 := (HK4.out.blk HQV.out HQA.out).cell 2 rfl
  go_wp2_with fail
  refine HC4.out.mono ?_
  rintro _ V5 ⟨_, rfl, rfl, hk⟩
  have HK5 := Lib.hid (HK4.out.trans (KeptA.of0 hk))
  have HST5 := Lib.hid (HST4.out.kept0 hk)
  have HBX2 := Lib.hid (HBX.out.kept hk (by simp))
  clear hk HC4
  clear c0 ch0 c1 ch1 c2 ch2
  have NP : Hid (¬ A1 w.heap.size) := Lib.hid (fun h => HPA.out (HSM.out _ h))
  have NQ : Hid (¬ A1 (w.heap.size + 1)) := Lib.hid (fun h => HQA.out (HSM.out _ h))
  have AN1 := Lib.hid (fun x h => HAN.out x (HSM.out x h))
  have HPn := Lib.hid (HK5.out.blk HPV.out HPA.out)
  have HQn := Lib.hid (HK5.out.blk HQV.out HQA.out)
  have HGn := Lib.hid (HK5.out.geo HGV.out HAN.out)
  have HSn := Lib.hid (HK5.out.sl HSLV.out HARG.out)
  have HAn : Hid (l = [] ∨ ¬ A1 bq) := Lib.hid (HARG.out.imp id (fun hn h => hn (HSM.out _ h)))
  have HCa := Lib.hid (ops_st HST5.out)
  rw [HDM.out.2.2] at HCa
  have tq : (s2.ops == s2.ops) = true := by simp
  go_wp2_with fail
  refine HCa.out.mono ?_
  rintro _ Y1 ⟨rfl, hst, hk⟩
  have HSTa := Lib.hid hst
  have HKa := Lib.hid hk
  have hq1 := hk.blk HQn.out NQ.out
  have a0 := hq1.cell 0 rfl
  have a1 := hq1.cell 1 rfl
  have a2 := hq1.cell 2 rfl
  have HCb := Lib.hid (data_st HSTa.out (HKa.out.geo HGn.out AN1.out) (by rw [HDM.out.2.2]; have := HO.out.2.1; omega) 0 e2 f2 g2 (.slice Av l.length cv) bq off l (HKa.out.sl HSn.out HAn.out) HBT.out)
  rw [HDM.out.1] at HCb
  clear hst hk hq1
  go_wp2_with fail
  refine HCb.out.mono ?_
  rintro _ Y2 ⟨rfl, hst, hk⟩
  have HSTb := Lib.hid (show St A1 Y2 b s3 from hst)
  have HKb := Lib.hid (HKa.out.trans hk)
  have hq2 := HKb.out.blk HQn.out NQ.out
  have b0 := hq2.cell 0 rfl
  have b1 := hq2.cell 1 rfl
  have b2 := hq2.cell 2 rfl
  have HCc := Lib.hid (wipe_st HSTb.out (HKb.out.geo HGn.out AN1.out) AN1.out (by rw [HDM.out.2.2]; have := HO.out.2.1; omega) 1 e2 f2 g2)
  rw [HDM.out.2.1] at HCc
  clear hst hk hq2
  go_wp2_with fail
  refine HCc.out.mono ?_
  rintro _ Y3 ⟨rfl, hst, hk⟩
  have HKc := Lib.hid (HK5.out.trans ((HKb.out.trans hk).mono HSM.out))
  clear hst hk
  go_wp2_with fail
  go_ret
  exact ⟨_, rfl, rfl, HWK.out _ HKc.out⟩
set_option maxRecDepth 100000 in
set_option maxHeartbeats 1500000 in
theorem SlotStranger_post (w : World) (hg : GeoLaid w) (e f g e2 f2 g2 : Int) (v : Value) (bq off : Nat) (l : List Int) (sz : Int) (hsl : Sl .u8 w v bq off l) (hB : Bts l) (hbq : l = [] ∨ bq < w.heap.size) (z0 : 0 ≤ sz) (z1 : sz ≤ 255) :
    Calls Tryd.prog 5 #[.agg #[.int .i64 e, .int .i64 f, .int .i64 g], .agg #[.int .i64 e2, .int .i64 f2, .int .i64 g2], .int .u8 sz, v] w (Post w [] fun r W => r = .bool true) := by
  by_cases hgood : (gRight e f g = true ∧ gTotal e f g ≤ 500 ∧ l.length = gTotal e f g) ∧ fewG e2 f2 g2 = true
  · obtain ⟨⟨hr, ht, hl⟩, hf2⟩ := hgood
    cases hr2 : gRight e2 f2 g2
    · exact strR w hg e f g e2 f2 g2 v bq off l sz hsl hB hbq z0 z1 hr ht hl hr2
    · have ht2 : gTotal e2 f2 g2 ≤ 500 := by unfold fewG at hf2; rw [hr2] at hf2; simpa using hf2
      by_cases he : e = e2 ∧ f = f2 ∧ g = g2
      · exact strG w hg e f g e2 f2 g2 v bq off l sz hsl hB hbq z0 z1 hr ht hl he.1 he.2.1 he.2.2
      · exact strA w hg e f g e2 f2 g2 v bq off l sz hsl hB hbq z0 z1 hr ht hl hr2 ht2 he
  obtain ⟨Av, cv, ev⟩ := hsl.form
  subst ev
  have ll := hsl.len
  unfold maxLen at ll
  have l0 : (0 : Int) ≤ l.length := by omega
  have l1 : (l.length : Int) ≤ 9223372036854775807 := by omega
  obtain ⟨w0, hw0⟩ : ∃ w0, w0 = (w.alloc (.cells #[.int .i64 e, .int .i64 f, .int .i64 g] 23)).alloc (.cells #[.int .i64 e2, .int .i64 f2, .int .i64 g2] 23) := ⟨_, rfl⟩
  have hbp : Blk w0 w.heap.size 23 [.int .i64 e, .int .i64 f, .int .i64 g] := by rw [hw0]; exact (Blk.new _ _ _).alloc _
  have hbq' : Blk w0 (w.heap.size + 1) 23 [.int .i64 e2, .int .i64 f2, .int .i64 g2] := by rw [hw0]; exact Blk.top _ _ (by simp) _ _
  have k0 : Kept w w0 [] := by rw [hw0]; exact ((Kept.refl w []).alloc _).alloc _
  have HAW := Lib.hid (awake_any w0 (hg.kept k0 (by simp)))
  have HFE := Lib.hid (fun W => few_any W e f g)
  have HFH := Lib.hid (fun W => few_any W e2 f2 g2)
  have HRR := Lib.hid (fun W => rright_any W e f g)
  have HRT := Lib.hid (fun W => rtotal_any W e f g)
  have HP := Lib.hid hbp
  have HQ := Lib.hid hbq'
  have K0 := Lib.hid k0
  have HG := Lib.hid hg
  cases hf1 : fewG e f g
  · rw [hf1] at HFE
    generalize fewG e2 f2 g2 = fh at *
    generalize gRight e f g = rg at *
    clear hg hsl hB hbq hgood hbp hbq' k0 hf1 ll
    go_enter Tryd.func5, Tryd.ntmps5
    go_upto_region 1 with fail
    rw [← hw0]
    clear hw0
    go_wp2_with fail
    refine HAW.out.mono ?_
    rintro _ x1 ⟨_, rfl, rfl, k1⟩
    have p1 := HP.out.kept k1 (by simp)
    have r1 := HQ.out.kept k1 (by simp)
    have KX1 := Lib.hid (K0.out.trans k1 (by simp))
    have c0 := (p1).cell 0 rfl
    have ch0 := (r1).cell 0 rfl
    have c1 := (p1).cell 1 rfl
    have ch1 := (r1).cell 1 rfl
    have c2 := (p1).cell 2 rfl
    have ch2 := (r1).cell 2 rfl
    have HFE1 := Lib.hid (HFE.out x1)
    go_wp2_with fail
    refine HFE1.out.mono ?_
    rintro _ x2 ⟨_, rfl, rfl, k2⟩
    have p2 := p1.kept k2 (by simp)
    have r2 := r1.kept k2 (by simp)
    have KX2 := Lib.hid (KX1.out.trans k2 (by simp))
    clear c0 ch0 c1 ch1 c2 ch2
    have c0 := (p2).cell 0 rfl
    have ch0 := (r2).cell 0 rfl
    have c1 := (p2).cell 1 rfl
    have ch1 := (r2).cell 1 rfl
    have c2 := (p2).cell 2 rfl
    have ch2 := (r2).cell 2 rfl
    have HFH1 := Lib.hid (HFH.out x2)
    go_wp2_with fail
    refine HFH1.out.mono ?_
    rintro _ x3 ⟨_, rfl, rfl, k3⟩
    have p3 := p2.kept k3 (by simp)
    have r3 := r2.kept k3 (by simp)
    have KX3 := Lib.hid (KX2.out.trans k3 (by simp))
    clear c0 ch0 c1 ch1 c2 ch2
    have c0 := (p3).cell 0 rfl
    have ch0 := (r3).cell 0 rfl
    have c1 := (p3).cell 1 rfl
    have ch1 := (r3).cell 1 rfl
    have c2 := (p3).cell 2 rfl
    have ch2 := (r3).cell 2 rfl
    have HRR1 := Lib.hid (HRR.out x3)
    go_wp2_with fail
    refine HRR1.out.mono ?_
    rintro _ x4 ⟨_, rfl, rfl, k4⟩
    have p4 := p3.kept k4 (by simp)
    have r4 := r3.kept k4 (by simp)
    have KX4 := Lib.hid (KX3.out.trans k4 (by simp))
    clear k1 k2 k3 k4
    clear c0 ch0 c1 ch1 c2 ch2
    have c0 := (p4).cell 0 rfl
    have ch0 := (r4).cell 0 rfl
    have c1 := (p4).cell 1 rfl
    have ch1 := (r4).cell 1 rfl
    have c2 := (p4).cell 2 rfl
    have ch2 := (r4).cell 2 rfl
    clear p1 p2 p3 p4 r1 r2 r3 r4
    go_wp2_with fail
    go_ret
    exact ⟨_, rfl, rfl, KX4.out⟩
  rw [hf1] at HFE
  cases hf2 : fewG e2 f2 g2
  · rw [hf2] at HFH
    generalize gRight e f g = rg at *
    clear hg hsl hB hbq hgood hbp hbq' k0 hf1 hf2 ll
    go_enter Tryd.func5, Tryd.ntmps5
    go_upto_region 1 with fail
    rw [← hw0]
    clear hw0
    go_wp2_with fail
    refine HAW.out.mono ?_
    rintro _ x1 ⟨_, rfl, rfl, k1⟩
    have p1 := HP.out.kept k1 (by simp)
    have r1 := HQ.out.kept k1 (by simp)
    have KX1 := Lib.hid (K0.out.trans k1 (by simp))
    have c0 := (p1).cell 0 rfl
    have ch0 := (r1).cell 0 rfl
    have c1 := (p1).cell 1 rfl
    have ch1 := (r1).cell 1 rfl
    have c2 := (p1).cell 2 rfl
    have ch2 := (r1).cell 2 rfl
    have HFE1 := Lib.hid (HFE.out x1)
    go_wp2_with fail
    refine HFE1.out.mono ?_
    rintro _ x2 ⟨_, rfl, rfl, k2⟩
    have p2 := p1.kept k2 (by simp)
    have r2 := r1.kept k2 (by simp)
    have KX2 := Lib.hid (KX1.out.trans k2 (by simp))
    clear c0 ch0 c1 ch1 c2 ch2
    have c0 := (p2).cell 0 rfl
    have ch0 := (r2).cell 0 rfl
    have c1 := (p2).cell 1 rfl
    have ch1 := (r2).cell 1 rfl
    have c2 := (p2).cell 2 rfl
    have ch2 := (r2).cell 2 rfl
    have HFH1 := Lib.hid (HFH.out x2)
    go_wp2_with fail
    refine HFH1.out.mono ?_
    rintro _ x3 ⟨_, rfl, rfl, k3⟩
    have p3 := p2.kept k3 (by simp)
    have r3 := r2.kept k3 (by simp)
    have KX3 := Lib.hid (KX2.out.trans k3 (by simp))
    clear c0 ch0 c1 ch1 c2 ch2
    have c0 := (p3).cell 0 rfl
    have ch0 := (r3).cell 0 rfl
    have c1 := (p3).cell 1 rfl
    have ch1 := (r3).cell 1 rfl
    have c2 := (p3).cell 2 rfl
    have ch2 := (r3).cell 2 rfl
    have HRR1 := Lib.hid (HRR.out x3)
    go_wp2_with fail
    refine HRR1.out.mono ?_
    rintro _ x4 ⟨_, rfl, rfl, k4⟩
    have p4 := p3.kept k4 (by simp)
    have r4 := r3.kept k4 (by simp)
    have KX4 := Lib.hid (KX3.out.trans k4 (by simp))
    clear k1 k2 k3 k4
    clear c0 ch0 c1 ch1 c2 ch2
    have c0 := (p4).cell 0 rfl
    have ch0 := (r4).cell 0 rfl
    have c1 := (p4).cell 1 rfl
    have ch1 := (r4).cell 1 rfl
    have c2 := (p4).cell 2 rfl
    have ch2 := (r4).cell 2 rfl
    clear p1 p2 p3 p4 r1 r2 r3 r4
    go_wp2_with fail
    go_ret
    exact ⟨_, rfl, rfl, KX4.out⟩
  rw [hf2] at HFH
  cases hr : gRight e f g
  · rw [hr] at HRR
    clear hg hsl hB hbq hgood hbp hbq' k0 hf1 hf2 hr ll
    go_enter Tryd.func5, Tryd.ntmps5
    go_upto_region 1 with fail
    rw [← hw0]
    clear hw0
    go_wp2_with fail
    refine HAW.out.mono ?_
    rintro _ x1 ⟨_, rfl, rfl, k1⟩
    have p1 := HP.out.kept k1 (by simp)
    have r1 := HQ.out.kept k1 (by simp)
    have KX1 := Lib.hid (K0.out.trans k1 (by simp))
    have c0 := (p1).cell 0 rfl
    have ch0 := (r1).cell 0 rfl
    have c1 := (p1).cell 1 rfl
    have ch1 := (r1).cell 1 rfl
    have c2 := (p1).cell 2 rfl
    have ch2 := (r1).cell 2 rfl
    have HFE1 := Lib.hid (HFE.out x1)
    go_wp2_with fail
    refine HFE1.out.mono ?_
    rintro _ x2 ⟨_, rfl, rfl, k2⟩
    have p2 := p1.kept k2 (by simp)
    have r2 := r1.kept k2 (by simp)
    have KX2 := Lib.hid (KX1.out.trans k2 (by simp))
    clear c0 ch0 c1 ch1 c2 ch2
    have c0 := (p2).cell 0 rfl
    have ch0 := (r2).cell 0 rfl
    have c1 := (p2).cell 1 rfl
    have ch1 := (r2).cell 1 rfl
    have c2 := (p2).cell 2 rfl
    have ch2 := (r2).cell 2 rfl
    have HFH1 := Lib.hid (HFH.out x2)
    go_wp2_with fail
    refine HFH1.out.mono ?_
    rintro _ x3 ⟨_, rfl, rfl, k3⟩
    have p3 := p2.kept k3 (by simp)
    have r3 := r2.kept k3 (by simp)
    have KX3 := Lib.hid (KX2.out.trans k3 (by simp))
    clear c0 ch0 c1 ch1 c2 ch2
    have c0 := (p3).cell 0 rfl
    have ch0 := (r3).cell 0 rfl
    have c1 := (p3).cell 1 rfl
    have ch1 := (r3).cell 1 rfl
    have c2 := (p3).cell 2 rfl
    have ch2 := (r3).cell 2 rfl
    have HRR1 := Lib.hid (HRR.out x3)
    go_wp2_with fail
    refine HRR1.out.mono ?_
    rintro _ x4 ⟨_, rfl, rfl, k4⟩
    have p4 := p3.kept k4 (by simp)
    have r4 := r3.kept k4 (by simp)
    have KX4 := Lib.hid (KX3.out.trans k4 (by simp))
    clear k1 k2 k3 k4
    clear c0 ch0 c1 ch1 c2 ch2
    have c0 := (p4).cell 0 rfl
    have ch0 := (r4).cell 0 rfl
    have c1 := (p4).cell 1 rfl
    have ch1 := (r4).cell 1 rfl
    have c2 := (p4).cell 2 rfl
    have ch2 := (r4).cell 2 rfl
    clear p1 p2 p3 p4 r1 r2 r3 r4
    go_wp2_with fail
    go_ret
    exact ⟨_, rfl, rfl, KX4.out⟩
  rw [hr] at HRR
  have hl : l.length ≠ gTotal e f g := fun h => hgood ⟨⟨hr, by unfold fewG at hf1; rw [hr] at hf1; simpa using hf1, h⟩, hf2⟩
  generalize gTotal e f g = T at *
  have tl : ((l.length : Int) != (T : Int)) = true := by simp; omega
  clear hg hsl hB hbq hgood hbp hbq' k0 hf1 hf2 hr hl ll
  go_enter Tryd.func5, Tryd.ntmps5
  go_upto_region 1 with fail
  rw [← hw0]
  clear hw0
  go_wp2_with fail
  refine HAW.out.mono ?_
  rintro _ x1 ⟨_, rfl, rfl, k1⟩
  have p1 := HP.out.kept k1 (by simp)
  have r1 := HQ.out.kept k1 (by simp)
  have KX1 := Lib.hid (K0.out.trans k1 (by simp))
  have c0 := (p1).cell 0 rfl
  have ch0 := (r1).cell 0 rfl
  have c1 := (p1).cell 1 rfl
  have ch1 := (r1).cell 1 rfl
  have c2 := (p1).cell 2 rfl
  have ch2 := (r1).cell 2 rfl
  have HFE1 := Lib.hid (HFE.out x1)
  go_wp2_with fail
  refine HFE1.out.mono ?_
  rintro _ x2 ⟨_, rfl, rfl, k2⟩
  have p2 := p1.kept k2 (by simp)
  have r2 := r1.kept k2 (by simp)
  have KX2 := Lib.hid (KX1.out.trans k2 (by simp))
  clear c0 ch0 c1 ch1 c2 ch2
  have c0 := (p2).cell 0 rfl
  have ch0 := (r2).cell 0 rfl
  have c1 := (p2).cell 1 rfl
  have ch1 := (r2).cell 1 rfl
  have c2 := (p2).cell 2 rfl
  have ch2 := (r2).cell 2 rfl
  have HFH1 := Lib.hid (HFH.out x2)
  go_wp2_with fail
  refine HFH1.out.mono ?_
  rintro _ x3 ⟨_, rfl, rfl, k3⟩
  have p3 := p2.kept k3 (by simp)
  have r3 := r2.kept k3 (by simp)
  have KX3 := Lib.hid (KX2.out.trans k3 (by simp))
  clear c0 ch0 c1 ch1 c2 ch2
  have c0 := (p3).cell 0 rfl
  have ch0 := (r3).cell 0 rfl
  have c1 := (p3).cell 1 rfl
  have ch1 := (r3).cell 1 rfl
  have c2 := (p3).cell 2 rfl
  have ch2 := (r3).cell 2 rfl
  have HRR1 := Lib.hid (HRR.out x3)
  go_wp2_with fail
  refine HRR1.out.mono ?_
  rintro _ x4 ⟨_, rfl, rfl, k4⟩
  have p4 := p3.kept k4 (by simp)
  have r4 := r3.kept k4 (by simp)
  have KX4 := Lib.hid (KX3.out.trans k4 (by simp))
  clear k1 k2 k3 k4
  clear c0 ch0 c1 ch1 c2 ch2
  have c0 := (p4).cell 0 rfl
  have ch0 := (r4).cell 0 rfl
  have c1 := (p4).cell 1 rfl
  have ch1 := (r4).cell 1 rfl
  have c2 := (p4).cell 2 rfl
  have ch2 := (r4).cell 2 rfl
  have HRT1 := Lib.hid (HRT.out x4)
  go_wp2_with fail
  refine HRT1.out.mono ?_
  rintro _ x5 ⟨_, rfl, rfl, k5⟩
  have p5 := p4.kept k5 (by simp)
  have r5 := r4.kept k5 (by simp)
  have KX5 := Lib.hid (KX4.out.trans k5 (by simp))
  clear k5
  clear c0 ch0 c1 ch1 c2 ch2
  clear p1 p2 p3 p4 p5 r1 r2 r3 r4 r5
  go_wp2_with fail
  go_ret
  exact ⟨_, rfl, rfl, KX5.out⟩
theorem SlotStranger_walk (w : World) (hg : GeoLaid w) (e f g e2 f2 g2 : Int) (v : Value) (l : List Int) (sz : Int) (hs : SliceAt Byte1 1 w w.heap.size v l) (z0 : 0 ≤ sz) (z1 : sz ≤ 255) :
    Calls Tryd.prog 5 #[.agg #[.int .i64 e, .int .i64 f, .int .i64 g], .agg #[.int .i64 e2, .int .i64 f2, .int .i64 g2], .int .u8 sz, v] w (fun e W => e = .returned (.bool true) ∧ Below w.heap.size w W) := by
  obtain ⟨bq, off, hsl, hB, hbq⟩ := Sl.of_at hs
  exact (SlotStranger_post w hg e f g e2 f2 g2 v bq off l sz hsl hB hbq z0 z1).mono fun _ _ ⟨_, h1, h2, h3⟩ => ⟨by rw [h1, h2], h3.below _ (Nat.le_refl _) (by simp)⟩
end Go.Proofs.YtlglbgemmljmlaaDoor
