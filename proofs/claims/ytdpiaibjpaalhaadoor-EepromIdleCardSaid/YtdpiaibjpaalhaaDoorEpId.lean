/- PROVED: the walk of keepsakelaw10.EepromIdle. No conditions beyond those that each theorem states. -/
import Derived.Test.YtdpiaibjpaalhaaDoorEpWr
import Derived.Test.YtdpiaibjpaalhaaDoorEpIz
import Derived.Test.YtdpiaibjpaalhaaDoorEpArg
namespace Go.Proofs.YtdpiaibjpaalhaaDoor
open Go.RowKit Go.Proofs.YtdpiaibjpaalhaaDoorLib Go.WideElems Go.Maps Go.ChangeMaps
set_option linter.unusedSimpArgs false
set_option linter.unusedVariables false

theorem samp_at {w : World} {v : Value} {l : List (Bool × Bool × Bool)} (h : SliceAt Samp 3 w w.heap.size v l) (hne : l ≠ []) : ∃ g off c, v = .slice (some ⟨g, off, none⟩) l.length c ∧ g < w.heap.size ∧ ∀ (w1 : World) (S : List Nat), Kept w w1 S → g ∉ S → ∀ (i : Nat) (p : Bool × Bool × Bool), l[i]? = some p →
    w1.cell? ⟨g, off + i * 3, none⟩ = some (.bool p.1) ∧ w1.cell? ⟨g, off + i * 3 + 1, none⟩ = some (.bool p.2.1) ∧ w1.cell? ⟨g, off + i * 3 + 2, none⟩ = some (.bool p.2.2) := by
  obtain ⟨A, c, rfl, h1, h2, h3⟩ := h
  rcases h3 with h3 | ⟨g, off, rfl, hg, hx⟩
  · exact absurd h3 hne
  · refine ⟨g, off, c, rfl, hg, fun w1 S hk hS i p hp => ?_⟩
    obtain ⟨cs, _, e, hc⟩ := hx i p hp
    have e : cs = _ := e
    subst e
    exact ⟨hk.cell (hc 0 _ rfl) hS, hk.cell (hc 1 _ rfl) hS, hk.cell (hc 2 _ rfl) hS⟩
set_option maxRecDepth 100000 in
set_option maxHeartbeats 1500000 in
theorem idle_long (w : World) (hg : GeoLaid w) (kd : Int) (vb : Value) (b : List Int) (bb ob : Nat) (k0 : 0 ≤ kd) (k1 : kd ≤ 255) (hb : Sl .u8 w vb bb ob b) (h : 40 < b.length) (vl : Value) (l : List (Bool × Bool × Bool)) (hl : SliceAt Samp 3 w w.heap.size vl l) :
    Calls Tryd.prog 6 #[.int .u8 kd, vb, vl] w fun e W => e = .returned (.bool true) ∧ Below w.heap.size w W := by
  have HA := Lib.hid (awake_any w hg)
  have L1 := hb.len
  unfold maxLen at L1
  have lb0 : (0 : Int) ≤ b.length := by omega
  have q0 := Int.emod_nonneg kd (b := 5) (by decide)
  have q1 := Int.emod_lt_of_pos kd (b := 5) (by decide)
  obtain ⟨A1, c1, rfl⟩ := sl_int hb
  have t1 : (40 : Int) < b.length := by omega
  have t2 : decide (40 < b.length) = true := by rw [decide_eq_true_iff]; exact h
  have L2 := hl.len
  unfold maxLen at L2
  have ll0 : (0 : Int) ≤ l.length := by omega
  obtain ⟨A2, c2, rfl, _, _, _⟩ := hl
  clear hb hg
  go_enter Tryd.func6, Tryd.ntmps6
  go_wp2_with fail
  refine HA.out.mono ?_
  rintro _ w1 ⟨_, rfl, rfl, kk⟩
  have K := Lib.hid kk
  clear kk HA
  go_wp2_with fail
  go_ret
  exact ⟨rfl, below_of K.out⟩
set_option maxRecDepth 100000 in
set_option maxHeartbeats 1500000 in
theorem idle_many (w : World) (hg : GeoLaid w) (kd : Int) (vb : Value) (b : List Int) (bb ob : Nat) (k0 : 0 ≤ kd) (k1 : kd ≤ 255) (hb : Sl .u8 w vb bb ob b) (h : b.length ≤ 40) (vl : Value) (l : List (Bool × Bool × Bool)) (hl : SliceAt Samp 3 w w.heap.size vl l) (h2 : 400 < l.length) :
    Calls Tryd.prog 6 #[.int .u8 kd, vb, vl] w fun e W => e = .returned (.bool true) ∧ Below w.heap.size w W := by
  have HA := Lib.hid (awake_any w hg)
  have L1 := hb.len
  unfold maxLen at L1
  have lb0 : (0 : Int) ≤ b.length := by omega
  have q0 := Int.emod_nonneg kd (b := 5) (by decide)
  have q1 := Int.emod_lt_of_pos kd (b := 5) (by decide)
  obtain ⟨A1, c1, rfl⟩ := sl_int hb
  have t1 : ¬ (40 : Int) < b.length := by omega
  have t2 : decide (40 < b.length) = false := by rw [decide_eq_false_iff_not]; omega
  have L2 := hl.len
  unfold maxLen at L2
  have ll0 : (0 : Int) ≤ l.length := by omega
  have t3 : (400 : Int) < l.length := by omega
  have t4 : decide (400 < l.length) = true := by rw [decide_eq_true_iff]; exact h2
  obtain ⟨A2, c2, rfl, _, _, _⟩ := hl
  clear hb hg
  go_enter Tryd.func6, Tryd.ntmps6
  go_wp2_with fail
  refine HA.out.mono ?_
  rintro _ w1 ⟨_, rfl, rfl, kk⟩
  have K := Lib.hid kk
  clear kk HA
  go_wp2_with fail
  go_ret
  exact ⟨rfl, below_of K.out⟩
set_option maxRecDepth 100000 in
set_option maxHeartbeats 1500000 in
theorem idle_main (w : World) (hg : GeoLaid w) (kd : Int) (vb : Value) (b : List Int) (bb ob : Nat) (k0 : 0 ≤ kd) (k1 : kd ≤ 255) (hb : Sl .u8 w vb bb ob b) (hbb : Bts b) (h : b.length ≤ 40) (vl : Value) (l : List (Bool × Bool × Bool)) (hl : SliceAt Samp 3 w w.heap.size vl l) (h2 : l.length ≤ 400) :
    Calls Tryd.prog 6 #[.int .u8 kd, vb, vl] w fun e W => e = .returned (.bool true) ∧ Below w.heap.size w W := by
  have HA := Lib.hid (awake_any w hg)
  have L1 := hb.len
  unfold maxLen at L1
  have lb0 : (0 : Int) ≤ b.length := by omega
  have q0 := Int.emod_nonneg kd (b := 5) (by decide)
  have q1 := Int.emod_lt_of_pos kd (b := 5) (by decide)
  obtain ⟨k, hk0, kk1, kk2⟩ := kind_nat kd k0 5 (by decide)
  have hk : 1 + kd % 5 = (k : Int) := hk0
  have ki0 : (1 : Int) ≤ k := by omega
  have ki1 : (k : Int) ≤ 5 := by omega
  clear hk0
  have hgb := geo_bd kk1 (show k ≤ 10 by omega)
  have HB := Lib.hid hb
  obtain ⟨A1, c1, rfl⟩ := sl_int hb
  have t1 : ¬ (40 : Int) < b.length := by omega
  have t2 : decide (40 < b.length) = false := by rw [decide_eq_false_iff_not]; omega
  have g1 : (128 : Int) ≤ geoBytes k := by omega
  have g2 : (geoBytes k : Int) ≤ 65536 := by omega
  have HRE := Lib.hid (fun w1 => rEeprom_any w1 k kk1 (show k ≤ 10 by omega))
  have hd := fillL_len b (geoBytes k)
  have hdb := fillL_bts hbb (geoBytes k)
  have HFILL := Lib.hid (fun w1 v hs => fill_any w1 v bb ob b hs (geoBytes k) (by omega) (by omega))
  have HNEW := Lib.hid (fun w1 hg1 v bq hs => epNew_any w1 hg1 k kk1 (show k ≤ 10 by omega) v bq 0 (fillL b (geoBytes k)) hs hdb hd)
  have hc0 : (EpS.new k (fillL b (geoBytes k))).clock = 0 := rfl
  generalize hd0 : fillL b (geoBytes k) = d at *
  generalize hs0 : EpS.new k d = s0 at *
  have HST := Lib.hid (show s0.Still d true true 0 by rw [← hs0]; exact new_still k d)
  have L2 := hl.len
  unfold maxLen at L2
  have ll0 : (0 : Int) ≤ l.length := by omega
  have t3 : ¬ (400 : Int) < l.length := by omega
  have t4 : decide (400 < l.length) = false := by rw [decide_eq_false_iff_not]; omega
  have ll1 : (l.length : Int) ≤ 400 := by omega
  have hform : ∃ A2 c2, vl = .slice A2 l.length c2 := by obtain ⟨A2, c2, e, _, _, _⟩ := hl; exact ⟨A2, c2, e⟩
  obtain ⟨A2, c2, rfl⟩ := hform
  have HL := Lib.hid hl
  clear hl
  have HDN : Hid (d ≠ []) := Lib.hid (by intro e; rw [e] at hd; simp at hd; omega)
  have HD := Lib.hid (And.intro hd trivial)
  have Cs0 := Lib.hid (show s0.clock ≤ 0 by omega)
  have HG := Lib.hid hg
  have KK := Lib.hid (⟨kk1, kk2⟩ : 1 ≤ k ∧ k ≤ 5)
  have HGB := Lib.hid hgb
  clear hs0 hd0 hd hdb hc0 hb hbb hg hgb kk1 kk2
  go_enter Tryd.func6, Tryd.ntmps6
  go_wp2_with fail
  refine HA.out.mono ?_
  rintro _ w1 ⟨_, rfl, rfl, kk⟩
  have K1 := Lib.hid kk
  clear kk HA
  go_wp2_with fail
  refine (HRE.out w1).mono ?_
  rintro _ w2 ⟨_, rfl, rfl, kk⟩
  have K2 := Lib.hid (K1.out.trans kk (by simp))
  clear kk
  go_wp2_with fail
  refine (HFILL.out w2 _ (HB.out.kept K2.out (.inr (by simp)))).mono ?_
  rintro _ w3 ⟨vd, rfl, hvd, kk⟩
  have K3 := Lib.hid (K2.out.trans kk (by simp))
  obtain ⟨bd, hsd, hbd⟩ := hvd.sl
  obtain ⟨cd, rfl⟩ := hsd.at HDN.out
  have HSD := Lib.hid hsd
  have HBD : Hid (w2.heap.size ≤ bd ∧ bd < w3.heap.size) := Lib.hid (by
    rcases hbd with hbd | hbd
    · exact absurd hbd HDN.out
    · exact ⟨hbd.2, hsd.lt HDN.out⟩)
  clear kk hvd hsd hbd
  go_wp2_with fail
  refine (HNEW.out w3 (HG.out.kept K3.out (by simp)) _ bd HSD.out).mono ?_
  rintro _ w4 ⟨_, rfl, ⟨p, F, rfl, hch, hF⟩, kk⟩
  have K4 := Lib.hid (K3.out.trans kk (by simp))
  have K34 := Lib.hid kk.size
  have HSD4 := Lib.hid (HSD.out.kept kk (.inr (by simp)))
  have HFO := Lib.hid hF
  have HLO := Lib.hid hch.lo
  have R4 := Lib.hid (Ran.start hch)
  have HG4 := Lib.hid (HG.out.kept K4.out (by simp))
  have HBDF : Hid (bd ∉ F) := Lib.hid (fun hm => by have h1 := hF bd hm; have h2 := HBD.out; omega)
  clear kk hch hF HNEW
  go_wp2_with fail
  refine (wireNew_any w4).mono ?_
  rintro _ w5 ⟨_, rfl, ⟨bw, rfl, hbw, hbl⟩, kk⟩
  have R5 := Lib.hid (R4.out.same kk)
  have HBW := Lib.hid hbw
  have HBN := Lib.hid (R4.out.new hbl)
  have HBL := Lib.hid hbl
  have KW5 : Hid (Kept w w5 []) := Lib.hid (K4.out.trans kk (by simp))
  have HFW : Hid (∀ g, g ∈ F → w.heap.size ≤ g) := Lib.hid (fun g hg => by have := HFO.out g hg; have := K3.out.size; omega)
  have HG5 := Lib.hid (HG4.out.kept kk (by simp))
  have S4 := Lib.hid K4.out.size
  clear kk hbw hbl
  go_wp2_with fail
  go_loopg [13] l.length (fun g i wr => ∃ (j : Nat) (F' : List Nat) (c0 d0 : Bool) (s : EpS), j + g = l.length ∧ i = .int .i64 j ∧ Grows w5 F F' ∧ ChipAt wr p F' s ∧ s.Still d c0 d0 j ∧ Blk wr bw 74 [.bool c0, .bool d0] ∧ Kept w5 wr (bw :: F))
  case atStart => exact ⟨0, F, true, true, s0, by omega, rfl, Grows.refl _ _, R5.out.ch, HST.out, HBW.out, Kept.refl _ _⟩
  case round =>
    obtain ⟨j, F', c0, d0, s, hj, rfl, hgr, hch, hst, hbw, hkept⟩ := hrel
    have HJ := Lib.hid hj
    have HGR := Lib.hid hgr
    have HCH := Lib.hid hch
    have HSS := Lib.hid hst
    have HBB := Lib.hid hbw
    have HKE := Lib.hid hkept
    have HBWF : Hid (bw ∉ F') := Lib.hid (hgr.nin HBN.out HBW.out.lt)
    have hlo : ∀ g, g ∈ bw :: F → w.heap.size ≤ g := fun g hg => by
      rcases List.mem_cons.1 hg with rfl | hg
      · have := HBL.out; have := S4.out; omega
      · exact HFW.out g hg
    have HLOW := Lib.hid hlo
    have KWR : Hid (Kept w wr []) := Lib.hid (KW5.out.trans hkept (fun g hg => .inr (hlo g hg)))
    have HGE : Hid (GeoLaid wr) := Lib.hid (HG5.out.kept hkept (fun g hg => by
      have h1 := hlo g hg
      have h2 := HG.out.sz
      omega))
    clear hgr hch hst hbw hkept hlo
    by_cases hlt : j < l.length
    · have hne : l ≠ [] := by intro e; rw [e] at hlt; simp at hlt
      obtain ⟨gl, ol, cl, e, hgl, hcells⟩ := samp_at HL.out hne
      simp only [Value.slice.injEq] at e
      obtain ⟨rfl, _, rfl⟩ := e
      have hp := List.getElem?_eq_getElem hlt
      generalize l[j] = q at hp
      obtain ⟨z0, z1, z2⟩ := hcells wr [] KWR.out (by simp) j q hp
      have HCELL := Lib.hid hcells
      have HP := Lib.hid hp
      have HGL := Lib.hid hgl
      have j0 : (0 : Int) ≤ j := by omega
      have j1 : (j : Int) < l.length := by omega
      have j2 : (j : Int) < 400 := by omega
      have d1 : decide (j < l.length) = true := by simpa using hlt
      clear hcells hp hj hne hgl
      go_wp2_with fail
      go_still_tail 12, (by kernel_rfl)
      go_wp2_with fail
      refine (wireStep_any wr.drew bw c0 d0 q.1 q.2.1 HBB.out).mono ?_
      rintro _ w8 ⟨_, rfl, ⟨rfl, hb8⟩, k8⟩
      have HB8 := Lib.hid hb8
      have K8 : Hid (Kept wr w8 [bw]) := Lib.hid ((Kept.refl wr [bw]).drew.trans k8 (fun g hg => .inl hg))
      have HCH8 : Hid (ChipAt w8 p F' s) := Lib.hid (HCH.out.kept K8.out (by simpa using HBWF.out))
      have KWR8 : Hid (Kept w w8 []) := Lib.hid (KWR.out.trans K8.out (fun g hg => by
        simp at hg; subst hg
        exact .inr (HLOW.out _ (List.mem_cons_self ..))))
      have HGE8 : Hid (GeoLaid w8) := Lib.hid (HG.out.kept KWR8.out (by simp))
      obtain ⟨y0, y1, y2⟩ := HCELL.out w8 [] KWR8.out (by simp) j q HP.out
      clear hb8 k8 z0 z1 z2
      generalize het : tellW c0 d0 q.1 q.2.1 = et
      have HET := Lib.hid het
      clear het
      by_cases h1 : et = 1
      · have b1 : (et == 1) = true := by rw [beq_iff_eq]; exact h1
        clear h1
        go_wp2_with fail
        go_ret
        exact ⟨rfl, below_of KWR8.out⟩
      · have b1 : (et == 1) = false := by rw [beq_eq_false_iff_ne]; exact h1
        have hstep := still_step HSS.out q.1 q.2.1 q.2.2 (by rw [HET.out]; exact h1)
        have HNX := Lib.hid hstep
        clear h1 hstep
        go_wp2_with fail
        go_still_tail 16, (by kernel_rfl)
        go_wp2_with fail
        refine (step_any w8.drew p F' s q.1 q.2.1 q.2.2 HGE8.out.drew (HCH8.out.kept (S := []) (Kept.refl w8 []).drew (by simp)) (by have := HSS.out.ck; omega)).mono ?_
        rintro _ w9 ⟨_, rfl, ⟨rfl, F9, hgr9, hch9⟩, k9⟩
        rw [HNX.out.2]
        have HS9 := Lib.hid HNX.out.1
        generalize s.step q.1 q.2.1 q.2.2 = s9 at hch9 HS9
        have HCH9 := Lib.hid hch9
        have K9 : Hid (Kept w8 w9 F') := Lib.hid ((Kept.refl w8 F').drew.trans k9 (fun g hg => .inl hg))
        have KE9 : Hid (Kept w5 w9 (bw :: F)) := Lib.hid (Kept.trans (HKE.out.trans K8.out (fun g hg => by simp at hg; subst hg; exact .inl (List.mem_cons_self ..))) K9.out (fun g hg => by
          rcases HGR.out g hg with h | h
          · exact .inl (List.mem_cons_of_mem _ h)
          · exact .inr h))
        have GR9 : Hid (Grows w5 F F9) := Lib.hid (HGR.out.trans hgr9 (show w5.heap.size ≤ w8.drew.heap.size from Nat.le_trans HKE.out.size K8.out.size))
        have KWR9 : Hid (Kept w w9 []) := Lib.hid (KW5.out.trans KE9.out (fun g hg => .inr (HLOW.out g hg)))
        obtain ⟨x0, x1, x2⟩ := HCELL.out w9 [] KWR9.out (by simp) j q HP.out
        have HB9 := Lib.hid (HB8.out.kept K9.out HBWF.out)
        have bq : (q.2.1 != q.2.1) = false := by simp
        clear hgr9 hch9 k9 y0 y1 y2
        go_wp2_with fail
        refine (left_any w9 p F9 s9 HCH9.out).mono ?_
        rintro _ w10 ⟨_, rfl, rfl, k10⟩
        have hl0 : ((s9.left : Nat) : Int) = 0 := by rw [HS9.out.le]; rfl
        rw [hl0]
        have K10 := Lib.hid k10
        clear k10 hl0 x0 x1 x2
        go_wp2_with fail
        refine (pointer_any w10 p F9 s9 (HCH9.out.kept K10.out (by simp))).mono ?_
        rintro _ w11 ⟨_, rfl, rfl, k11⟩
        have hp0 : ((s9.pointer : Nat) : Int) = 0 := by rw [HS9.out.po]; rfl
        rw [hp0]
        have K11 := Lib.hid (K10.out.trans k11 (by simp))
        clear k11 hp0
        go_wp2_with fail
        go_roundg (gk - 1)
        case measure => have := HJ.out; omega
        case rel => exact ⟨j + 1, F9, q.1, q.2.1, s9, by have := HJ.out; omega, by go_num, GR9.out, HCH9.out.kept K11.out (by simp), HS9.out, HB9.out.kept K11.out (by simp), KE9.out.trans K11.out (by simp)⟩
    · have hjl : j = l.length := by omega
      subst hjl
      have d1 : decide (l.length < l.length) = false := by simp
      clear hlt hj
      go_wp2_with fail
      refine (bytes_any wr p F' s HCH.out).mono ?_
      rintro _ w8 ⟨v8, rfl, hv, k8⟩
      rw [HSS.out.da] at hv
      obtain ⟨b8, hs8, _⟩ := hv.sl
      have HS8 := Lib.hid hs8
      have HBDW : Hid (bd ∉ bw :: F) := Lib.hid (fun hm => by
        rcases List.mem_cons.1 hm with e | hm
        · have h1 := HBL.out; have h2 := HBD.out; have h3 := K34.out; omega
        · exact HBDF.out hm)
      have HDS8 := Lib.hid (((HSD4.out.kept (R5.out.kp) (.inr HBDF.out)).kept HKE.out (.inr HBDW.out)).kept k8 (.inr (by simp)))
      have K8 := Lib.hid k8
      clear hv hs8 k8
      go_wp2_with fail
      refine (same_any w8 _ _ b8 0 bd 0 d d HS8.out HDS8.out).mono ?_
      rintro _ w9 ⟨_, rfl, rfl, k9⟩
      rw [decide_eq_true (rfl : d = d)]
      have K9 := Lib.hid (K8.out.trans k9 (by simp))
      clear k9
      go_wp2_with fail
      go_ret
      exact ⟨rfl, below_of (KWR.out.trans K9.out (by simp))⟩
theorem EepromIdle_walk (w : World) (hg : GeoLaid w) (kd : Int) (vb vl : Value) (b : List Int) (l : List (Bool × Bool × Bool)) (k0 : 0 ≤ kd) (k1 : kd ≤ 255) (hb : SliceAt Byte1 1 w w.heap.size vb b) (hl : SliceAt Samp 3 w w.heap.size vl l) :
    Calls Tryd.prog 6 #[.int .u8 kd, vb, vl] w fun e W => e = .returned (.bool true) ∧ Below w.heap.size w W := by
  obtain ⟨bb, ob, hb, hbb, _⟩ := Sl.of_at hb
  by_cases h : 40 < b.length
  · exact idle_long w hg kd vb b bb ob k0 k1 hb h vl l hl
  by_cases h2 : 400 < l.length
  · exact idle_many w hg kd vb b bb ob k0 k1 hb (by omega) vl l hl h2
  exact idle_main w hg kd vb b bb ob k0 k1 hb hbb (by omega) vl l hl (by omega)
end Go.Proofs.YtdpiaibjpaalhaaDoor
