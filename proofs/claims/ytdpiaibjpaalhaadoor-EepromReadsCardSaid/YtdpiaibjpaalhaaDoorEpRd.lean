/- PROVED: the walk of keepsakelaw10.EepromReads. No conditions beyond those that each theorem states. -/
import Derived.Test.YtdpiaibjpaalhaaDoorEpWr
import Derived.Test.YtdpiaibjpaalhaaDoorEpRz
import Derived.Test.YtdpiaibjpaalhaaDoorEpU
namespace Go.Proofs.YtdpiaibjpaalhaaDoor
open Go.RowKit Go.Proofs.YtdpiaibjpaalhaaDoorLib Go.WideElems Go.Maps Go.ChangeMaps
set_option linter.unusedSimpArgs false
set_option linter.unusedVariables false

set_option maxRecDepth 100000 in
set_option maxHeartbeats 4000000 in
theorem reads_long (w : World) (hg : GeoLaid w) (kd : Int) (vb : Value) (b : List Int) (bb ob : Nat) (k0 : 0 ≤ kd) (k1 : kd ≤ 255) (hb : Sl .u8 w vb bb ob b) (h : 40 < b.length) (ad many : Int) :
    Calls Tryd.prog 4 #[.int .u8 kd, vb, .int .u16 ad, .int .u8 many] w fun e W => e = .returned (.bool true) ∧ Below w.heap.size w W := by
  have HA := Lib.hid (awake_any w hg)
  have L1 := hb.len
  unfold maxLen at L1
  have lb0 : (0 : Int) ≤ b.length := by omega
  have q0 := Int.emod_nonneg kd (b := 7) (by decide)
  have q1 := Int.emod_lt_of_pos kd (b := 7) (by decide)
  obtain ⟨A1, c1, rfl⟩ := sl_int hb
  have t1 : (40 : Int) < b.length := by omega
  have t2 : decide (40 < b.length) = true := by rw [decide_eq_true_iff]; exact h
  clear hb hg
  go_enter Tryd.func4, Tryd.ntmps4
  go_wp2_with fail
  refine HA.out.mono ?_
  rintro _ w1 ⟨_, rfl, rfl, kk⟩
  have K := Lib.hid kk
  clear kk HA
  go_wp2_with fail
  go_ret
  exact ⟨rfl, below_of K.out⟩
set_option maxRecDepth 100000 in
set_option maxHeartbeats 4000000 in
theorem reads_blocks_main (w : World) (hg : GeoLaid w) (kd : Int) (vb : Value) (b : List Int) (bb ob : Nat) (k0 : 0 ≤ kd) (k1 : kd ≤ 255) (hb : Sl .u8 w vb bb ob b) (hbb : Bts b) (h : b.length ≤ 40) (ad many : Int) (a0 : 0 ≤ ad) (a1 : ad ≤ 65535) (m0 : 0 ≤ many) (m1 : many ≤ 255) (hbk : ∀ k : Nat, 1 + kd % 7 = (k : Int) →  0 < geoBlocks k) :
    Calls Tryd.prog 4 #[.int .u8 kd, vb, .int .u16 ad, .int .u8 many] w fun e W => e = .returned (.bool true) ∧ Below w.heap.size w W := by
  have HA := Lib.hid (awake_any w hg)
  have L1 := hb.len
  unfold maxLen at L1
  have lb0 : (0 : Int) ≤ b.length := by omega
  have q0 := Int.emod_nonneg kd (b := 7) (by decide)
  have q1 := Int.emod_lt_of_pos kd (b := 7) (by decide)
  obtain ⟨k, hk0, kk1, kk2⟩ := kind_nat kd k0 7 (by decide)
  have hk : 1 + kd % 7 = (k : Int) := hk0
  have ki0 : (1 : Int) ≤ k := by omega
  have ki1 : (k : Int) ≤ 7 := by omega
  clear hk0
  have hgb := geo_bd kk1 (show k ≤ 10 by omega)
  have HB := Lib.hid hb
  obtain ⟨A1, c1, rfl⟩ := sl_int hb
  have t1 : ¬ (40 : Int) < b.length := by omega
  have t2 : decide (40 < b.length) = false := by rw [decide_eq_false_iff_not]; omega
  have g1 : (128 : Int) ≤ geoBytes k := by omega
  have g2 : (geoBytes k : Int) ≤ 65536 := by omega
  have HRE := Lib.hid (fun w1 => rEeprom_any w1 k kk1 (show k ≤ 10 by omega))
  have hd := fillL_len b (geoBytes k)
  have hdb := fillL_bts hbb (geoBytes k)
  have HFILL := Lib.hid (fun w1 v hs => fill_any w1 v bb ob b hs (geoBytes k) (by omega) (by omega))
  have HNEW := Lib.hid (fun w1 hg1 v bq hs => epNew_any w1 hg1 k kk1 (show k ≤ 10 by omega) v bq 0 (fillL b (geoBytes k)) hs hdb hd)
  have hc0 : (EpS.new k (fillL b (geoBytes k))).clock = 0 := rfl
  generalize hd0 : fillL b (geoBytes k) = d at *
  generalize hs0 : EpS.new k d = s0 at *
  obtain ⟨a, ha, hat⟩ := mod_nat ad (geoBytes k) a0 (by omega)
  obtain ⟨m, hm0, hm1, hm2⟩ := kind_nat many m0 20 (by decide)
  have hm : 1 + many % 20 = (m : Int) := hm0
  have q2 := Int.emod_nonneg many (b := 20) (by decide)
  have q3 := Int.emod_lt_of_pos many (b := 20) (by decide)
  have mi0 : (1 : Int) ≤ m := by omega
  have mi1 : (m : Int) ≤ 20 := by omega
  clear hm0
  have hbl := hbk k hk
  have HRB := Lib.hid (fun w1 => rBlocks_any w1 k kk1 (show k ≤ 10 by omega))
  have HRW := Lib.hid (fun w1 => rWide_any w1 k kk1 (show k ≤ 10 by omega))
  have hy : (161 + 2 * (aimB k a : Int)) = 161 + 2 * ((a : Int) / 256) := by unfold aimB; rw [if_pos hbl]; omega
  have ha7 := (aim_block kk1 (show k ≤ 10 by omega) hat).2.1
  have hab : aimB k a = a / 256 := by unfold aimB; rw [if_pos hbl]
  rw [hab] at ha7
  have ai2 : (a : Int) / 256 ≤ 7 := by omega
  have ai3 : (0 : Int) ≤ (a : Int) / 256 := by omega
  have cy : (161 + 2 * ((a : Int) / 256)) % 256 = 161 + 2 * ((a : Int) / 256) := by omega
  have hbd : decide (0 < geoBlocks k) = true := by rw [decide_eq_true_iff]; exact hbl
  have hbi : (0 : Int) < geoBlocks k := by omega
  clear hab ha7
  obtain ⟨s1, e1⟩ : ∃ t, s0.aimed k a = t := ⟨_, rfl⟩
  obtain ⟨s2, e2⟩ : ∃ t, s1.runs false beginL = t := ⟨_, rfl⟩
  obtain ⟨s3, e3⟩ : ∃ t, s2.put1 (161 + 2 * ((a : Int) / 256)) = t := ⟨_, rfl⟩
  have hlaw := reads_law kk1 (show k ≤ 10 by omega) d hd a m hm1 hat s0 s1 s2 s3 hs0 e1 e2 (by rw [hy]; exact e3)
  rw [hy] at hlaw
  have HLAW := Lib.hid hlaw
  have HAT := Lib.hid hat
  have HDB := Lib.hid hdb
  have ai0 : (0 : Int) ≤ a := by omega
  have ai1 : (a : Int) < geoBytes k := by omega
  have gw0 : (0 : Int) ≤ geoWide k := by omega
  have gw1 : (geoWide k : Int) ≤ 2 := by omega
  have c1 := aimed_clock s0 k a
  rw [e1] at c1
  have c2 := (runs_clock s1 false beginL).1
  rw [e2, show beginL.length = 4 from rfl] at c2
  have c3 := put1_clock s2 (161 + 2 * ((a : Int) / 256))
  rw [e3] at c3
  have Cs1 := Lib.hid (show s1.clock ≤ 85 by omega)
  have Cs2 := Lib.hid (show s2.clock ≤ 89 by omega)
  have Cs3 := Lib.hid (show s3.clock ≤ 116 by omega)
  have Es1 := Lib.hid (And.intro e1 trivial)
  have Es2 := Lib.hid (And.intro e2 trivial)
  have Es3 := Lib.hid (And.intro e3 trivial)
  clear e1 e2 c2 e3 c3 hlaw hat hm1 hm2 hy hbk hbl
  have HDN : Hid (d ≠ []) := Lib.hid (by intro e; rw [e] at hd; simp at hd; omega)
  have HD := Lib.hid (And.intro hd trivial)
  have Cs0 := Lib.hid (show s0.clock ≤ 0 by omega)
  have HG := Lib.hid hg
  have KK := Lib.hid (⟨kk1, kk2⟩ : 1 ≤ k ∧ k ≤ 7)
  have HGB := Lib.hid hgb
  clear hs0 hd0 hd hdb hc0 hb hbb hg hgb kk1 kk2
  go_enter Tryd.func4, Tryd.ntmps4
  go_wp2_with fail
  refine HA.out.mono ?_
  rintro _ w1 ⟨_, rfl, rfl, kk⟩
  have K1 := Lib.hid kk
  clear kk HA
  go_wp2_with fail
  refine (HRE.out w1).mono ?_
  rintro _ w2 ⟨_, rfl, rfl, kk⟩
  have K2 := Lib.hid (K1.out.trans kk (by simp))
  clear kk
  go_wp2_with fail
  refine (HFILL.out w2 _ (HB.out.kept K2.out (.inr (by simp)))).mono ?_
  rintro _ w3 ⟨vd, rfl, hvd, kk⟩
  have K3 := Lib.hid (K2.out.trans kk (by simp))
  obtain ⟨bd, hsd, hbd⟩ := hvd.sl
  obtain ⟨cd, rfl⟩ := hsd.at HDN.out
  have HSD := Lib.hid hsd
  have HBD : Hid (w2.heap.size ≤ bd ∧ bd < w3.heap.size) := Lib.hid (by
    rcases hbd with hbd | hbd
    · exact absurd hbd HDN.out
    · exact ⟨hbd.2, hsd.lt HDN.out⟩)
  clear kk hvd hsd hbd
  go_wp2_with fail
  refine (HNEW.out w3 (HG.out.kept K3.out (by simp)) _ bd HSD.out).mono ?_
  rintro _ w4 ⟨_, rfl, ⟨p, F, rfl, hch, hF⟩, kk⟩
  have K4 := Lib.hid (K3.out.trans kk (by simp))
  have HSD4 := Lib.hid (HSD.out.kept kk (.inr (by simp)))
  have HFO := Lib.hid hF
  have HLO := Lib.hid hch.lo
  have R4 := Lib.hid (Ran.start hch)
  have HG4 := Lib.hid (HG.out.kept K4.out (by simp))
  have HBDF : Hid (bd ∉ F) := Lib.hid (fun hm => by have h1 := hF bd hm; have h2 := HBD.out; omega)
  clear kk hch hF HNEW
  go_wp2_with fail
  refine (aim_any w4 p F s0 k a KK.out.1 (by have := KK.out.2; omega) HAT.out (R4.out.geo HG4.out HLO.out) R4.out.ch (by have := Cs0.out; omega)).mono ?_
  rintro _ w5 ⟨_, rfl, ⟨rfl, ll⟩, kk⟩
  obtain ⟨F5, rr⟩ := R4.out.next ll kk
  rw [Es1.out.1] at rr
  rw [HLAW.out.1]
  have R5 := Lib.hid rr
  clear ll kk rr
  go_wp2_with fail
  refine (begin_any w5).mono ?_
  rintro _ w6 ⟨v6, rfl, ⟨g6, hl, hg⟩, kk⟩
  have R6 := Lib.hid (R5.out.same kk)
  have HL6 := Lib.hid hl
  have HN6 := Lib.hid (R5.out.new hg)
  clear hl hg kk
  go_wp2_with fail
  refine (steps_any w6 p F5 s1 false v6 g6 beginL (R6.out.geo HG4.out HLO.out) R6.out.ch HL6.out HN6.out (by have : beginL.length = 4 := rfl; have := Cs1.out; omega)).mono ?_
  rintro _ w7 ⟨_, rfl, ⟨rfl, ll⟩, kk⟩
  obtain ⟨F7, rr⟩ := R6.out.next ll kk
  rw [Es2.out.1] at rr
  have R7 := Lib.hid rr
  clear ll kk rr
  go_wp2_with fail
  refine (HRB.out w7).mono ?_
  rintro _ w8 ⟨_, rfl, rfl, kk⟩
  have R8 := Lib.hid (R7.out.same kk)
  clear kk
  go_wp2_with fail
  refine (lput_any w8 p F7 s2 (161 + 2 * ((a : Int) / 256)) (by omega) (by omega) (R8.out.geo HG4.out HLO.out) R8.out.ch (by have := Cs2.out; omega)).mono ?_
  rintro _ w9 ⟨_, rfl, ⟨rfl, ll⟩, kk⟩
  obtain ⟨F9, rr⟩ := R8.out.next ll kk
  have rr : Ran w4 p F w9 F9 s3 := by rw [← Es3.out.1]; exact rr
  have R9 := Lib.hid rr
  clear ll kk rr
  rw [HLAW.out.2.1]
  have HGF : Hid (GeoLaid w9) := Lib.hid (R9.out.geo HG4.out HLO.out)
  have HLOF := Lib.hid R9.out.ch.lo
  have HBDN : Hid (bd ∉ F9) := Lib.hid (R9.out.gr.nin HBDF.out (by have h1 := HBD.out; have h2 := HSD4.out.lt HDN.out; omega))
  have KWF : Hid (Kept w w9 []) := Lib.hid (K4.out.trans R9.out.kp (fun g hg => .inr (by have := HFO.out g hg; have := K3.out.size; omega)))
  have HFW : Hid (∀ g, g ∈ F9 → w.heap.size ≤ g) := Lib.hid (fun g hm => by
    rcases R9.out.gr g hm with h1 | h1
    · have := HFO.out g h1; have := K3.out.size; omega
    · have := K4.out.size; omega)
  have HSDF := Lib.hid (HSD4.out.kept R9.out.kp (.inr HBDF.out))
  go_wp2_with fail
  go_loopg [19] m (fun g i wr => ∃ (j : Nat) (F' : List Nat) (s : EpS), j + g = m ∧ i = .int .i64 j ∧ Grows w9 F9 F' ∧ ChipAt wr p F' s ∧ s.clock ≤ 116 + 27 * j ∧ ReadsAt s k d a m j ∧ Kept w9 wr F9)
  case atStart => exact ⟨0, F9, s3, by omega, rfl, Grows.refl _ _, R9.out.ch, Cs3.out, HLAW.out.2.2, Kept.refl _ _⟩
  case round =>
    obtain ⟨j, F', s, hj, rfl, hgr, hch, hck, hrd, hkept⟩ := hrel
    have HJ := Lib.hid hj
    have HGR := Lib.hid hgr
    have HCH := Lib.hid hch
    have HCK := Lib.hid hck
    have HRD := Lib.hid hrd
    have HKE := Lib.hid hkept
    have HGE : Hid (GeoLaid wr) := Lib.hid (HGF.out.kept hkept HLOF.out)
    have KWR : Hid (Kept w wr []) := Lib.hid (KWF.out.trans hkept (fun g hg => .inr (HFW.out g hg)))
    have HBR : Hid (bd ∉ F') := Lib.hid (hgr.nin HBDN.out (HSDF.out.lt HDN.out))
    have HSR := Lib.hid (HSDF.out.kept hkept (.inr HBDN.out))
    clear hgr hch hck hrd hkept
    by_cases hlt : j < m
    · have hl : (a + j) % d.length < d.length := Nat.mod_lt _ (by have := HD.out.1; omega)
      have hx : d[(a + j) % d.length]? = some d[(a + j) % d.length] := List.getElem?_eq_getElem hl
      obtain ⟨hgot, hnext⟩ := reads_next HDB.out (by have := HD.out.1; omega) HRD.out hlt
      rw [hx] at hgot
      simp only [Option.getD_some] at hgot
      have hcell := HSR.out.cell hx
      rw [Nat.zero_add] at hcell
      generalize hv : d[(a + j) % d.length] = v at *
      have hvb := HDB.out.get hx
      have hidx : (((a + j) % d.length : Nat) : Int) = ((a : Int) + j) % (geoBytes k : Int) := by rw [HD.out.1, Int.natCast_emod, Int.natCast_add]
      have j0 : (0 : Int) ≤ j := by omega
      have j1 : (j : Int) < m := by omega
      have x0 : (0 : Int) ≤ ((a : Int) + j) % (geoBytes k : Int) := Int.emod_nonneg _ (by omega)
      have x1 : ((a : Int) + j) % (geoBytes k : Int) < d.length := by rw [← hidx]; omega
      have x2 : (((a : Int) + j) % (geoBytes k : Int)).toNat = (a + j) % d.length := by rw [← hidx, Int.toNat_natCast]
      have x3 : ((a : Int) + j) % (geoBytes k : Int) < geoBytes k := Int.emod_lt_of_pos _ (by omega)
      obtain ⟨v0, v1⟩ := hvb
      have d1 : decide (j < m) = true := by simpa using hlt
      have hdc : decide ((j : Int) < m - 1) = decide (j + 1 < m) := by
        by_cases h : j + 1 < m
        · rw [decide_eq_true h, decide_eq_true_iff]; omega
        · rw [decide_eq_false h, decide_eq_false_iff_not]; omega
      have HGOT := Lib.hid (And.intro hgot trivial)
      have HNEXT := Lib.hid hnext
      have dcell : wr.drew.cell? ⟨bd, (a + j) % d.length, none⟩ = some (.int .u8 v) := hcell
      have y1 : IntKind.i64.wrap ((a : Int) + j) = (a : Int) + j := by rw [IntKind.wrap_i64]; omega
      have y2 : IntKind.i64.wrap ((m : Int) - 1) = (m : Int) - 1 := by rw [IntKind.wrap_i64]; omega
      have y3 : ((a : Int) + j).tmod (geoBytes k : Int) = ((a : Int) + j) % (geoBytes k : Int) := Int.tmod_eq_emod_of_nonneg (by omega)
      have y4 : IntKind.i64.wrap (((a : Int) + j) % (geoBytes k : Int)) = ((a : Int) + j) % (geoBytes k : Int) := by rw [IntKind.wrap_i64]; omega
      have y5 : IntKind.i64.wrap v = v := by rw [IntKind.wrap_i64]; omega
      have HDR : Hid (GeoLaid wr.drew ∧ ChipAt wr.drew p F' s) := Lib.hid ⟨HGE.out.drew, HCH.out.kept (S := []) (Kept.refl wr []).drew (by simp)⟩
      have hne0 : ¬ geoBytes k = 0 := by omega
      clear hgot hnext hx hv hl hidx hj hcell
      go_wp2_with fail
      go_region_held3 (fun W => W.cell? ⟨bd, (a + j) % d.length, none⟩ = some (.int .u8 v)) (first | (with_reducible exact dcell) | (with_reducible exact ecell) | go_keep) (first
        | (go_at_call 26; (refine (lget_any _ p F' s _ HDR.out.1 HDR.out.2 (by have := HCK.out; omega)).mono ?_); rintro _ wx ⟨_, rfl, ⟨rfl, lx⟩, kx⟩; have ecell := kx.cell dcell HBR.out))
      all_goals (
        rw [HGOT.out.1]
        have hvv : (v != v) = false := by simp
        obtain ⟨F2, hgr2, hch2⟩ := lx
        have KE2 : Hid (Kept w9 wx F9) := Lib.hid (Kept.grows HKE.out.drew HGR.out kx)
        have GR2 : Hid (Grows w9 F9 F2) := Lib.hid (HGR.out.trans hgr2 HKE.out.size)
        have HCH2 := Lib.hid hch2
        clear hgr2 hch2 kx y1 y2 y3 y4 hdc hne0 ecell dcell
        simp only [y5, bne_self_eq_false, Bool.not_true, decide_true]
        go_wp2_with fail
        go_roundg (gk - 1)
        case measure => have := HJ.out; omega
        case rel =>
          refine ⟨j + 1, F2, _, by have := HJ.out; omega, by go_num, GR2.out, HCH2.out, ?_, HNEXT.out, KE2.out⟩
          rw [(runs_clock _ _ _).1, putL_len]
          have := HCK.out
          omega)
    · have hjm : j = m := by omega
      subst hjm
      obtain ⟨hd4, hp4, hl4⟩ := dumb_end (HRD.out.2 rfl)
      have hc4 := (runs_clock s false endL).1
      rw [endL_len] at hc4
      obtain ⟨s4, e4⟩ : ∃ t, s.runs false endL = t := ⟨_, rfl⟩
      rw [e4] at hd4 hp4 hl4 hc4
      have E4 := Lib.hid (And.intro e4 trivial)
      have hpi : ((s4.pointer : Nat) : Int) = ((a : Int) + j) % (geoBytes k : Int) := by rw [hp4, HD.out.1, Int.natCast_emod, Int.natCast_add]
      have HPI := Lib.hid (And.intro hpi trivial)
      have HD4 := Lib.hid (And.intro hd4 trivial)
      have HL4 := Lib.hid (And.intro hl4 trivial)
      have x0 : (0 : Int) ≤ ((a : Int) + j) % (geoBytes k : Int) := Int.emod_nonneg _ (by omega)
      have x3 : ((a : Int) + j) % (geoBytes k : Int) < geoBytes k := Int.emod_lt_of_pos _ (by omega)
      have d1 : decide (j < j) = false := by simp
      clear hd4 hp4 hl4 hpi e4 hc4 hj hlt
      go_wp2_with fail
      refine (end_any wr).mono ?_
      rintro _ wa ⟨va, rfl, ⟨ga, hla, hga⟩, kk⟩
      have RS := Lib.hid (Ran.start HCH.out)
      have RA := Lib.hid (RS.out.same kk)
      have HLA := Lib.hid hla
      have HNA := Lib.hid (RS.out.new hga)
      have HLO4 := Lib.hid HCH.out.lo
      clear hla hga kk
      go_wp2_with fail
      refine (steps_any wa p F' s false va ga endL (RA.out.geo HGE.out HLO4.out) RA.out.ch HLA.out HNA.out (by rw [endL_len]; have := HCK.out; omega)).mono ?_
      rintro _ wb ⟨_, rfl, ⟨rfl, ll⟩, kk⟩
      obtain ⟨Fb, rr⟩ := RA.out.next ll kk
      rw [E4.out.1] at rr
      have RB := Lib.hid rr
      have RD := Lib.hid (rr.same (Kept.refl wb []).drew)
      clear ll kk rr
      have y1 : IntKind.i64.wrap ((a : Int) + j) = (a : Int) + j := by rw [IntKind.wrap_i64]; omega
      have y2 : IntKind.i64.wrap (2 + (geoWide k : Int)) = 2 + (geoWide k : Int) := by rw [IntKind.wrap_i64]; omega
      have y3 : ((a : Int) + j).tmod (geoBytes k : Int) = ((a : Int) + j) % (geoBytes k : Int) := Int.tmod_eq_emod_of_nonneg (by omega)
      have y4 : IntKind.i64.wrap (((a : Int) + j) % (geoBytes k : Int)) = ((a : Int) + j) % (geoBytes k : Int) := by rw [IntKind.wrap_i64]; omega
      have hne0 : ¬ geoBytes k = 0 := by omega
      have z1 : ((1 + (geoWide k : Int) + 1) == (2 + (geoWide k : Int))) = true := by rw [beq_iff_eq]; omega
      have HBDR : Hid (bd ∉ F') := HBR
      have HSRA := Lib.hid (HSR.out.kept RD.out.kp (.inr HBR.out))
      go_wp2_with fail
      go_region_held3 (fun _ => True) (trivial) (first
        | (go_at_call 20; (refine (HRW.out _).mono ?_); rintro _ wc ⟨_, rfl, rfl, kk⟩; have RC := Lib.hid (RD.out.same kk); clear kk)
        | (go_at_call 27; (refine (pointer_any _ p Fb s4 RC.out.ch).mono ?_); rintro _ wd ⟨_, rfl, rfl, kk⟩; have RE := Lib.hid (RC.out.same kk); clear kk; rw [HPI.out.1])
        | (go_at_call 22; (refine (bytes_any _ p Fb s4 RE.out.ch).mono ?_); rintro _ we ⟨ve, rfl, hve, kk⟩; have RF := Lib.hid (RE.out.same kk); (rw [HD4.out.1] at hve); obtain ⟨be, hse, _⟩ := hve.sl; have HSE := Lib.hid hse; have hsq := HSR.out.kept RF.out.kp (.inr HBR.out); have HSQ := Lib.hid hsq; clear kk hve hse hsq)
        | (go_at_call 21; (refine (same_any _ _ _ be 0 bd 0 d d HSE.out HSQ.out).mono ?_); rintro _ wf ⟨_, rfl, rfl, kk⟩; have RG := Lib.hid (RF.out.same kk); clear kk; rw [decide_eq_true (rfl : d = d)])
        | (go_at_call 23; (refine (left_any _ p Fb s4 RG.out.ch).mono ?_); rintro _ wh ⟨_, rfl, rfl, kk⟩; have RH := Lib.hid (RG.out.same kk); clear kk; rw [HL4.out.1]))
      all_goals (
        go_wp2_with fail
        go_ret
        refine ⟨rfl, below_of (KWR.out.trans RH.out.kp (fun g hg => .inr ?_))⟩
        rcases HGR.out g hg with h1 | h1
        · exact HFW.out g h1
        · have := KWF.out.size; omega)
set_option maxRecDepth 100000 in
set_option maxHeartbeats 4000000 in
theorem reads_flat_main (w : World) (hg : GeoLaid w) (kd : Int) (vb : Value) (b : List Int) (bb ob : Nat) (k0 : 0 ≤ kd) (k1 : kd ≤ 255) (hb : Sl .u8 w vb bb ob b) (hbb : Bts b) (h : b.length ≤ 40) (ad many : Int) (a0 : 0 ≤ ad) (a1 : ad ≤ 65535) (m0 : 0 ≤ many) (m1 : many ≤ 255) (hbk : ∀ k : Nat, 1 + kd % 7 = (k : Int) → ¬ 0 < geoBlocks k) :
    Calls Tryd.prog 4 #[.int .u8 kd, vb, .int .u16 ad, .int .u8 many] w fun e W => e = .returned (.bool true) ∧ Below w.heap.size w W := by
  have HA := Lib.hid (awake_any w hg)
  have L1 := hb.len
  unfold maxLen at L1
  have lb0 : (0 : Int) ≤ b.length := by omega
  have q0 := Int.emod_nonneg kd (b := 7) (by decide)
  have q1 := Int.emod_lt_of_pos kd (b := 7) (by decide)
  obtain ⟨k, hk0, kk1, kk2⟩ := kind_nat kd k0 7 (by decide)
  have hk : 1 + kd % 7 = (k : Int) := hk0
  have ki0 : (1 : Int) ≤ k := by omega
  have ki1 : (k : Int) ≤ 7 := by omega
  clear hk0
  have hgb := geo_bd kk1 (show k ≤ 10 by omega)
  have HB := Lib.hid hb
  obtain ⟨A1, c1, rfl⟩ := sl_int hb
  have t1 : ¬ (40 : Int) < b.length := by omega
  have t2 : decide (40 < b.length) = false := by rw [decide_eq_false_iff_not]; omega
  have g1 : (128 : Int) ≤ geoBytes k := by omega
  have g2 : (geoBytes k : Int) ≤ 65536 := by omega
  have HRE := Lib.hid (fun w1 => rEeprom_any w1 k kk1 (show k ≤ 10 by omega))
  have hd := fillL_len b (geoBytes k)
  have hdb := fillL_bts hbb (geoBytes k)
  have HFILL := Lib.hid (fun w1 v hs => fill_any w1 v bb ob b hs (geoBytes k) (by omega) (by omega))
  have HNEW := Lib.hid (fun w1 hg1 v bq hs => epNew_any w1 hg1 k kk1 (show k ≤ 10 by omega) v bq 0 (fillL b (geoBytes k)) hs hdb hd)
  have hc0 : (EpS.new k (fillL b (geoBytes k))).clock = 0 := rfl
  generalize hd0 : fillL b (geoBytes k) = d at *
  generalize hs0 : EpS.new k d = s0 at *
  obtain ⟨a, ha, hat⟩ := mod_nat ad (geoBytes k) a0 (by omega)
  obtain ⟨m, hm0, hm1, hm2⟩ := kind_nat many m0 20 (by decide)
  have hm : 1 + many % 20 = (m : Int) := hm0
  have q2 := Int.emod_nonneg many (b := 20) (by decide)
  have q3 := Int.emod_lt_of_pos many (b := 20) (by decide)
  have mi0 : (1 : Int) ≤ m := by omega
  have mi1 : (m : Int) ≤ 20 := by omega
  clear hm0
  have hbl := hbk k hk
  have HRB := Lib.hid (fun w1 => rBlocks_any w1 k kk1 (show k ≤ 10 by omega))
  have HRW := Lib.hid (fun w1 => rWide_any w1 k kk1 (show k ≤ 10 by omega))
  have hy : (161 + 2 * (aimB k a : Int)) = 161 := by unfold aimB; rw [if_neg hbl]; rfl
  have hbd : decide (0 < geoBlocks k) = false := by rw [decide_eq_false_iff_not]; exact hbl
  have hbi : ¬ (0 : Int) < geoBlocks k := by omega
  obtain ⟨s1, e1⟩ : ∃ t, s0.aimed k a = t := ⟨_, rfl⟩
  obtain ⟨s2, e2⟩ : ∃ t, s1.runs false beginL = t := ⟨_, rfl⟩
  obtain ⟨s3, e3⟩ : ∃ t, s2.put1 (161) = t := ⟨_, rfl⟩
  have hlaw := reads_law kk1 (show k ≤ 10 by omega) d hd a m hm1 hat s0 s1 s2 s3 hs0 e1 e2 (by rw [hy]; exact e3)
  rw [hy] at hlaw
  have HLAW := Lib.hid hlaw
  have HAT := Lib.hid hat
  have HDB := Lib.hid hdb
  have ai0 : (0 : Int) ≤ a := by omega
  have ai1 : (a : Int) < geoBytes k := by omega
  have gw0 : (0 : Int) ≤ geoWide k := by omega
  have gw1 : (geoWide k : Int) ≤ 2 := by omega
  have c1 := aimed_clock s0 k a
  rw [e1] at c1
  have c2 := (runs_clock s1 false beginL).1
  rw [e2, show beginL.length = 4 from rfl] at c2
  have c3 := put1_clock s2 (161)
  rw [e3] at c3
  have Cs1 := Lib.hid (show s1.clock ≤ 85 by omega)
  have Cs2 := Lib.hid (show s2.clock ≤ 89 by omega)
  have Cs3 := Lib.hid (show s3.clock ≤ 116 by omega)
  have Es1 := Lib.hid (And.intro e1 trivial)
  have Es2 := Lib.hid (And.intro e2 trivial)
  have Es3 := Lib.hid (And.intro e3 trivial)
  clear e1 e2 c2 e3 c3 hlaw hat hm1 hm2 hy hbk hbl
  have HDN : Hid (d ≠ []) := Lib.hid (by intro e; rw [e] at hd; simp at hd; omega)
  have HD := Lib.hid (And.intro hd trivial)
  have Cs0 := Lib.hid (show s0.clock ≤ 0 by omega)
  have HG := Lib.hid hg
  have KK := Lib.hid (⟨kk1, kk2⟩ : 1 ≤ k ∧ k ≤ 7)
  have HGB := Lib.hid hgb
  clear hs0 hd0 hd hdb hc0 hb hbb hg hgb kk1 kk2
  go_enter Tryd.func4, Tryd.ntmps4
  go_wp2_with fail
  refine HA.out.mono ?_
  rintro _ w1 ⟨_, rfl, rfl, kk⟩
  have K1 := Lib.hid kk
  clear kk HA
  go_wp2_with fail
  refine (HRE.out w1).mono ?_
  rintro _ w2 ⟨_, rfl, rfl, kk⟩
  have K2 := Lib.hid (K1.out.trans kk (by simp))
  clear kk
  go_wp2_with fail
  refine (HFILL.out w2 _ (HB.out.kept K2.out (.inr (by simp)))).mono ?_
  rintro _ w3 ⟨vd, rfl, hvd, kk⟩
  have K3 := Lib.hid (K2.out.trans kk (by simp))
  obtain ⟨bd, hsd, hbd⟩ := hvd.sl
  obtain ⟨cd, rfl⟩ := hsd.at HDN.out
  have HSD := Lib.hid hsd
  have HBD : Hid (w2.heap.size ≤ bd ∧ bd < w3.heap.size) := Lib.hid (by
    rcases hbd with hbd | hbd
    · exact absurd hbd HDN.out
    · exact ⟨hbd.2, hsd.lt HDN.out⟩)
  clear kk hvd hsd hbd
  go_wp2_with fail
  refine (HNEW.out w3 (HG.out.kept K3.out (by simp)) _ bd HSD.out).mono ?_
  rintro _ w4 ⟨_, rfl, ⟨p, F, rfl, hch, hF⟩, kk⟩
  have K4 := Lib.hid (K3.out.trans kk (by simp))
  have HSD4 := Lib.hid (HSD.out.kept kk (.inr (by simp)))
  have HFO := Lib.hid hF
  have HLO := Lib.hid hch.lo
  have R4 := Lib.hid (Ran.start hch)
  have HG4 := Lib.hid (HG.out.kept K4.out (by simp))
  have HBDF : Hid (bd ∉ F) := Lib.hid (fun hm => by have h1 := hF bd hm; have h2 := HBD.out; omega)
  clear kk hch hF HNEW
  go_wp2_with fail
  refine (aim_any w4 p F s0 k a KK.out.1 (by have := KK.out.2; omega) HAT.out (R4.out.geo HG4.out HLO.out) R4.out.ch (by have := Cs0.out; omega)).mono ?_
  rintro _ w5 ⟨_, rfl, ⟨rfl, ll⟩, kk⟩
  obtain ⟨F5, rr⟩ := R4.out.next ll kk
  rw [Es1.out.1] at rr
  rw [HLAW.out.1]
  have R5 := Lib.hid rr
  clear ll kk rr
  go_wp2_with fail
  refine (begin_any w5).mono ?_
  rintro _ w6 ⟨v6, rfl, ⟨g6, hl, hg⟩, kk⟩
  have R6 := Lib.hid (R5.out.same kk)
  have HL6 := Lib.hid hl
  have HN6 := Lib.hid (R5.out.new hg)
  clear hl hg kk
  go_wp2_with fail
  refine (steps_any w6 p F5 s1 false v6 g6 beginL (R6.out.geo HG4.out HLO.out) R6.out.ch HL6.out HN6.out (by have : beginL.length = 4 := rfl; have := Cs1.out; omega)).mono ?_
  rintro _ w7 ⟨_, rfl, ⟨rfl, ll⟩, kk⟩
  obtain ⟨F7, rr⟩ := R6.out.next ll kk
  rw [Es2.out.1] at rr
  have R7 := Lib.hid rr
  clear ll kk rr
  go_wp2_with fail
  refine (HRB.out w7).mono ?_
  rintro _ w8 ⟨_, rfl, rfl, kk⟩
  have R8 := Lib.hid (R7.out.same kk)
  clear kk
  go_wp2_with fail
  refine (lput_any w8 p F7 s2 161 (by omega) (by omega) (R8.out.geo HG4.out HLO.out) R8.out.ch (by have := Cs2.out; omega)).mono ?_
  rintro _ w9 ⟨_, rfl, ⟨rfl, ll⟩, kk⟩
  obtain ⟨F9, rr⟩ := R8.out.next ll kk
  have rr : Ran w4 p F w9 F9 s3 := by rw [← Es3.out.1]; exact rr
  have R9 := Lib.hid rr
  clear ll kk rr
  rw [HLAW.out.2.1]
  have HGF : Hid (GeoLaid w9) := Lib.hid (R9.out.geo HG4.out HLO.out)
  have HLOF := Lib.hid R9.out.ch.lo
  have HBDN : Hid (bd ∉ F9) := Lib.hid (R9.out.gr.nin HBDF.out (by have h1 := HBD.out; have h2 := HSD4.out.lt HDN.out; omega))
  have KWF : Hid (Kept w w9 []) := Lib.hid (K4.out.trans R9.out.kp (fun g hg => .inr (by have := HFO.out g hg; have := K3.out.size; omega)))
  have HFW : Hid (∀ g, g ∈ F9 → w.heap.size ≤ g) := Lib.hid (fun g hm => by
    rcases R9.out.gr g hm with h1 | h1
    · have := HFO.out g h1; have := K3.out.size; omega
    · have := K4.out.size; omega)
  have HSDF := Lib.hid (HSD4.out.kept R9.out.kp (.inr HBDF.out))
  go_wp2_with fail
  go_loopg [19] m (fun g i wr => ∃ (j : Nat) (F' : List Nat) (s : EpS), j + g = m ∧ i = .int .i64 j ∧ Grows w9 F9 F' ∧ ChipAt wr p F' s ∧ s.clock ≤ 116 + 27 * j ∧ ReadsAt s k d a m j ∧ Kept w9 wr F9)
  case atStart => exact ⟨0, F9, s3, by omega, rfl, Grows.refl _ _, R9.out.ch, Cs3.out, HLAW.out.2.2, Kept.refl _ _⟩
  case round =>
    obtain ⟨j, F', s, hj, rfl, hgr, hch, hck, hrd, hkept⟩ := hrel
    have HJ := Lib.hid hj
    have HGR := Lib.hid hgr
    have HCH := Lib.hid hch
    have HCK := Lib.hid hck
    have HRD := Lib.hid hrd
    have HKE := Lib.hid hkept
    have HGE : Hid (GeoLaid wr) := Lib.hid (HGF.out.kept hkept HLOF.out)
    have KWR : Hid (Kept w wr []) := Lib.hid (KWF.out.trans hkept (fun g hg => .inr (HFW.out g hg)))
    have HBR : Hid (bd ∉ F') := Lib.hid (hgr.nin HBDN.out (HSDF.out.lt HDN.out))
    have HSR := Lib.hid (HSDF.out.kept hkept (.inr HBDN.out))
    clear hgr hch hck hrd hkept
    by_cases hlt : j < m
    · have hl : (a + j) % d.length < d.length := Nat.mod_lt _ (by have := HD.out.1; omega)
      have hx : d[(a + j) % d.length]? = some d[(a + j) % d.length] := List.getElem?_eq_getElem hl
      obtain ⟨hgot, hnext⟩ := reads_next HDB.out (by have := HD.out.1; omega) HRD.out hlt
      rw [hx] at hgot
      simp only [Option.getD_some] at hgot
      have hcell := HSR.out.cell hx
      rw [Nat.zero_add] at hcell
      generalize hv : d[(a + j) % d.length] = v at *
      have hvb := HDB.out.get hx
      have hidx : (((a + j) % d.length : Nat) : Int) = ((a : Int) + j) % (geoBytes k : Int) := by rw [HD.out.1, Int.natCast_emod, Int.natCast_add]
      have j0 : (0 : Int) ≤ j := by omega
      have j1 : (j : Int) < m := by omega
      have x0 : (0 : Int) ≤ ((a : Int) + j) % (geoBytes k : Int) := Int.emod_nonneg _ (by omega)
      have x1 : ((a : Int) + j) % (geoBytes k : Int) < d.length := by rw [← hidx]; omega
      have x2 : (((a : Int) + j) % (geoBytes k : Int)).toNat = (a + j) % d.length := by rw [← hidx, Int.toNat_natCast]
      have x3 : ((a : Int) + j) % (geoBytes k : Int) < geoBytes k := Int.emod_lt_of_pos _ (by omega)
      obtain ⟨v0, v1⟩ := hvb
      have d1 : decide (j < m) = true := by simpa using hlt
      have hdc : decide ((j : Int) < m - 1) = decide (j + 1 < m) := by
        by_cases h : j + 1 < m
        · rw [decide_eq_true h, decide_eq_true_iff]; omega
        · rw [decide_eq_false h, decide_eq_false_iff_not]; omega
      have HGOT := Lib.hid (And.intro hgot trivial)
      have HNEXT := Lib.hid hnext
      have dcell : wr.drew.cell? ⟨bd, (a + j) % d.length, none⟩ = some (.int .u8 v) := hcell
      have y1 : IntKind.i64.wrap ((a : Int) + j) = (a : Int) + j := by rw [IntKind.wrap_i64]; omega
      have y2 : IntKind.i64.wrap ((m : Int) - 1) = (m : Int) - 1 := by rw [IntKind.wrap_i64]; omega
      have y3 : ((a : Int) + j).tmod (geoBytes k : Int) = ((a : Int) + j) % (geoBytes k : Int) := Int.tmod_eq_emod_of_nonneg (by omega)
      have y4 : IntKind.i64.wrap (((a : Int) + j) % (geoBytes k : Int)) = ((a : Int) + j) % (geoBytes k : Int) := by rw [IntKind.wrap_i64]; omega
      have y5 : IntKind.i64.wrap v = v := by rw [IntKind.wrap_i64]; omega
      have HDR : Hid (GeoLaid wr.drew ∧ ChipAt wr.drew p F' s) := Lib.hid ⟨HGE.out.drew, HCH.out.kept (S := []) (Kept.refl wr []).drew (by simp)⟩
      have hne0 : ¬ geoBytes k = 0 := by omega
      clear hgot hnext hx hv hl hidx hj hcell
      go_wp2_with fail
      go_region_held3 (fun W => W.cell? ⟨bd, (a + j) % d.length, none⟩ = some (.int .u8 v)) (first | (with_reducible exact dcell) | (with_reducible exact ecell) | go_keep) (first
        | (go_at_call 26; (refine (lget_any _ p F' s _ HDR.out.1 HDR.out.2 (by have := HCK.out; omega)).mono ?_); rintro _ wx ⟨_, rfl, ⟨rfl, lx⟩, kx⟩; have ecell := kx.cell dcell HBR.out))
      all_goals (
        rw [HGOT.out.1]
        have hvv : (v != v) = false := by simp
        obtain ⟨F2, hgr2, hch2⟩ := lx
        have KE2 : Hid (Kept w9 wx F9) := Lib.hid (Kept.grows HKE.out.drew HGR.out kx)
        have GR2 : Hid (Grows w9 F9 F2) := Lib.hid (HGR.out.trans hgr2 HKE.out.size)
        have HCH2 := Lib.hid hch2
        clear hgr2 hch2 kx y1 y2 y3 y4 hdc hne0 ecell dcell
        simp only [y5, bne_self_eq_false, Bool.not_true, decide_true]
        go_wp2_with fail
        go_roundg (gk - 1)
        case measure => have := HJ.out; omega
        case rel =>
          refine ⟨j + 1, F2, _, by have := HJ.out; omega, by go_num, GR2.out, HCH2.out, ?_, HNEXT.out, KE2.out⟩
          rw [(runs_clock _ _ _).1, putL_len]
          have := HCK.out
          omega)
    · have hjm : j = m := by omega
      subst hjm
      obtain ⟨hd4, hp4, hl4⟩ := dumb_end (HRD.out.2 rfl)
      have hc4 := (runs_clock s false endL).1
      rw [endL_len] at hc4
      obtain ⟨s4, e4⟩ : ∃ t, s.runs false endL = t := ⟨_, rfl⟩
      rw [e4] at hd4 hp4 hl4 hc4
      have E4 := Lib.hid (And.intro e4 trivial)
      have hpi : ((s4.pointer : Nat) : Int) = ((a : Int) + j) % (geoBytes k : Int) := by rw [hp4, HD.out.1, Int.natCast_emod, Int.natCast_add]
      have HPI := Lib.hid (And.intro hpi trivial)
      have HD4 := Lib.hid (And.intro hd4 trivial)
      have HL4 := Lib.hid (And.intro hl4 trivial)
      have x0 : (0 : Int) ≤ ((a : Int) + j) % (geoBytes k : Int) := Int.emod_nonneg _ (by omega)
      have x3 : ((a : Int) + j) % (geoBytes k : Int) < geoBytes k := Int.emod_lt_of_pos _ (by omega)
      have d1 : decide (j < j) = false := by simp
      clear hd4 hp4 hl4 hpi e4 hc4 hj hlt
      go_wp2_with fail
      refine (end_any wr).mono ?_
      rintro _ wa ⟨va, rfl, ⟨ga, hla, hga⟩, kk⟩
      have RS := Lib.hid (Ran.start HCH.out)
      have RA := Lib.hid (RS.out.same kk)
      have HLA := Lib.hid hla
      have HNA := Lib.hid (RS.out.new hga)
      have HLO4 := Lib.hid HCH.out.lo
      clear hla hga kk
      go_wp2_with fail
      refine (steps_any wa p F' s false va ga endL (RA.out.geo HGE.out HLO4.out) RA.out.ch HLA.out HNA.out (by rw [endL_len]; have := HCK.out; omega)).mono ?_
      rintro _ wb ⟨_, rfl, ⟨rfl, ll⟩, kk⟩
      obtain ⟨Fb, rr⟩ := RA.out.next ll kk
      rw [E4.out.1] at rr
      have RB := Lib.hid rr
      have RD := Lib.hid (rr.same (Kept.refl wb []).drew)
      clear ll kk rr
      have y1 : IntKind.i64.wrap ((a : Int) + j) = (a : Int) + j := by rw [IntKind.wrap_i64]; omega
      have y2 : IntKind.i64.wrap (2 + (geoWide k : Int)) = 2 + (geoWide k : Int) := by rw [IntKind.wrap_i64]; omega
      have y3 : ((a : Int) + j).tmod (geoBytes k : Int) = ((a : Int) + j) % (geoBytes k : Int) := Int.tmod_eq_emod_of_nonneg (by omega)
      have y4 : IntKind.i64.wrap (((a : Int) + j) % (geoBytes k : Int)) = ((a : Int) + j) % (geoBytes k : Int) := by rw [IntKind.wrap_i64]; omega
      have hne0 : ¬ geoBytes k = 0 := by omega
      have z1 : ((1 + (geoWide k : Int) + 1) == (2 + (geoWide k : Int))) = true := by rw [beq_iff_eq]; omega
      have HBDR : Hid (bd ∉ F') := HBR
      have HSRA := Lib.hid (HSR.out.kept RD.out.kp (.inr HBR.out))
      go_wp2_with fail
      go_region_held3 (fun _ => True) (trivial) (first
        | (go_at_call 20; (refine (HRW.out _).mono ?_); rintro _ wc ⟨_, rfl, rfl, kk⟩; have RC := Lib.hid (RD.out.same kk); clear kk)
        | (go_at_call 27; (refine (pointer_any _ p Fb s4 RC.out.ch).mono ?_); rintro _ wd ⟨_, rfl, rfl, kk⟩; have RE := Lib.hid (RC.out.same kk); clear kk; rw [HPI.out.1])
        | (go_at_call 22; (refine (bytes_any _ p Fb s4 RE.out.ch).mono ?_); rintro _ we ⟨ve, rfl, hve, kk⟩; have RF := Lib.hid (RE.out.same kk); (rw [HD4.out.1] at hve); obtain ⟨be, hse, _⟩ := hve.sl; have HSE := Lib.hid hse; have hsq := HSR.out.kept RF.out.kp (.inr HBR.out); have HSQ := Lib.hid hsq; clear kk hve hse hsq)
        | (go_at_call 21; (refine (same_any _ _ _ be 0 bd 0 d d HSE.out HSQ.out).mono ?_); rintro _ wf ⟨_, rfl, rfl, kk⟩; have RG := Lib.hid (RF.out.same kk); clear kk; rw [decide_eq_true (rfl : d = d)])
        | (go_at_call 23; (refine (left_any _ p Fb s4 RG.out.ch).mono ?_); rintro _ wh ⟨_, rfl, rfl, kk⟩; have RH := Lib.hid (RG.out.same kk); clear kk; rw [HL4.out.1]))
      all_goals (
        go_wp2_with fail
        go_ret
        refine ⟨rfl, below_of (KWR.out.trans RH.out.kp (fun g hg => .inr ?_))⟩
        rcases HGR.out g hg with h1 | h1
        · exact HFW.out g h1
        · have := KWF.out.size; omega)
theorem EepromReads_walk (w : World) (hg : GeoLaid w) (kd ad many : Int) (vb : Value) (b : List Int) (k0 : 0 ≤ kd) (k1 : kd ≤ 255) (a0 : 0 ≤ ad) (a1 : ad ≤ 65535) (m0 : 0 ≤ many) (m1 : many ≤ 255) (hb : SliceAt Byte1 1 w w.heap.size vb b) :
    Calls Tryd.prog 4 #[.int .u8 kd, vb, .int .u16 ad, .int .u8 many] w fun e W => e = .returned (.bool true) ∧ Below w.heap.size w W := by
  obtain ⟨bb, ob, hb, hbb, _⟩ := Sl.of_at hb
  by_cases h : 40 < b.length
  · exact reads_long w hg kd vb b bb ob k0 k1 hb h ad many
  by_cases h2 : 0 < geoBlocks (1 + kd % 7).toNat
  · refine reads_blocks_main w hg kd vb b bb ob k0 k1 hb hbb (by omega) ad many a0 a1 m0 m1 (fun k e => ?_)
    rw [e, Int.toNat_natCast] at h2
    exact h2
  · refine reads_flat_main w hg kd vb b bb ob k0 k1 hb hbb (by omega) ad many a0 a1 m0 m1 (fun k e => ?_)
    rw [e, Int.toNat_natCast] at h2
    exact h2
end Go.Proofs.YtdpiaibjpaalhaaDoor
