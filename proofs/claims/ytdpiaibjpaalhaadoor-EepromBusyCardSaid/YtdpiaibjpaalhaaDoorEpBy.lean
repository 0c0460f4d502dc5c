/- PROVED: the walk of keepsakelaw10.EepromBusy. No conditions beyond those that each theorem states. -/
import Derived.Test.YtdpiaibjpaalhaaDoorEpWr
import Derived.Test.YtdpiaibjpaalhaaDoorEpBz
namespace Go.Proofs.YtdpiaibjpaalhaaDoor
open Go.RowKit Go.Proofs.YtdpiaibjpaalhaaDoorLib Go.WideElems Go.Maps Go.ChangeMaps
set_option linter.unusedSimpArgs false
set_option linter.unusedVariables false

set_option maxRecDepth 100000 in
set_option maxHeartbeats 1500000 in
theorem busy_long (w : World) (hg : GeoLaid w) (kd : Int) (vb : Value) (b : List Int) (bb ob : Nat) (k0 : 0 ≤ kd) (k1 : kd ≤ 255) (hb : Sl .u8 w vb bb ob b) (h : 40 < b.length) (ad x : Int) :
    Calls Tryd.prog 5 #[.int .u8 kd, vb, .int .u16 ad, .int .u8 x] w fun e W => e = .returned (.bool true) ∧ Below w.heap.size w W := by
  have HA := Lib.hid (awake_any w hg)
  have L1 := hb.len
  unfold maxLen at L1
  have lb0 : (0 : Int) ≤ b.length := by omega
  have q0 := Int.emod_nonneg kd (b := 5) (by decide)
  have q1 := Int.emod_lt_of_pos kd (b := 5) (by decide)
  obtain ⟨A1, c1, rfl⟩ := sl_int hb
  have t1 : (40 : Int) < b.length := by omega
  have t2 : decide (40 < b.length) = true := by rw [decide_eq_true_iff]; exact h
  clear hb hg
  go_enter Tryd.func5, Tryd.ntmps5
  go_wp2_with fail
  refine HA.out.mono ?_
  rintro _ w1 ⟨_, rfl, rfl, kk⟩
  have K := Lib.hid kk
  clear kk HA
  go_wp2_with fail
  go_ret
  exact ⟨rfl, below_of K.out⟩
set_option maxRecDepth 100000 in
set_option maxHeartbeats 1500000 in
theorem busy_main (w : World) (hg : GeoLaid w) (kd : Int) (vb : Value) (b : List Int) (bb ob : Nat) (k0 : 0 ≤ kd) (k1 : kd ≤ 255) (hb : Sl .u8 w vb bb ob b) (hbb : Bts b) (h : b.length ≤ 40) (ad x : Int) (a0 : 0 ≤ ad) (a1 : ad ≤ 65535) (x0 : 0 ≤ x) (x1 : x ≤ 255) :
    Calls Tryd.prog 5 #[.int .u8 kd, vb, .int .u16 ad, .int .u8 x] w fun e W => e = .returned (.bool true) ∧ Below w.heap.size w W := by
  have HA := Lib.hid (awake_any w hg)
  have L1 := hb.len
  unfold maxLen at L1
  have lb0 : (0 : Int) ≤ b.length := by omega
  have q0 := Int.emod_nonneg kd (b := 5) (by decide)
  have q1 := Int.emod_lt_of_pos kd (b := 5) (by decide)
  obtain ⟨k, hk0, kk1, kk2⟩ := kind_nat kd k0 5 (by decide)
  have hk : 1 + kd % 5 = (k : Int) := hk0
  have ki0 : (1 : Int) ≤ k := by omega
  have ki1 : (k : Int) ≤ 5 := by omega
  clear hk0
  have hgb := geo_bd kk1 (show k ≤ 10 by omega)
  have HB := Lib.hid hb
  obtain ⟨A1, c1, rfl⟩ := sl_int hb
  have t1 : ¬ (40 : Int) < b.length := by omega
  have t2 : decide (40 < b.length) = false := by rw [decide_eq_false_iff_not]; omega
  have g1 : (128 : Int) ≤ geoBytes k := by omega
  have g2 : (geoBytes k : Int) ≤ 65536 := by omega
  have HRE := Lib.hid (fun w1 => rEeprom_any w1 k kk1 (show k ≤ 10 by omega))
  have hd := fillL_len b (geoBytes k)
  have hdb := fillL_bts hbb (geoBytes k)
  have HFILL := Lib.hid (fun w1 v hs => fill_any w1 v bb ob b hs (geoBytes k) (by omega) (by omega))
  have HNEW := Lib.hid (fun w1 hg1 v bq hs => epNew_any w1 hg1 k kk1 (show k ≤ 10 by omega) v bq 0 (fillL b (geoBytes k)) hs hdb hd)
  have hc0 : (EpS.new k (fillL b (geoBytes k))).clock = 0 := rfl
  generalize hd0 : fillL b (geoBytes k) = d at *
  generalize hs0 : EpS.new k d = s0 at *
  obtain ⟨a, ha, hat⟩ := mod_nat ad (geoBytes k) a0 (by omega)
  obtain ⟨s1, e1⟩ : ∃ t, s0.aimed k a = t := ⟨_, rfl⟩
  obtain ⟨s2, e2⟩ : ∃ t, s1.put1 x = t := ⟨_, rfl⟩
  obtain ⟨s3, e3⟩ : ∃ t, s2.runs true endL = t := ⟨_, rfl⟩
  obtain ⟨s4, e4⟩ : ∃ t, s3.aimed k a = t := ⟨_, rfl⟩
  obtain ⟨s5, e5⟩ : ∃ t, s4.put1 x = t := ⟨_, rfl⟩
  obtain ⟨s6, e6⟩ : ∃ t, s5.runs false beginL = t := ⟨_, rfl⟩
  obtain ⟨s7, e7⟩ : ∃ t, s6.runs false endL = t := ⟨_, rfl⟩
  obtain ⟨s8, e8⟩ : ∃ t, s7.aimed k a = t := ⟨_, rfl⟩
  obtain ⟨s9, e9⟩ : ∃ t, s8.put1 x = t := ⟨_, rfl⟩
  obtain ⟨s10, e10⟩ : ∃ t, s9.runs false endL = t := ⟨_, rfl⟩
  obtain ⟨s11, e11⟩ : ∃ t, s10.runs false beginL = t := ⟨_, rfl⟩
  obtain ⟨s12, e12⟩ : ∃ t, s11.put1 160 = t := ⟨_, rfl⟩
  have hlaw := busy_law kk1 (show k ≤ 10 by omega) d hd a hat x x0 x1 s0 s1 s2 s3 s4 s5 s6 s7 s8 s9 s10 s11 s12 hs0 e1 e2 e3 e4 e5 e6 e7 e8 e9 e10 e11 e12
  have HLAW := Lib.hid hlaw
  have HAT := Lib.hid hat
  have c1 := aimed_clock s0 k a
  rw [e1] at c1
  have Cs1 := Lib.hid (show s1.clock ≤ 85 by omega)
  have Es1 := Lib.hid (And.intro e1 trivial)
  have c2 := put1_clock s1 x
  rw [e2] at c2
  have Cs2 := Lib.hid (show s2.clock ≤ 112 by omega)
  have Es2 := Lib.hid (And.intro e2 trivial)
  have c3 := (runs_clock s2 true endL).1
  rw [e3] at c3
  rw [endL_len] at c3
  have Cs3 := Lib.hid (show s3.clock ≤ 115 by omega)
  have Es3 := Lib.hid (And.intro e3 trivial)
  have c4 := aimed_clock s3 k a
  rw [e4] at c4
  have Cs4 := Lib.hid (show s4.clock ≤ 200 by omega)
  have Es4 := Lib.hid (And.intro e4 trivial)
  have c5 := put1_clock s4 x
  rw [e5] at c5
  have Cs5 := Lib.hid (show s5.clock ≤ 227 by omega)
  have Es5 := Lib.hid (And.intro e5 trivial)
  have c6 := (runs_clock s5 false beginL).1
  rw [e6] at c6
  rw [show beginL.length = 4 from rfl] at c6
  have Cs6 := Lib.hid (show s6.clock ≤ 231 by omega)
  have Es6 := Lib.hid (And.intro e6 trivial)
  have c7 := (runs_clock s6 false endL).1
  rw [e7] at c7
  rw [endL_len] at c7
  have Cs7 := Lib.hid (show s7.clock ≤ 234 by omega)
  have Es7 := Lib.hid (And.intro e7 trivial)
  have c8 := aimed_clock s7 k a
  rw [e8] at c8
  have Cs8 := Lib.hid (show s8.clock ≤ 319 by omega)
  have Es8 := Lib.hid (And.intro e8 trivial)
  have c9 := put1_clock s8 x
  rw [e9] at c9
  have Cs9 := Lib.hid (show s9.clock ≤ 346 by omega)
  have Es9 := Lib.hid (And.intro e9 trivial)
  have c10 := (runs_clock s9 false endL).1
  rw [e10] at c10
  rw [endL_len] at c10
  have Cs10 := Lib.hid (show s10.clock ≤ 349 by omega)
  have Es10 := Lib.hid (And.intro e10 trivial)
  have c11 := (runs_clock s10 false beginL).1
  rw [e11] at c11
  rw [show beginL.length = 4 from rfl] at c11
  have Cs11 := Lib.hid (show s11.clock ≤ 353 by omega)
  have Es11 := Lib.hid (And.intro e11 trivial)
  have c12 := put1_clock s11 160
  rw [e12] at c12
  have Cs12 := Lib.hid (show s12.clock ≤ 380 by omega)
  have Es12 := Lib.hid (And.intro e12 trivial)
  clear e1 c1 e2 c2 e3 c3 e4 c4 e5 c5 e6 c6 e7 c7 e8 c8 e9 c9 e10 c10 e11 c11 e12 c12 hlaw
  have HDN : Hid (d ≠ []) := Lib.hid (by intro e; rw [e] at hd; simp at hd; omega)
  have HD := Lib.hid (And.intro hd trivial)
  have Cs0 := Lib.hid (show s0.clock ≤ 0 by omega)
  have HG := Lib.hid hg
  have KK := Lib.hid (⟨kk1, kk2⟩ : 1 ≤ k ∧ k ≤ 5)
  have HGB := Lib.hid hgb
  clear hs0 hd0 hd hdb hc0 hb hbb hg hgb kk1 kk2
  go_enter Tryd.func5, Tryd.ntmps5
  go_wp2_with fail
  refine HA.out.mono ?_
  rintro _ w1 ⟨_, rfl, rfl, kk⟩
  have K1 := Lib.hid kk
  clear kk HA
  go_wp2_with fail
  refine (HRE.out w1).mono ?_
  rintro _ w2 ⟨_, rfl, rfl, kk⟩
  have K2 := Lib.hid (K1.out.trans kk (by simp))
  clear kk
  go_wp2_with fail
  refine (HFILL.out w2 _ (HB.out.kept K2.out (.inr (by simp)))).mono ?_
  rintro _ w3 ⟨vd, rfl, hvd, kk⟩
  have K3 := Lib.hid (K2.out.trans kk (by simp))
  obtain ⟨bd, hsd, hbd⟩ := hvd.sl
  obtain ⟨cd, rfl⟩ := hsd.at HDN.out
  have HSD := Lib.hid hsd
  have HBD : Hid (w2.heap.size ≤ bd ∧ bd < w3.heap.size) := Lib.hid (by
    rcases hbd with hbd | hbd
    · exact absurd hbd HDN.out
    · exact ⟨hbd.2, hsd.lt HDN.out⟩)
  clear kk hvd hsd hbd
  go_wp2_with fail
  refine (HNEW.out w3 (HG.out.kept K3.out (by simp)) _ bd HSD.out).mono ?_
  rintro _ w4 ⟨_, rfl, ⟨p, F, rfl, hch, hF⟩, kk⟩
  have K4 := Lib.hid (K3.out.trans kk (by simp))
  have HSD4 := Lib.hid (HSD.out.kept kk (.inr (by simp)))
  have HFO := Lib.hid hF
  have HLO := Lib.hid hch.lo
  have R4 := Lib.hid (Ran.start hch)
  have HG4 := Lib.hid (HG.out.kept K4.out (by simp))
  have HBDF : Hid (bd ∉ F) := Lib.hid (fun hm => by have h1 := hF bd hm; have h2 := HBD.out; omega)
  clear kk hch hF HNEW
  go_wp2_with fail
  refine (aim_any w4 p F s0 k a KK.out.1 (by have := KK.out.2; omega) HAT.out (R4.out.geo HG4.out HLO.out) R4.out.ch (by have := Cs0.out; omega)).mono ?_
  rintro _ w5 ⟨_, rfl, ⟨rfl, ll⟩, kk⟩
  obtain ⟨F5, rr⟩ := R4.out.next ll kk
  rw [Es1.out.1] at rr
  have R5 := Lib.hid rr
  clear ll kk rr
  go_wp2_with fail
  refine (lput_any w5 p F5 s1 x x0 x1 (R5.out.geo HG4.out HLO.out) R5.out.ch (by have := Cs1.out; omega)).mono ?_
  rintro _ w6 ⟨_, rfl, ⟨rfl, ll⟩, kk⟩
  obtain ⟨F6, rr⟩ := R5.out.next ll kk
  have rr : Ran w4 p F w6 F6 s2 := by rw [← Es2.out.1]; exact rr
  have R6 := Lib.hid rr
  clear ll kk rr
  go_wp2_with fail
  refine (end_any w6).mono ?_
  rintro _ w7 ⟨v7, rfl, ⟨g7, hl, hg⟩, kk⟩
  have R7 := Lib.hid (R6.out.same kk)
  have HL7 := Lib.hid hl
  have HN7 := Lib.hid (R6.out.new hg)
  clear hl hg kk
  go_wp2_with fail
  refine (steps_any w7 p F6 s2 true v7 g7 endL (R7.out.geo HG4.out HLO.out) R7.out.ch HL7.out HN7.out (by have : endL.length = 3 := rfl; have := Cs2.out; omega)).mono ?_
  rintro _ w8 ⟨_, rfl, ⟨rfl, ll⟩, kk⟩
  obtain ⟨F8, rr⟩ := R7.out.next ll kk
  rw [Es3.out.1] at rr
  have R8 := Lib.hid rr
  clear ll kk rr
  go_wp2_with fail
  refine (left_any w8 p F8 s3 R8.out.ch).mono ?_
  rintro _ w9 ⟨_, rfl, rfl, kk⟩
  have R9 := Lib.hid (R8.out.same kk)
  have hlv : ((s3.left : Nat) : Int) = 0 := by rw [HLAW.out.1]; rfl
  rw [hlv]
  clear kk hlv
  go_wp2_with fail
  refine (aim_any w9 p F8 s3 k a KK.out.1 (by have := KK.out.2; omega) HAT.out (R9.out.geo HG4.out HLO.out) R9.out.ch (by have := Cs3.out; omega)).mono ?_
  rintro _ w10 ⟨_, rfl, ⟨rfl, ll⟩, kk⟩
  obtain ⟨F10, rr⟩ := R9.out.next ll kk
  rw [Es4.out.1] at rr
  have R10 := Lib.hid rr
  clear ll kk rr
  go_wp2_with fail
  refine (lput_any w10 p F10 s4 x x0 x1 (R10.out.geo HG4.out HLO.out) R10.out.ch (by have := Cs4.out; omega)).mono ?_
  rintro _ w11 ⟨_, rfl, ⟨rfl, ll⟩, kk⟩
  obtain ⟨F11, rr⟩ := R10.out.next ll kk
  have rr : Ran w4 p F w11 F11 s5 := by rw [← Es5.out.1]; exact rr
  have R11 := Lib.hid rr
  clear ll kk rr
  go_wp2_with fail
  refine (begin_any w11).mono ?_
  rintro _ w12 ⟨v12, rfl, ⟨g12, hl, hg⟩, kk⟩
  have R12 := Lib.hid (R11.out.same kk)
  have HL12 := Lib.hid hl
  have HN12 := Lib.hid (R11.out.new hg)
  clear hl hg kk
  go_wp2_with fail
  refine (steps_any w12 p F11 s5 false v12 g12 beginL (R12.out.geo HG4.out HLO.out) R12.out.ch HL12.out HN12.out (by have : beginL.length = 4 := rfl; have := Cs5.out; omega)).mono ?_
  rintro _ w13 ⟨_, rfl, ⟨rfl, ll⟩, kk⟩
  obtain ⟨F13, rr⟩ := R12.out.next ll kk
  rw [Es6.out.1] at rr
  have R13 := Lib.hid rr
  clear ll kk rr
  go_wp2_with fail
  refine (end_any w13).mono ?_
  rintro _ w14 ⟨v14, rfl, ⟨g14, hl, hg⟩, kk⟩
  have R14 := Lib.hid (R13.out.same kk)
  have HL14 := Lib.hid hl
  have HN14 := Lib.hid (R13.out.new hg)
  clear hl hg kk
  go_wp2_with fail
  refine (steps_any w14 p F13 s6 false v14 g14 endL (R14.out.geo HG4.out HLO.out) R14.out.ch HL14.out HN14.out (by have : endL.length = 3 := rfl; have := Cs6.out; omega)).mono ?_
  rintro _ w15 ⟨_, rfl, ⟨rfl, ll⟩, kk⟩
  obtain ⟨F15, rr⟩ := R14.out.next ll kk
  rw [Es7.out.1] at rr
  have R15 := Lib.hid rr
  clear ll kk rr
  go_wp2_with fail
  refine (left_any w15 p F15 s7 R15.out.ch).mono ?_
  rintro _ w16 ⟨_, rfl, rfl, kk⟩
  have R16 := Lib.hid (R15.out.same kk)
  have hlv : ((s7.left : Nat) : Int) = 0 := by rw [HLAW.out.2.1]; rfl
  rw [hlv]
  clear kk hlv
  go_wp2_with fail
  refine (aim_any w16 p F15 s7 k a KK.out.1 (by have := KK.out.2; omega) HAT.out (R16.out.geo HG4.out HLO.out) R16.out.ch (by have := Cs7.out; omega)).mono ?_
  rintro _ w17 ⟨_, rfl, ⟨rfl, ll⟩, kk⟩
  obtain ⟨F17, rr⟩ := R16.out.next ll kk
  rw [Es8.out.1] at rr
  have R17 := Lib.hid rr
  clear ll kk rr
  go_wp2_with fail
  refine (lput_any w17 p F17 s8 x x0 x1 (R17.out.geo HG4.out HLO.out) R17.out.ch (by have := Cs8.out; omega)).mono ?_
  rintro _ w18 ⟨_, rfl, ⟨rfl, ll⟩, kk⟩
  obtain ⟨F18, rr⟩ := R17.out.next ll kk
  have rr : Ran w4 p F w18 F18 s9 := by rw [← Es9.out.1]; exact rr
  have R18 := Lib.hid rr
  clear ll kk rr
  go_wp2_with fail
  refine (end_any w18).mono ?_
  rintro _ w19 ⟨v19, rfl, ⟨g19, hl, hg⟩, kk⟩
  have R19 := Lib.hid (R18.out.same kk)
  have HL19 := Lib.hid hl
  have HN19 := Lib.hid (R18.out.new hg)
  clear hl hg kk
  go_wp2_with fail
  refine (steps_any w19 p F18 s9 false v19 g19 endL (R19.out.geo HG4.out HLO.out) R19.out.ch HL19.out HN19.out (by have : endL.length = 3 := rfl; have := Cs9.out; omega)).mono ?_
  rintro _ w20 ⟨_, rfl, ⟨rfl, ll⟩, kk⟩
  obtain ⟨F20, rr⟩ := R19.out.next ll kk
  rw [Es10.out.1] at rr
  have R20 := Lib.hid rr
  clear ll kk rr
  go_wp2_with fail
  refine (left_any w20 p F20 s10 R20.out.ch).mono ?_
  rintro _ w21 ⟨_, rfl, rfl, kk⟩
  have R21 := Lib.hid (R20.out.same kk)
  have hlv : ((s10.left : Nat) : Int) = 50 := by rw [HLAW.out.2.2.1]; rfl
  rw [hlv]
  clear kk hlv
  go_wp2_with fail
  refine (begin_any w21).mono ?_
  rintro _ w22 ⟨v22, rfl, ⟨g22, hl, hg⟩, kk⟩
  have R22 := Lib.hid (R21.out.same kk)
  have HL22 := Lib.hid hl
  have HN22 := Lib.hid (R21.out.new hg)
  clear hl hg kk
  go_wp2_with fail
  refine (steps_any w22 p F20 s10 false v22 g22 beginL (R22.out.geo HG4.out HLO.out) R22.out.ch HL22.out HN22.out (by have : beginL.length = 4 := rfl; have := Cs10.out; omega)).mono ?_
  rintro _ w23 ⟨_, rfl, ⟨rfl, ll⟩, kk⟩
  obtain ⟨F23, rr⟩ := R22.out.next ll kk
  rw [Es11.out.1] at rr
  have R23 := Lib.hid rr
  clear ll kk rr
  go_wp2_with fail
  refine (lput_any w23 p F23 s11 160 (by decide) (by decide) (R23.out.geo HG4.out HLO.out) R23.out.ch (by have := Cs11.out; omega)).mono ?_
  rintro _ w24 ⟨_, rfl, ⟨rfl, ll⟩, kk⟩
  obtain ⟨F24, rr⟩ := R23.out.next ll kk
  have rr : Ran w4 p F w24 F24 s12 := by rw [← Es12.out.1]; exact rr
  have R24 := Lib.hid rr
  clear ll kk rr
  rw [HLAW.out.2.2.2.1]
  go_wp2_with fail
  refine (bytes_any w24 p F24 s12 R24.out.ch).mono ?_
  rintro _ w25 ⟨v25, rfl, hv, kk⟩
  have R25 := Lib.hid (R24.out.same kk)
  rw [HLAW.out.2.2.2.2] at hv
  obtain ⟨b25, hs, _⟩ := hv.sl
  have HS25 := Lib.hid hs
  have HDS25 := Lib.hid (HSD4.out.kept R25.out.kp (.inr HBDF.out))
  clear hv hs kk
  go_wp2_with fail
  refine (same_any w25 _ _ b25 0 bd 0 d d HS25.out HDS25.out).mono ?_
  rintro _ w26 ⟨_, rfl, rfl, kk⟩
  rw [decide_eq_true (rfl : d = d)]
  have R26 := Lib.hid (R25.out.same kk)
  clear kk
  go_wp2_with fail
  go_ret
  exact ⟨rfl, below_of (K4.out.trans R26.out.kp (fun g hg => .inr (by have := HFO.out g hg; have := K3.out.size; omega)))⟩
theorem EepromBusy_walk (w : World) (hg : GeoLaid w) (kd ad x : Int) (vb : Value) (b : List Int) (k0 : 0 ≤ kd) (k1 : kd ≤ 255) (a0 : 0 ≤ ad) (a1 : ad ≤ 65535) (x0 : 0 ≤ x) (x1 : x ≤ 255) (hb : SliceAt Byte1 1 w w.heap.size vb b) :
    Calls Tryd.prog 5 #[.int .u8 kd, vb, .int .u16 ad, .int .u8 x] w fun e W => e = .returned (.bool true) ∧ Below w.heap.size w W := by
  obtain ⟨bb, ob, hb, hbb, _⟩ := Sl.of_at hb
  by_cases h : 40 < b.length
  · exact busy_long w hg kd vb b bb ob k0 k1 hb h ad x
  · exact busy_main w hg kd vb b bb ob k0 k1 hb hbb (by omega) ad x a0 a1 x0 x1
end Go.Proofs.YtdpiaibjpaalhaaDoor
