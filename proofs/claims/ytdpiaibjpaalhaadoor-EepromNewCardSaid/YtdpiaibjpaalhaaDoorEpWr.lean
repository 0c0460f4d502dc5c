/- PROVED: the walk of keepsakelaw10.EepromWrites. No conditions beyond those that each theorem states. -/
import Derived.Test.YtdpiaibjpaalhaaDoorEpAw
import Derived.Test.YtdpiaibjpaalhaaDoorSame
namespace Go.Proofs.YtdpiaibjpaalhaaDoor
open Go.RowKit Go.Proofs.YtdpiaibjpaalhaaDoorLib Go.WideElems Go.Maps Go.ChangeMaps
set_option linter.unusedSimpArgs false
set_option linter.unusedVariables false

theorem kind_nat (kd : Int) (h0 : 0 ≤ kd) (m : Nat) (hm : 0 < m) : ∃ k : Nat, 1 + kd % (m : Int) = k ∧ 1 ≤ k ∧ k ≤ m := by
  have h1 := Int.emod_nonneg kd (b := (m : Int)) (by omega)
  have h2 := Int.emod_lt_of_pos kd (b := (m : Int)) (by omega)
  exact ⟨(1 + kd % (m : Int)).toNat, by omega, by omega, by omega⟩
theorem mod_nat (a : Int) (n : Nat) (h0 : 0 ≤ a) (hn : 0 < n) : ∃ r : Nat, a % (n : Int) = r ∧ r < n := by
  have h1 := Int.emod_nonneg a (b := (n : Int)) (by omega)
  have h2 := Int.emod_lt_of_pos a (b := (n : Int)) (by omega)
  exact ⟨(a % (n : Int)).toNat, by omega, by omega⟩
theorem sl_int {w : World} {v : Value} {b off : Nat} {l : List Int} (h : Sl .u8 w v b off l) : ∃ A c, v = .slice A l.length c := let ⟨A, c, e, _⟩ := h; ⟨A, c, e⟩
theorem idles_one (s : EpS) (n : Nat) : (s.idles n).idles 1 = s.idles (n + 1) := rfl
theorem below_of {w W : World} (h : Kept w W []) : Below w.heap.size w W := h.below _ (Nat.le_refl _) (by simp)
set_option maxRecDepth 100000 in
set_option maxHeartbeats 1500000 in
theorem writes_long (w : World) (hg : GeoLaid w) (kd ad : Int) (vb vl : Value) (b l : List Int) (bb ob bl ol : Nat) (k0 : 0 ≤ kd) (k1 : kd ≤ 255) (a0 : 0 ≤ ad) (a1 : ad ≤ 65535) (hb : Sl .u8 w vb bb ob b) (hl : Sl .u8 w vl bl ol l) (h : 40 < b.length) :
    Calls Tryd.prog 3 #[.int .u8 kd, vb, .int .u16 ad, vl] w fun e W => e = .returned (.bool true) ∧ Below w.heap.size w W := by
  have HA := Lib.hid (awake_any w hg)
  have L1 := hb.len
  have L2 := hl.len
  unfold maxLen at L1 L2
  have lb0 : (0 : Int) ≤ b.length := by omega
  have ll0 : (0 : Int) ≤ l.length := by omega
  have q0 := Int.emod_nonneg kd (b := 7) (by decide)
  have q1 := Int.emod_lt_of_pos kd (b := 7) (by decide)
  obtain ⟨A1, c1, rfl⟩ := sl_int hb
  obtain ⟨A2, c2, rfl⟩ := sl_int hl
  have t1 : (40 : Int) < b.length := by omega
  have t2 : decide (40 < b.length) = true := by rw [decide_eq_true_iff]; exact h
  clear hb hl hg
  go_enter Tryd.func3, Tryd.ntmps3
  go_wp2_with fail
  refine HA.out.mono ?_
  rintro _ w1 ⟨_, rfl, rfl, kk⟩
  have K := Lib.hid kk
  clear kk HA
  go_wp2_with fail
  go_ret
  exact ⟨rfl, below_of K.out⟩
set_option maxRecDepth 100000 in
set_option maxHeartbeats 1500000 in
theorem writes_none (w : World) (hg : GeoLaid w) (kd ad : Int) (vb vl : Value) (b l : List Int) (bb ob bl ol : Nat) (k0 : 0 ≤ kd) (k1 : kd ≤ 255) (a0 : 0 ≤ ad) (a1 : ad ≤ 65535) (hb : Sl .u8 w vb bb ob b) (hl : Sl .u8 w vl bl ol l) (h : b.length ≤ 40) (h2 : l.length = 0) :
    Calls Tryd.prog 3 #[.int .u8 kd, vb, .int .u16 ad, vl] w fun e W => e = .returned (.bool true) ∧ Below w.heap.size w W := by
  have HA := Lib.hid (awake_any w hg)
  have L1 := hb.len
  have L2 := hl.len
  unfold maxLen at L1 L2
  have lb0 : (0 : Int) ≤ b.length := by omega
  have ll0 : (0 : Int) ≤ l.length := by omega
  have q0 := Int.emod_nonneg kd (b := 7) (by decide)
  have q1 := Int.emod_lt_of_pos kd (b := 7) (by decide)
  obtain ⟨A1, c1, rfl⟩ := sl_int hb
  obtain ⟨A2, c2, rfl⟩ := sl_int hl
  have t1 : ¬ (40 : Int) < b.length := by omega
  have t2 : decide (40 < b.length) = false := by rw [decide_eq_false_iff_not]; omega
  rw [h2]
  clear hb hl hg
  go_enter Tryd.func3, Tryd.ntmps3
  go_wp2_with fail
  refine HA.out.mono ?_
  rintro _ w1 ⟨_, rfl, rfl, kk⟩
  have K := Lib.hid kk
  clear kk HA
  go_wp2_with fail
  go_ret
  exact ⟨rfl, below_of K.out⟩
set_option maxRecDepth 100000 in
set_option maxHeartbeats 1500000 in
theorem writes_many (w : World) (hg : GeoLaid w) (kd ad : Int) (vb vl : Value) (b l : List Int) (bb ob bl ol : Nat) (k0 : 0 ≤ kd) (k1 : kd ≤ 255) (a0 : 0 ≤ ad) (a1 : ad ≤ 65535) (hb : Sl .u8 w vb bb ob b) (hl : Sl .u8 w vl bl ol l) (h : b.length ≤ 40) (h2 : l.length ≠ 0) (h3 : 20 < l.length) :
    Calls Tryd.prog 3 #[.int .u8 kd, vb, .int .u16 ad, vl] w fun e W => e = .returned (.bool true) ∧ Below w.heap.size w W := by
  have HA := Lib.hid (awake_any w hg)
  have L1 := hb.len
  have L2 := hl.len
  unfold maxLen at L1 L2
  have lb0 : (0 : Int) ≤ b.length := by omega
  have ll0 : (0 : Int) ≤ l.length := by omega
  have q0 := Int.emod_nonneg kd (b := 7) (by decide)
  have q1 := Int.emod_lt_of_pos kd (b := 7) (by decide)
  obtain ⟨A1, c1, rfl⟩ := sl_int hb
  obtain ⟨A2, c2, rfl⟩ := sl_int hl
  have t1 : ¬ (40 : Int) < b.length := by omega
  have t2 : decide (40 < b.length) = false := by rw [decide_eq_false_iff_not]; omega
  have t3 : ((l.length : Int) == 0) = false := by rw [beq_eq_false_iff_ne]; omega
  have t4 : (20 : Int) < l.length := by omega
  have t5 : decide (20 < l.length) = true := by rw [decide_eq_true_iff]; exact h3
  have t6 : (l.length == 0) = false := by rw [beq_eq_false_iff_ne]; exact h2
  clear hb hl hg
  go_enter Tryd.func3, Tryd.ntmps3
  go_wp2_with fail
  refine HA.out.mono ?_
  rintro _ w1 ⟨_, rfl, rfl, kk⟩
  have K := Lib.hid kk
  clear kk HA
  go_wp2_with fail
  go_ret
  exact ⟨rfl, below_of K.out⟩
set_option maxRecDepth 100000 in
set_option maxHeartbeats 1500000 in
theorem writes_main (w : World) (hg : GeoLaid w) (kd ad : Int) (vb vl : Value) (b l : List Int) (bb ob bl ol : Nat) (k0 : 0 ≤ kd) (k1 : kd ≤ 255) (a0 : 0 ≤ ad) (a1 : ad ≤ 65535) (hb : Sl .u8 w vb bb ob b) (hl : Sl .u8 w vl bl ol l) (hbb : Bts b) (hll : Bts l) (h : b.length ≤ 40) (h2 : l ≠ []) (h3 : l.length ≤ 20) :
    Calls Tryd.prog 3 #[.int .u8 kd, vb, .int .u16 ad, vl] w fun e W => e = .returned (.bool true) ∧ Below w.heap.size w W := by
  have HA := Lib.hid (awake_any w hg)
  have L1 := hb.len
  have L2 := hl.len
  unfold maxLen at L1 L2
  have lb0 : (0 : Int) ≤ b.length := by omega
  have ll0 : (0 : Int) ≤ l.length := by omega
  have q0 := Int.emod_nonneg kd (b := 7) (by decide)
  have q1 := Int.emod_lt_of_pos kd (b := 7) (by decide)
  obtain ⟨k, hk0, kk1, kk2⟩ := kind_nat kd k0 7 (by decide)
  have hk : 1 + kd % 7 = (k : Int) := hk0
  have ki0 : (1 : Int) ≤ k := by omega
  have ki1 : (k : Int) ≤ 7 := by omega
  clear hk0
  have hgb := geo_bd kk1 (show k ≤ 10 by omega)
  obtain ⟨a, ha, hat⟩ := mod_nat ad (geoBytes k) a0 (by omega)
  have HB := Lib.hid hb
  have HL := Lib.hid hl
  obtain ⟨A1, c1, rfl⟩ := sl_int hb
  obtain ⟨c2, rfl⟩ := hl.at h2
  have hl0 : 0 < l.length := List.length_pos_iff.2 h2
  have t1 : ¬ (40 : Int) < b.length := by omega
  have t2 : decide (40 < b.length) = false := by rw [decide_eq_false_iff_not]; omega
  have t3 : ((l.length : Int) == 0) = false := by rw [beq_eq_false_iff_ne]; omega
  have t4 : ¬ (20 : Int) < l.length := by omega
  have t5 : decide (20 < l.length) = false := by rw [decide_eq_false_iff_not]; omega
  have t6 : (l.length == 0) = false := by rw [beq_eq_false_iff_ne]; omega
  have g1 : (128 : Int) ≤ geoBytes k := by omega
  have g2 : (geoBytes k : Int) ≤ 65536 := by omega
  have HRE := Lib.hid (fun w1 => rEeprom_any w1 k kk1 (show k ≤ 10 by omega))
  have HRP := Lib.hid (fun w1 => rPage_any w1 k kk1 (show k ≤ 10 by omega))
  have HRW := Lib.hid (fun w1 => rWide_any w1 k kk1 (show k ≤ 10 by omega))
  have hd := fillL_len b (geoBytes k)
  have hdb := fillL_bts hbb (geoBytes k)
  have HFILL := Lib.hid (fun w1 v hs => fill_any w1 v bb ob b hs (geoBytes k) (by omega) (by omega))
  have hlaw := writes_law kk1 (show k ≤ 10 by omega) (fillL b (geoBytes k)) hd a hat l hll h2
  have HNEW := Lib.hid (fun w1 hg1 v bq hs => epNew_any w1 hg1 k kk1 (show k ≤ 10 by omega) v bq 0 (fillL b (geoBytes k)) hs hdb hd)
  have hok := EpS.Ok.new kk1 (show k ≤ 10 by omega) hd hdb
  have hc0 : (EpS.new k (fillL b (geoBytes k))).clock = 0 := rfl
  have hc1 := aimed_clock (EpS.new k (fillL b (geoBytes k))) k a
  generalize hs0 : EpS.new k (fillL b (geoBytes k)) = s0 at *
  generalize hd0 : fillL b (geoBytes k) = d at *
  generalize hn0 : geoBytes k = n at *
  have hacks : ∃ m : Nat, s0.aimAcks k a = m ∧ m ≤ 3 := by
    have h1 := hlaw.1
    have h4 : ∀ (l : List Int) (s : EpS), 0 ≤ s.acks l ∧ s.acks l ≤ l.length := by
      intro l
      induction l with
      | nil => intro s; rw [acks_nil]; exact ⟨Int.le_refl _, Int.le_refl _⟩
      | cons y l ih =>
        intro s
        rw [acks_cons, List.length_cons]
        have := ih (s.put1 y)
        have := ack_01 s y
        omega
    have h5 := h4 (aimL k a) (s0.runs false beginL)
    have h6 : (aimL k a).length ≤ 3 := by unfold aimL; split <;> simp
    unfold EpS.aimAcks
    exact ⟨((s0.runs false beginL).acks (aimL k a)).toNat, by omega, by omega⟩
  obtain ⟨m, hm, hm3⟩ := hacks
  have hackb : ∀ (i : Nat), i ≤ l.length → 0 ≤ (s0.aimed k a).acks (l.take i) ∧ (s0.aimed k a).acks (l.take i) ≤ 20 := by
    have h4 : ∀ (l : List Int) (s : EpS), 0 ≤ s.acks l ∧ s.acks l ≤ l.length := by
      intro l
      induction l with
      | nil => intro s; rw [acks_nil]; exact ⟨Int.le_refl _, Int.le_refl _⟩
      | cons y l ih =>
        intro s
        rw [acks_cons, List.length_cons]
        have := ih (s.put1 y)
        have := ack_01 s y
        omega
    intro i hi
    have := h4 (l.take i) (s0.aimed k a)
    rw [List.length_take] at this
    omega
  have HACKB := Lib.hid hackb
  generalize hs1 : s0.aimed k a = s1 at *
  have HLAW := Lib.hid hlaw
  have HM := Lib.hid (And.intro hm trivial)
  have HS1 := Lib.hid hs1
  have HD := Lib.hid hd
  have HDB := Lib.hid hdb
  have HC0 := Lib.hid (show s0.clock ≤ 0 by omega)
  have HC1 := Lib.hid (show s1.clock ≤ 85 by omega)
  have HBB := Lib.hid hbb
  have HLL := Lib.hid hll
  have HG := Lib.hid hg
  have HNE := Lib.hid h2
  have HAT := Lib.hid hat
  have HGB := Lib.hid hgb
  have KK := Lib.hid (⟨kk1, kk2⟩ : 1 ≤ k ∧ k ≤ 7)
  have m0 : (0 : Int) ≤ m := by omega
  have m3 : (m : Int) ≤ 3 := by omega
  have HN0 := Lib.hid hn0
  clear hs0 hd0 hn0 hs1 hlaw hm hd hdb hc0 hc1 hackb hok hb hl hbb hll hg h2 hat hgb kk1 kk2
  go_enter Tryd.func3, Tryd.ntmps3
  go_wp2_with fail
  refine HA.out.mono ?_
  rintro _ w1 ⟨_, rfl, rfl, kk⟩
  have K1 := Lib.hid kk
  clear kk HA
  go_wp2_with fail
  refine (HRE.out w1).mono ?_
  rintro _ w2 ⟨_, rfl, rfl, kk⟩
  have K2 := Lib.hid (K1.out.trans kk (by simp))
  clear kk
  go_wp2_with fail
  refine (HFILL.out w2 _ (HB.out.kept K2.out (.inr (by simp)))).mono ?_
  rintro _ w3 ⟨vd, rfl, hvd, kk⟩
  have K3 := Lib.hid (K2.out.trans kk (by simp))
  obtain ⟨bd, hsd, hbd⟩ := hvd.sl
  have hne : d ≠ [] := by
    intro e
    have := HD.out
    rw [e] at this
    simp at this
    omega
  obtain ⟨cd, rfl⟩ := hsd.at hne
  have HSD := Lib.hid hsd
  have HBD : Hid (w2.heap.size ≤ bd ∧ bd < w3.heap.size) := Lib.hid (by
    rcases hbd with hbd | hbd
    · exact absurd hbd hne
    · exact ⟨hbd.2, hsd.lt hne⟩)
  have HDN := Lib.hid hne
  clear kk hvd hsd hbd hne
  go_wp2_with fail
  refine (HNEW.out w3 (HG.out.kept K3.out (by simp)) _ bd HSD.out).mono ?_
  rintro _ w4 ⟨_, rfl, ⟨p, F, rfl, hch, hF⟩, kk⟩
  have K4 := Lib.hid (K3.out.trans kk (by simp))
  have K34 := Lib.hid kk.size
  have HSD4 := Lib.hid (HSD.out.kept kk (.inr (by simp)))
  have HFO := Lib.hid hF
  have HLO := Lib.hid hch.lo
  have R4 := Lib.hid (Ran.start hch)
  have HG4 := Lib.hid (HG.out.kept K4.out (by simp))
  have HBDF : Hid (bd ∉ F) := Lib.hid (fun hm => by have h1 := hF bd hm; have h2 := HBD.out; omega)
  clear kk hch hF HNEW
  go_wp2_with fail
  refine (aim_any w4 p F s0 k a KK.out.1 (by have := KK.out.2; omega) (by rw [HN0.out]; exact HAT.out) HG4.out R4.out.ch (by have := HC0.out; omega)).mono ?_
  rintro _ w5 ⟨_, rfl, ⟨rfl, l5⟩, k5⟩
  obtain ⟨F5, r5⟩ := R4.out.next l5 k5
  rw [HS1.out] at r5
  rw [HM.out.1]
  have R5 := Lib.hid r5
  clear l5 k5 r5
  obtain ⟨i0, hi, hz0, hz1, hz2⟩ := info_parts info8
  have HI := Lib.hid hi
  have HZ0 := Lib.hid hz0
  have HZ1 := Lib.hid hz1
  have HZ2 := Lib.hid hz2
  have hsd5 := HSD4.out.kept R5.out.kp (.inr HBDF.out)
  have HSD5 := Lib.hid hsd5
  have hsz5 : w4.heap.size ≤ w5.heap.size := R5.out.kp.size
  have hn6 : d.length ≤ 65536 := by have := HD.out; have := HGB.out; omega
  clear hi hz0 hz1 hz2 hsd5
  go_wp2_with (at_builtin; refine wpList_append_own _ rfl (.tmp 64) (.tmp 65) 22 rfl w5.heap.size 5 i0 (.int .u8 0) 1 1 Tryd.underlying22 HI.out HZ0.out HZ1.out HZ2.out rfl (by decide) _ _ _ rfl (World.ownsRow_made w5 #[] 0 (Nat.le_refl _) (Nat.zero_le _) rfl) ⟨bd, 0, none⟩ d.length cd (d.map (Value.int .u8)) rfl ?qc1 ?qc2 ?qc3 ?qc4 ?qc5 ?qc6 ?_)
  case qc1 => simp
  case qc2 =>
    intro j u hj
    rw [List.getElem?_map] at hj
    cases hx : d[j]? with
    | none => rw [hx] at hj; simp at hj
    | some x =>
      rw [hx] at hj
      simp only [Option.map_some, Option.some.injEq] at hj
      subst hj
      rw [Addr.add_lit]
      exact Lib.cell?_alloc_some _ (HSD5.out.cell hx)
  case qc3 => intro u hu; obtain ⟨x, _, rfl⟩ := List.mem_map.1 hu; rfl
  case qc4 => unfold maxLen; omega
  case qc5 => omega
  case qc6 => simp
  intro vw w6 hown hgrow hnil
  have how : Own 5 .u8 w6 w5.heap.size vw d := by simpa [Own] using hown
  have K56 : Hid (Kept w5 w6 []) := Lib.hid (((Kept.refl w5 []).alloc _).trans (Kept.grown hgrow [w5.heap.size] (by intro g hg; simp [Value.ownBlock] at hg; simp [hg])) (by simp))
  obtain ⟨gw, hsw, hgw⟩ := how.sl
  obtain ⟨cw, rfl⟩ := hsw.at HDN.out
  have HGW : Hid (w5.heap.size ≤ gw ∧ gw < w6.heap.size) := Lib.hid (by
    rcases hgw with hgw | hgw
    · exact absurd hgw HDN.out
    · exact ⟨hgw.2, hsw.lt HDN.out⟩)
  have HOW := Lib.hid how
  have R6 := Lib.hid (R5.out.same K56.out)
  have HGWF : Hid (gw ∉ F5) := Lib.hid (fun hm => by have h1 := R5.out.ch.lt gw hm; have h2 := HGW.out; omega)
  clear hown hgrow hnil how hsw hgw
  go_wp2_with fail
  refine (HRP.out w6).mono ?_
  rintro _ w7 ⟨_, rfl, rfl, kk⟩
  have R7 := Lib.hid (R6.out.same kk)
  have HOW7 := Lib.hid (HOW.out.kept kk (by simp [Apart]))
  have HLO7 := Lib.hid R7.out.ch.lo
  have S67 := Lib.hid kk.size
  have HG7 := Lib.hid (R7.out.geo HG4.out HLO.out)
  have RS := Lib.hid (Ran.start R7.out.ch)
  have hpg := HGB.out
  have KW7 : Hid (Kept w w7 []) := Lib.hid (K4.out.trans R7.out.kp (fun g hg => .inr (by have := HFO.out g hg; have := K3.out.size; omega)))
  have KW5 : Hid (Kept w w5 []) := Lib.hid (K4.out.trans R5.out.kp (fun g hg => .inr (by have := HFO.out g hg; have := K3.out.size; omega)))
  have HF5W : Hid (∀ g, g ∈ F5 → w.heap.size ≤ g) := Lib.hid (fun g hm => by
    rcases R7.out.gr g hm with h1 | h1
    · have := HFO.out g h1; have := K3.out.size; omega
    · have := K4.out.size; omega)
  clear kk
  generalize hP : geoPage k = P at *
  have HP := Lib.hid hP
  have p0 : (0 : Int) < P := by omega
  have p1 : (P : Int) ≤ 128 := by omega
  have P0 : 0 < P := by omega
  have la0 : (0 : Int) ≤ a := by omega
  have la1 : (a : Int) < 65536 := by have := HAT.out; omega
  have HPG := Lib.hid hpg
  clear hP hpg
  go_wp2_with fail
  go_loopg [16, 19] l.length (fun g acc i wr => ∃ (j : Nat) (F' : List Nat), j + g = l.length ∧ i = .int .i64 j ∧ acc = .int .i64 ((m : Int) + s1.acks (l.take j)) ∧ Grows w7 F5 F' ∧ ChipAt wr p F' (s1.puts (l.take j)) ∧ Own 5 .u8 wr w5.heap.size (.slice (some ⟨gw, 0, none⟩) d.length cw) (wantK d P a l j) ∧ Kept w7 wr (gw :: F5))
  case atStart =>
    refine ⟨0, F5, by omega, rfl, by simp [acks_nil], Grows.refl _ _, ?_, ?_, Kept.refl _ _⟩
    · rw [List.take_zero, puts_nil]; exact RS.out.ch
    · rw [wantK_zero]; exact HOW7.out
  case round =>
    obtain ⟨j, F', hj, rfl, rfl, hgr, hch, hown, hkept⟩ := hrel
    have HJ := Lib.hid hj
    have HGR := Lib.hid hgr
    have HCH := Lib.hid hch
    have HOWN := Lib.hid hown
    have HKE := Lib.hid hkept
    have hab := HACKB.out j (by omega)
    have HGWN : Hid (gw ∉ F') := Lib.hid (hgr.nin HGWF.out (by have := HGW.out; have := S67.out; omega))
    have HGE : Hid (GeoLaid wr) := Lib.hid (HG7.out.kept hkept (by
      intro g hg
      rcases List.mem_cons.1 hg with rfl | hg
      · have h1 := HG7.out.sz; have h2 := HGW.out; have h3 := HG4.out.sz; omega
      · exact HLO7.out g hg))
    clear hgr hch hown hkept
    have KWR : Hid (Kept w wr []) := Lib.hid ((KW7.out.trans HKE.out (fun g hg => .inr (by
      rcases List.mem_cons.1 hg with rfl | hg
      · have h1 := HGW.out; have h2 := KW5.out.size; omega
      · exact HF5W.out g hg))))
    by_cases hlt : j < l.length
    · have hy := List.getElem?_eq_getElem hlt
      generalize l[j] = y at hy
      have cl := (HL.out.kept KWR.out (.inr (by simp))).cell hy
      have hyb := HLL.out.get hy
      obtain ⟨y0, y1⟩ := hyb
      have j0 : (0 : Int) ≤ j := by omega
      have j1 : (j : Int) < l.length := by omega
      have d1 : decide (j < l.length) = true := by simpa using hlt
      have j2 : (j : Int) < 20 := by omega
      have hps := puts_snoc s1 (l.take j) y
      have htk : l.take (j + 1) = l.take j ++ [y] := by rw [List.take_add_one, hy]; rfl
      rw [← htk] at hps
      have hcl := puts_clock s1 (l.take j)
      rw [List.length_take, Nat.min_eq_left (by omega)] at hcl
      have HCL := Lib.hid hcl
      generalize hu : s1.puts (l.take j) = u at *
      generalize hac : s1.acks (l.take j) = ac at *
      obtain ⟨ac0, ac1⟩ := hab
      obtain ⟨nn, hnn, hnn1⟩ := ack_int u y
      have HPS := Lib.hid hps
      have HY := Lib.hid hy
      have HNN := Lib.hid (And.intro hnn trivial)
      clear hy hj hps htk hcl hu hac hnn
      have c20 : (nn : Int) ≤ 1 := by omega
      have c21 : (0 : Int) ≤ nn := by omega
      go_wp2_with fail
      refine (lput_any wr p F' u y y0 y1 HGE.out HCH.out (by have := HC1.out; have := HCL.out; omega)).mono ?_
      rintro _ w8 ⟨_, rfl, ⟨rfl, F8, hgr8, hch8⟩, k8⟩
      rw [HNN.out.1]
      have HOW8 := Lib.hid (HOWN.out.kept k8 (fun g hg hm => by simp [Value.ownBlock] at hg; subst hg; exact HGWN.out hm))
      have GR8 : Hid (Grows w7 F5 F8) := Lib.hid (HGR.out.trans hgr8 HKE.out.size)
      have KE8 : Hid (Kept w7 w8 (gw :: F5)) := Lib.hid (HKE.out.trans k8 (fun g hg => by
        rcases HGR.out g hg with h1 | h1
        · exact .inl (List.mem_cons_of_mem _ h1)
        · exact .inr h1))
      have KWR8 : Hid (Kept w w8 []) := Lib.hid ((KW7.out.trans KE8.out (fun g hg => .inr (by
        rcases List.mem_cons.1 hg with rfl | hg
        · have h1 := HGW.out; have h2 := KW5.out.size; omega
        · exact HF5W.out g hg))))
      have HGW8 : Hid (gw ∉ F8) := Lib.hid (GR8.out.nin HGWF.out (by have := HGW.out; have := S67.out; omega))
      have HCH8 : Hid (ChipAt w8 p F8 (s1.puts (l.take (j + 1)))) := Lib.hid (by rw [HPS.out.1]; exact hch8)
      have cl8 := (HL.out.kept KWR8.out (.inr (by simp))).cell HY.out
      have hpl := placeN_lt j P0 (by have := HPG.out; exact this.2.2.2.2.2.2.2.1) HAT.out
      have hpl2 : placeN P a j < (wantK d P a l j).length := by rw [wantK_len, HD.out]; exact hpl
      obtain ⟨bx, hsx, hbx⟩ := HOW8.out.sl
      have ebx : bx = gw := by
        rcases hbx with hbx | hbx
        · rw [hbx] at hpl2; simp at hpl2
        · simpa [Value.ownBlock] using hbx.1.symm
      subst ebx
      have cw8 := hsx.cell (List.getElem?_eq_getElem hpl2)
      rw [Nat.zero_add] at cw8
      generalize (wantK d P a l j)[placeN P a j] = z at cw8
      have fw8 : w8.frozen? ⟨bx, placeN P a j, none⟩ = false := HOW8.out.free rfl _
      have lw8 : bx < w8.heap.size := hsx.lt (by intro e; rw [e] at hpl2; simp at hpl2)
      have e1 : (0 : Int) ≤ (a : Int) % P := Int.emod_nonneg _ (by omega)
      have e2 : (a : Int) % P < P := Int.emod_lt_of_pos _ p0
      have e3 : (0 : Int) ≤ ((a : Int) + j) % P := Int.emod_nonneg _ (by omega)
      have e4 : ((a : Int) + j) % P < P := Int.emod_lt_of_pos _ p0
      have e5 : (a : Int) % P ≤ a := by rw [← Int.natCast_emod]; exact_mod_cast Nat.mod_le a P
      have epl : ((placeN P a j : Nat) : Int) = (a : Int) - (a : Int) % P + ((a : Int) + j) % P := by
        unfold placeN
        rw [Int.natCast_add, Int.natCast_sub (Nat.mod_le _ _), Int.natCast_emod, Int.natCast_emod, Int.natCast_add, Int.natCast_emod, Int.emod_add_emod]
      have e6 : (0 : Int) ≤ (a : Int) - (a : Int) % P + ((a : Int) + j) % P := by omega
      have e7 : (a : Int) - (a : Int) % P + ((a : Int) + j) % P < d.length := by have := HD.out; omega
      have e8 : ((a : Int) - (a : Int) % P + ((a : Int) + j) % P).toNat = placeN P a j := by rw [← epl, Int.toNat_natCast]
      have HX2 := Lib.hid hpl2
      clear hgr8 hch8 k8 cl hpl hpl2 hsx hbx epl
      go_wp2_with fail
      go_region
      all_goals (
        go_wp2_with fail
        go_roundg (gk - 1)
        case measure => have := HJ.out; omega
        case rel =>
          refine ⟨j + 1, F8, by have := HJ.out; omega, by go_num, ?_, GR8.out, ?_, ?_, ?_⟩
          · rw [HPS.out.2, HNN.out.1]; exact congrArg (Value.int IntKind.i64) (by omega)
          · exact (HCH8.out.kept (S := [bx]) ((Kept.refl w8 [bx]).setCell (by simp) _) (by simpa using HGW8.out)).kept (S := []) (Kept.refl _ _).drew (by simp)
          · rw [wantK_succ d P a l j y P0 HY.out]
            exact (HOW8.out.set rfl _ y HX2.out).drew
          · exact (KE8.out.setCell (.inl (by simp)) _).drew)
    · have hjl : j = l.length := by omega
      subst hjl
      have d1 : decide (l.length < l.length) = false := by simp
      have htk : l.take l.length = l := List.take_of_length_le (Nat.le_refl _)
      rw [htk] at HCH hab ⊢
      obtain ⟨w1', hR, hL, hD, hLD, hPT⟩ := HLAW.out
      rw [HM.out.1] at w1'
      have hcp := puts_clock s1 l
      generalize hs2 : s1.puts l = s2 at *
      generalize hac : s1.acks l = ac at *
      obtain ⟨ac0, ac1⟩ := hab
      generalize hs3 : s2.runs false endL = s3 at *
      have hc3 : s3.clock = s2.clock + 3 := by rw [← hs3, runs_end_clock]
      have hi49 := idles_calm s3 hR 49 (by omega)
      have hi50 := idles50 s3 hR hL
      rw [hLD] at hi50
      have h4d : (s3.idles 49).data = d := by rw [hi49]; exact hD
      have h4l : (s3.idles 49).left = 1 := by rw [hi49]; show s3.left - 49 = 1; omega
      have h4c : (s3.idles 49).clock = s3.clock + 49 := by rw [hi49]
      have h5 := idles_one s3 49
      generalize hs4 : s3.idles 49 = s4 at *
      generalize hs5 : s3.idles 50 = s5 at *
      have HS3 := Lib.hid hs3
      have HS4 := Lib.hid hs4
      have HS5 := Lib.hid h5
      have H4D := Lib.hid h4d
      have H4L := Lib.hid h4l
      have H5 := Lib.hid hi50
      have hsum : (m : Int) + ac = 1 + (geoWide k : Int) + l.length := w1'
      have htest : ((m : Int) + ac != 1 + (geoWide k : Int) + l.length) = false := by rw [bne_eq_false_iff_eq]; exact hsum
      have HC2 := Lib.hid (show s2.clock ≤ 700 by have := HC1.out; omega)
      have HC3 := Lib.hid (show s3.clock ≤ 703 by have := HC1.out; omega)
      have HC4 := Lib.hid (show s4.clock ≤ 752 by have := HC1.out; omega)
      have w0' : (0 : Int) ≤ geoWide k := by omega
      have w1'' : (geoWide k : Int) ≤ 2 := by have := HGB.out; omega
      clear w1' hR hL hD hLD hPT hcp hs2 hac hs3 hc3 hi49 hi50 h4d h4l h4c h5 hs4 hs5 hj htk hlt hsum HACKB HLAW
      go_wp2_with fail
      refine (end_any wr).mono ?_
      rintro _ w8 ⟨v8, rfl, ⟨g8, hl8, hg8⟩, k8⟩
      have R8 := Lib.hid ((Ran.start HCH.out).same k8)
      have HL8 := Lib.hid hl8
      have HN8 := Lib.hid ((Ran.start HCH.out).new hg8)
      have HLOF := Lib.hid HCH.out.lo
      clear hl8 hg8 k8
      go_wp2_with fail
      refine (steps_any w8 p F' s2 false v8 g8 endL (R8.out.geo HGE.out HLOF.out) R8.out.ch HL8.out HN8.out (by rw [endL_len]; have := HC2.out; omega)).mono ?_
      rintro _ w9 ⟨_, rfl, ⟨rfl, l9⟩, k9⟩
      obtain ⟨F9, r9⟩ := R8.out.next l9 k9
      rw [HS3.out] at r9
      have R9 := Lib.hid r9
      clear l9 k9 r9
      go_wp2_with fail
      refine (waits_any w9 p F9 s3 49 (R9.out.geo HGE.out HLOF.out) R9.out.ch (by decide) (by have := HC3.out; omega)).mono ?_
      rintro _ w10 ⟨_, rfl, ⟨rfl, l10⟩, k10⟩
      obtain ⟨F10, r10⟩ := R9.out.next l10 k10
      rw [HS4.out] at r10
      have R10 := Lib.hid r10
      clear l10 k10 r10
      go_wp2_with fail
      refine (HRW.out w10).mono ?_
      rintro _ w11 ⟨_, rfl, rfl, kk⟩
      have R11 := Lib.hid (R10.out.same kk)
      clear kk
      go_wp2_with fail
      refine (bytes_any w11 p F10 s4 R11.out.ch).mono ?_
      rintro _ w12 ⟨v12, rfl, hv12, k12⟩
      have R12 := Lib.hid (R11.out.same k12)
      rw [H4D.out] at hv12
      obtain ⟨b12, hs12, _⟩ := hv12.sl
      have HS12 := Lib.hid hs12
      have HBDN : Hid (bd ∉ gw :: F5) := Lib.hid (fun hm => by
        have hb1 := HBD.out
        have hk3 := K34.out
        have hk5 := HGW.out
        rcases List.mem_cons.1 hm with e | h1
        · omega
        · rcases R7.out.gr bd h1 with h2 | h2
          · exact HBDF.out h2
          · omega)
      have HBDF9 : Hid (bd ∉ F') := Lib.hid (HGR.out.nin (fun hm => HBDN.out (List.mem_cons_of_mem _ hm)) (by have := HBD.out; have := K34.out; have := HGW.out; have := S67.out; omega))
      have hsdr := ((HSD4.out.kept R7.out.kp (.inr HBDF.out)).kept HKE.out (.inr HBDN.out)).kept R12.out.kp (.inr HBDF9.out)
      clear hv12 hs12 k12
      go_wp2_with fail
      refine (same_any w12 _ _ b12 0 bd 0 d d HS12.out hsdr).mono ?_
      rintro _ w13 ⟨_, rfl, rfl, k13⟩
      rw [decide_eq_true (rfl : d = d)]
      have R13 := Lib.hid (R12.out.same k13)
      clear k13 hsdr
      go_wp2_with fail
      refine (left_any w13 p F10 s4 R13.out.ch).mono ?_
      rintro _ w14 ⟨_, rfl, rfl, k14⟩
      have R14 := Lib.hid (R13.out.same k14)
      have hl4 : ((s4.left : Nat) : Int) = 1 := by rw [H4L.out]; rfl
      rw [hl4]
      clear k14 hl4
      go_wp2_with fail
      refine (waits_any w14 p F10 s4 1 (R14.out.geo HGE.out HLOF.out) R14.out.ch (by decide) (by have := HC4.out; omega)).mono ?_
      rintro _ w15 ⟨_, rfl, ⟨rfl, l15⟩, k15⟩
      obtain ⟨F15, r15⟩ := R14.out.next l15 k15
      rw [HS5.out] at r15
      have R15 := Lib.hid r15
      clear l15 k15 r15
      go_wp2_with fail
      refine (bytes_any w15 p F15 s5 R15.out.ch).mono ?_
      rintro _ w16 ⟨v16, rfl, hv16, k16⟩
      have R16 := Lib.hid (R15.out.same k16)
      rw [H5.out.1] at hv16
      obtain ⟨b16, hs16, _⟩ := hv16.sl
      have HS16 := Lib.hid hs16
      have how16 := HOWN.out.kept R16.out.kp (fun g hg hm => by simp [Value.ownBlock] at hg; subst hg; exact HGWN.out hm)
      obtain ⟨bw16, hsw16, _⟩ := how16.sl
      have HSW16 := Lib.hid hsw16
      clear hv16 hs16 k16 how16 hsw16
      go_wp2_with fail
      refine (same_any w16 _ _ b16 0 bw16 0 _ _ HS16.out HSW16.out).mono ?_
      rintro _ w17 ⟨_, rfl, rfl, k17⟩
      rw [decide_eq_true rfl]
      have R17 := Lib.hid (R16.out.same k17)
      clear k17
      go_wp2_with fail
      refine (left_any w17 p F15 s5 R17.out.ch).mono ?_
      rintro _ w18 ⟨_, rfl, rfl, k18⟩
      have R18 := Lib.hid (R17.out.same k18)
      have hl5 : ((s5.left : Nat) : Int) = 0 := by rw [H5.out.2.1]; rfl
      rw [hl5]
      clear k18 hl5
      go_wp2_with fail
      go_ret
      refine ⟨rfl, below_of (KWR.out.trans R18.out.kp (fun g hg => .inr ?_))⟩
      rcases HGR.out g hg with h1 | h1
      · exact HF5W.out g h1
      · have := KW7.out.size; omega
theorem EepromWrites_walk (w : World) (hg : GeoLaid w) (kd ad : Int) (vb vl : Value) (b l : List Int) (k0 : 0 ≤ kd) (k1 : kd ≤ 255) (a0 : 0 ≤ ad) (a1 : ad ≤ 65535) (hb : SliceAt Byte1 1 w w.heap.size vb b) (hl : SliceAt Byte1 1 w w.heap.size vl l) :
    Calls Tryd.prog 3 #[.int .u8 kd, vb, .int .u16 ad, vl] w fun e W => e = .returned (.bool true) ∧ Below w.heap.size w W := by
  obtain ⟨bb, ob, hb, hbb, _⟩ := Sl.of_at hb
  obtain ⟨bl, ol, hl, hll, _⟩ := Sl.of_at hl
  by_cases h : 40 < b.length
  · exact writes_long w hg kd ad vb vl b l bb ob bl ol k0 k1 a0 a1 hb hl h
  by_cases h2 : l.length = 0
  · exact writes_none w hg kd ad vb vl b l bb ob bl ol k0 k1 a0 a1 hb hl (by omega) h2
  by_cases h3 : 20 < l.length
  · exact writes_many w hg kd ad vb vl b l bb ob bl ol k0 k1 a0 a1 hb hl (by omega) h2 h3
  exact writes_main w hg kd ad vb vl b l bb ob bl ol k0 k1 a0 a1 hb hl hbb hll (by omega) (fun e => h2 (by rw [e]; rfl)) (by omega)
end Go.Proofs.YtdpiaibjpaalhaaDoor
