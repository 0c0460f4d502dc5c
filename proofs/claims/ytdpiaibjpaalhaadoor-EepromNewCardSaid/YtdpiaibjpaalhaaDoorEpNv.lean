/- PROVED: the walk of keepsakelaw10.EepromNew. No conditions beyond those that each theorem states. -/
import Derived.Test.YtdpiaibjpaalhaaDoorEpNn
import Derived.Test.YtdpiaibjpaalhaaDoorEpCt
namespace Go.Proofs.YtdpiaibjpaalhaaDoor
open Go.RowKit Go.Proofs.YtdpiaibjpaalhaaDoorLib Go.WideElems Go.Maps Go.ChangeMaps
set_option linter.unusedSimpArgs false
set_option linter.unusedVariables false

set_option maxRecDepth 100000 in
set_option maxHeartbeats 4000000 in
theorem newlaw_ok (w : World) (hg : GeoLaid w) (k : Nat) (k1 : 1 ≤ k) (k2 : k ≤ 10) (A B : Option Addr) (c m d bb ob : Nat) (l : List Int) (hb : Sl .u8 w (.slice A l.length c) bb ob l) (hbb : Bts l) (h1 : l.length ≤ 2000) (h2 : m ≤ 50) (hne : l.length = geoBytes k) :
    Calls Tryd.prog 8 #[.int .i64 k, .slice A l.length c, .slice B m d] w fun e W => e = .returned (.bool true) ∧ Below w.heap.size w W := by
  have hgb := geo_bd k1 k2
  have HA := Lib.hid (awake_any w hg)
  have HG := Lib.hid hg
  have HB := Lib.hid hb
  have HE := Lib.hid (fun w1 => rEeprom_any w1 k k1 k2)
  have HN := Lib.hid (fun w1 hg1 hs1 => epNew_any w1 hg1 k k1 k2 (.slice A l.length c) bb ob l hs1 hbb hne)
  have n0 : (0 : Int) ≤ l.length := by omega
  have m0 : (0 : Int) ≤ m := by omega
  have t1 : ¬ (2000 : Int) < l.length := by omega
  have t2 : decide (2000 < l.length) = false := by rw [decide_eq_false_iff_not]; omega
  have t3 : ¬ (50 : Int) < m := by omega
  have t4 : decide (50 < m) = false := by rw [decide_eq_false_iff_not]; omega
  have e0 : ((geoBytes k : Int) == 0) = false := by rw [beq_eq_false_iff_ne]; omega
  have e1 : ((l.length : Int) != (geoBytes k : Int)) = false := by rw [bne_eq_false_iff_eq]; omega
  have e2 : (l.length != geoBytes k) = false := by rw [bne_eq_false_iff_eq]; exact hne
  have e3 : ¬ geoBytes k = 0 := by omega
  have HL := Lib.hid (And.intro h1 trivial)
  have hw0 : (EpS.new k l).waits = [] := rfl
  have hd0 : (EpS.new k l).data = l := rfl
  have hl0 : (EpS.new k l).left = 0 := rfl
  have hp0 : (EpS.new k l).pointer = 0 := rfl
  generalize EpS.new k l = s at *
  have HW0 := Lib.hid (And.intro hw0 trivial)
  have HD0 := Lib.hid (And.intro hd0 trivial)
  have HL0 := Lib.hid (And.intro hl0 trivial)
  have HP0 := Lib.hid (And.intro hp0 trivial)
  clear hg h1 h2 hb hbb hne hgb hw0 hd0 hl0 hp0
  go_enter Tryd.func8, Tryd.ntmps8
  go_wp2_with fail
  refine HA.out.mono ?_
  rintro _ w1 ⟨_, rfl, rfl, kk⟩
  have K1 := Lib.hid kk
  clear kk HA
  go_wp2_with fail
  refine (HN.out w1 (HG.out.kept K1.out (by simp)) (HB.out.kept K1.out (.inr (by simp)))).mono ?_
  rintro _ w2 ⟨_, rfl, ⟨p, F, rfl, hch, hF⟩, kk⟩
  have K2 := Lib.hid (K1.out.trans kk (by simp))
  have HC2 := Lib.hid hch
  clear kk hch hF HN
  go_wp2_with fail
  refine (HE.out w2).mono ?_
  rintro _ w3 ⟨_, rfl, rfl, kk⟩
  have K3 := Lib.hid (K2.out.trans kk (by simp))
  have HC3 := Lib.hid (HC2.out.kept kk (by simp))
  clear kk
  go_wp2_with fail
  refine (HE.out w3).mono ?_
  rintro _ w4 ⟨_, rfl, rfl, kk⟩
  have K4 := Lib.hid (K3.out.trans kk (by simp))
  have HC4 := Lib.hid (HC3.out.kept kk (by simp))
  clear kk
  go_wp2_with fail
  refine (waits_none w4 p F s HC4.out HW0.out.1).mono ?_
  rintro _ w5 ⟨_, rfl, ⟨Aw, cw, rfl⟩, kk⟩
  have K5 := Lib.hid (K4.out.trans kk (by simp))
  have HC5 := Lib.hid (HC4.out.kept kk (by simp))
  clear kk
  go_wp2_with fail
  refine (bytes_any w5 p F s HC5.out).mono ?_
  rintro _ w6 ⟨v6, rfl, hv, kk⟩
  rw [HD0.out.1] at hv
  obtain ⟨b6, hs6, _⟩ := hv.sl
  have K6 := Lib.hid (K5.out.trans kk (by simp))
  have HC6 := Lib.hid (HC5.out.kept kk (by simp))
  have HS6 := Lib.hid hs6
  have HB6 := Lib.hid (HB.out.kept K6.out (.inr (by simp)))
  clear kk hv hs6
  go_wp2_with fail
  refine (same_any w6 _ _ b6 0 bb ob l l HS6.out HB6.out).mono ?_
  rintro _ w7 ⟨_, rfl, rfl, kk⟩
  rw [decide_eq_true (rfl : l = l)]
  have K7 := Lib.hid (K6.out.trans kk (by simp))
  have HC7 := Lib.hid (HC6.out.kept kk (by simp))
  clear kk
  go_wp2_with fail
  refine (left_any w7 p F s HC7.out).mono ?_
  rintro _ w8 ⟨_, rfl, rfl, kk⟩
  rw [HL0.out.1]
  have K8 := Lib.hid (K7.out.trans kk (by simp))
  have HC8 := Lib.hid (HC7.out.kept kk (by simp))
  clear kk
  go_wp2_with fail
  refine (pointer_any w8 p F s HC8.out).mono ?_
  rintro _ w9 ⟨_, rfl, rfl, kk⟩
  rw [HP0.out.1]
  have K9 := Lib.hid (K8.out.trans kk (by simp))
  have HC9 := Lib.hid (HC8.out.kept kk (by simp))
  clear kk
  go_wp2_with fail
  refine (cut_none w9 p F s HC9.out HW0.out.1 (by rw [HD0.out.1]; have := HL.out.1; omega) B m d).mono ?_
  rintro _ w10 ⟨v10, rfl, hv, kk⟩
  rw [HD0.out.1] at hv
  obtain ⟨b10, hs10, _⟩ := hv.sl
  have K10 := Lib.hid (K9.out.trans kk (by simp))
  have HS10 := Lib.hid hs10
  have HB10 := Lib.hid (HB.out.kept K10.out (.inr (by simp)))
  clear kk hv hs10
  go_wp2_with fail
  refine (same_any w10 _ _ b10 0 bb ob l l HS10.out HB10.out).mono ?_
  rintro _ w11 ⟨_, rfl, rfl, kk⟩
  rw [decide_eq_true (rfl : l = l)]
  have K11 := Lib.hid (K10.out.trans kk (by simp))
  clear kk
  go_wp2_with fail
  go_ret
  exact ⟨rfl, below_of K11.out⟩
theorem EepromNew_walk (w : World) (hg : GeoLaid w) (kd : Int) (vb vp : Value) (b pk : List Int) (hb : SliceAt Byte1 1 w w.heap.size vb b) (hp : SliceAt Byte1 1 w w.heap.size vp pk) :
    Calls Tryd.prog 8 #[.int .i64 kd, vb, vp] w fun e W => e = .returned (.bool true) ∧ Below w.heap.size w W := by
  obtain ⟨bb, ob, hb, hbb, _⟩ := Sl.of_at hb
  obtain ⟨bp, op, hp, _, _⟩ := Sl.of_at hp
  have L1 := hb.len
  have L2 := hp.len
  unfold maxLen at L1 L2
  obtain ⟨A, c, rfl⟩ := hb.form
  obtain ⟨B, d, rfl⟩ := hp.form
  by_cases h : 2000 < b.length ∨ 50 < pk.length
  · exact newlaw_long w hg kd A B _ c _ d (by omega) (by omega) h
  by_cases hk : 1 ≤ kd ∧ kd ≤ 10
  · obtain ⟨k, rfl⟩ : ∃ k : Nat, kd = k := ⟨kd.toNat, by omega⟩
    by_cases hne : b.length = geoBytes k
    · exact newlaw_ok w hg k (by omega) (by omega) A B c _ d bb ob b hb hbb (by omega) (by omega) hne
    · exact newlaw_len w hg k (by omega) (by omega) A B _ c _ d (by omega) (by omega) hne
  · exact newlaw_no w hg kd A B _ c _ d (by omega) (by omega) hk
end Go.Proofs.YtdpiaibjpaalhaaDoor
