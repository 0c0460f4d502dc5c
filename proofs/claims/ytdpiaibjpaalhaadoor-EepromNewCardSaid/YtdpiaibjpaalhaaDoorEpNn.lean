/- PROVED: EepromNew where the chip can't be, or too much is given. No conditions beyond those that each theorem states. -/
import Derived.Test.YtdpiaibjpaalhaaDoorEpNw
namespace Go.Proofs.YtdpiaibjpaalhaaDoor
open Go.RowKit Go.Proofs.YtdpiaibjpaalhaaDoorLib Go.WideElems Go.Maps Go.ChangeMaps
set_option linter.unusedSimpArgs false
set_option linter.unusedVariables false

set_option maxRecDepth 100000 in
set_option maxHeartbeats 2000000 in
theorem newlaw_long (w : World) (hg : GeoLaid w) (kd : Int) (A B : Option Addr) (n c m d : Nat) (hn : (n : Int) ≤ 9223372036854775807) (hm : (m : Int) ≤ 9223372036854775807) (h : 2000 < n ∨ 50 < m) :
    Calls Tryd.prog 8 #[.int .i64 kd, .slice A n c, .slice B m d] w fun e W => e = .returned (.bool true) ∧ Below w.heap.size w W := by
  have HA := Lib.hid (awake_any w hg)
  have n0 : (0 : Int) ≤ n := by omega
  have m0 : (0 : Int) ≤ m := by omega
  by_cases h1 : 2000 < n
  · have t1 : (2000 : Int) < n := by omega
    have t2 : decide (2000 < n) = true := by rw [decide_eq_true_iff]; exact h1
    clear h hg
    go_enter Tryd.func8, Tryd.ntmps8
    go_wp2_with fail
    refine HA.out.mono ?_
    rintro _ w1 ⟨_, rfl, rfl, kk⟩
    have K := Lib.hid kk
    clear kk HA
    go_wp2_with fail
    go_ret
    exact ⟨rfl, below_of K.out⟩
  · have t1 : ¬ (2000 : Int) < n := by omega
    have t2 : decide (2000 < n) = false := by rw [decide_eq_false_iff_not]; exact h1
    have t3 : (50 : Int) < m := by omega
    have t4 : decide (50 < m) = true := by rw [decide_eq_true_iff]; omega
    clear h hg
    go_enter Tryd.func8, Tryd.ntmps8
    go_wp2_with fail
    refine HA.out.mono ?_
    rintro _ w1 ⟨_, rfl, rfl, kk⟩
    have K := Lib.hid kk
    clear kk HA
    go_wp2_with fail
    go_ret
    exact ⟨rfl, below_of K.out⟩
set_option maxRecDepth 100000 in
set_option maxHeartbeats 2000000 in
theorem newlaw_no (w : World) (hg : GeoLaid w) (kd : Int) (A B : Option Addr) (n c m d : Nat) (h1 : n ≤ 2000) (h2 : m ≤ 50) (hk : ¬ (1 ≤ kd ∧ kd ≤ 10)) :
    Calls Tryd.prog 8 #[.int .i64 kd, .slice A n c, .slice B m d] w fun e W => e = .returned (.bool true) ∧ Below w.heap.size w W := by
  have HA := Lib.hid (awake_any w hg)
  have HE := Lib.hid (fun w1 => rEeprom_no w1 kd hk)
  have HN := Lib.hid (fun w1 v => new_no w1 kd hk v)
  have n0 : (0 : Int) ≤ n := by omega
  have m0 : (0 : Int) ≤ m := by omega
  have t1 : ¬ (2000 : Int) < n := by omega
  have t2 : decide (2000 < n) = false := by rw [decide_eq_false_iff_not]; omega
  have t3 : ¬ (50 : Int) < m := by omega
  have t4 : decide (50 < m) = false := by rw [decide_eq_false_iff_not]; omega
  clear hk hg h1 h2
  go_enter Tryd.func8, Tryd.ntmps8
  go_wp2_with fail
  refine HA.out.mono ?_
  rintro _ w1 ⟨_, rfl, rfl, kk⟩
  have K1 := Lib.hid kk
  clear kk HA
  go_wp2_with fail
  refine (HN.out w1 _).mono ?_
  rintro _ w2 ⟨_, rfl, rfl, kk⟩
  have K2 := Lib.hid (K1.out.trans kk (by simp))
  clear kk
  go_wp2_with fail
  refine (HE.out w2).mono ?_
  rintro _ w3 ⟨_, rfl, rfl, kk⟩
  have K3 := Lib.hid (K2.out.trans kk (by simp))
  clear kk
  go_wp2_with fail
  go_ret
  exact ⟨rfl, below_of K3.out⟩
set_option maxRecDepth 100000 in
set_option maxHeartbeats 2000000 in
theorem newlaw_len (w : World) (hg : GeoLaid w) (k : Nat) (k1 : 1 ≤ k) (k2 : k ≤ 10) (A B : Option Addr) (n c m d : Nat) (h1 : n ≤ 2000) (h2 : m ≤ 50) (hne : n ≠ geoBytes k) :
    Calls Tryd.prog 8 #[.int .i64 k, .slice A n c, .slice B m d] w fun e W => e = .returned (.bool true) ∧ Below w.heap.size w W := by
  have hgb := geo_bd k1 k2
  have HA := Lib.hid (awake_any w hg)
  have HG := Lib.hid hg
  have HE := Lib.hid (fun w1 => rEeprom_any w1 k k1 k2)
  have HN := Lib.hid (fun w1 hg1 => new_len w1 hg1 k k1 k2 A n c hne)
  have n0 : (0 : Int) ≤ n := by omega
  have m0 : (0 : Int) ≤ m := by omega
  have t1 : ¬ (2000 : Int) < n := by omega
  have t2 : decide (2000 < n) = false := by rw [decide_eq_false_iff_not]; omega
  have t3 : ¬ (50 : Int) < m := by omega
  have t4 : decide (50 < m) = false := by rw [decide_eq_false_iff_not]; omega
  have e0 : ((geoBytes k : Int) == 0) = false := by rw [beq_eq_false_iff_ne]; omega
  have e1 : ((n : Int) != (geoBytes k : Int)) = true := by rw [bne_iff_ne]; omega
  have e2 : (n != geoBytes k) = true := by rw [bne_iff_ne]; exact hne
  have e3 : ¬ geoBytes k = 0 := by omega
  clear hg h1 h2
  go_enter Tryd.func8, Tryd.ntmps8
  go_wp2_with fail
  refine HA.out.mono ?_
  rintro _ w1 ⟨_, rfl, rfl, kk⟩
  have K1 := Lib.hid kk
  clear kk HA
  go_wp2_with fail
  refine (HN.out w1 (HG.out.kept K1.out (by simp))).mono ?_
  rintro _ w2 ⟨_, rfl, rfl, kk⟩
  have K2 := Lib.hid (K1.out.trans kk (by simp))
  clear kk
  go_wp2_with fail
  refine (HE.out w2).mono ?_
  rintro _ w3 ⟨_, rfl, rfl, kk⟩
  have K3 := Lib.hid (K2.out.trans kk (by simp))
  clear kk
  go_wp2_with fail
  refine (HE.out w3).mono ?_
  rintro _ w4 ⟨_, rfl, rfl, kk⟩
  have K4 := Lib.hid (K3.out.trans kk (by simp))
  clear kk
  go_wp2_with fail
  go_ret
  exact ⟨rfl, below_of K4.out⟩
end Go.Proofs.YtdpiaibjpaalhaaDoor
