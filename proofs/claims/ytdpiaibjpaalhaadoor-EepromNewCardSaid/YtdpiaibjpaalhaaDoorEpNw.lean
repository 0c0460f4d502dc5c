/- PROVED: New of a chip that can't be. No conditions beyond those that each theorem states. -/
import Derived.Test.YtdpiaibjpaalhaaDoorEpWr
namespace Go.Proofs.YtdpiaibjpaalhaaDoor
open Go.RowKit Go.Proofs.YtdpiaibjpaalhaaDoorLib Go.WideElems Go.Maps Go.ChangeMaps
set_option linter.unusedSimpArgs false
set_option linter.unusedVariables false

theorem new_no (w : World) (k : Int) (h : ¬ (1 ≤ k ∧ k ≤ 10)) (v : Value) :
    Calls Tryd.prog 13 #[.int .i64 k, v] w (Post w [] fun r W => r = .tuple #[.pointer none, .int .i64 1]) := by
  have HE := Lib.hid (geoEeprom_no w k h)
  clear h
  go_enter Tryd.func13, Tryd.ntmps13
  go_wp2_with fail
  refine HE.out.mono ?_
  rintro _ w1 ⟨_, rfl, rfl, k1⟩
  have K1 := Lib.hid k1
  clear k1
  go_wp2_with fail
  go_ret2
  exact ⟨_, rfl, rfl, K1.out⟩
theorem new_len (w : World) (hg : GeoLaid w) (k : Nat) (h1 : 1 ≤ k) (h2 : k ≤ 10) (A : Option Addr) (n c : Nat) (hn : n ≠ geoBytes k) :
    Calls Tryd.prog 13 #[.int .i64 k, .slice A n c] w (Post w [] fun r W => r = .tuple #[.pointer none, .int .i64 1]) := by
  have hgb := geo_bd h1 h2
  have HG := Lib.hid hg
  have HE := Lib.hid (fun w2 hg2 => geoEeprom_any w2 hg2 k h1 h2)
  have e0 : ((geoBytes k : Int) == 0) = false := by rw [beq_eq_false_iff_ne]; omega
  have e1 : ((n : Int) != (geoBytes k : Int)) = true := by rw [bne_iff_ne]; omega
  have e2 : (n != geoBytes k) = true := by rw [bne_iff_ne]; exact hn
  clear hg
  go_enter Tryd.func13, Tryd.ntmps13
  go_wp2_with fail
  refine (HE.out _ HG.out).mono ?_
  rintro _ w1 ⟨_, rfl, rfl, k1⟩
  have K1 := Lib.hid k1
  clear k1
  go_wp2_with fail
  refine (HE.out _ (HG.out.kept K1.out (by simp))).mono ?_
  rintro _ w2 ⟨_, rfl, rfl, k2⟩
  have K2 := Lib.hid (K1.out.trans k2 (by simp))
  clear k2
  go_wp2_with fail
  go_ret2
  exact ⟨_, rfl, rfl, K2.out⟩
end Go.Proofs.YtdpiaibjpaalhaaDoor
