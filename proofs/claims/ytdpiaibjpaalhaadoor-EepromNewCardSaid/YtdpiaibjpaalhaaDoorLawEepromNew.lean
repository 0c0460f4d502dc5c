/- PROVED: EepromNew: a chip of any kind with any bytes has these, or it can't be. -/
import Derived.Test.YtdpiaibjpaalhaaDoorRows
import Derived.Test.YtdpiaibjpaalhaaDoorEpNv
import Derived.Test.YtdpiaibjpaalhaaDoorArg
import Derived.Test.YtdpiaibjpaalhaaDoorEpArg
import Derived.WalkKit
import Derived.ProofKit
import Derived.OpenShut
import Derived.ShutString
import Derived.ChangeOld
import Derived.Below
import Derived.SizedLaws
import Derived.Carry
import Derived.Test.YtdpiaibjpaalhaaDoorLaid
import Derived.Test.YtdpiaibjpaalhaaDoorTie
import Derived.Test.YtdpiaibjpaalhaaDoorCards
import Derived.SevenTiedAt
import Derived.OpenVars
import Derived.LaidMore
import Derived.Lay
import Derived.LaidOnce
namespace Go.Proofs.YtdpiaibjpaalhaaDoor.eepromNew
open Go.ChangeShapes Go.WideShapes Go.ChangeAt Go.RowKit Go.Proofs.YtdpiaibjpaalhaaDoorLib
open Go.ChangeMaps (open_string shut_string)
set_option linter.unusedVariables false
theorem own : ownKnob Tryd.prog.godebug = none := by kernel_rfl
theorem laidOut : laidOutB Tryd.prog = true := by kernel_rfl
set_option maxRecDepth 100000 in
theorem lifted (os : Os) (started : os.Started) (H : Type) (enc : TypeId × Value → H) :
    ReturnsInHanded {} Tryd.checked os 8 .any (fun w args => (Rows.eepromNewSpec.pre enc Tryd.prog Tryd.f8 [] false w args ∧ laidMetH Tryd.prog laidL w) ∧ sizedMet enc Tryd.prog Tryd.f8 (OpenSpec.ofChange Rows.eepromNewSpec) false w args) (Rows.eepromNewSpec.post enc Tryd.prog Tryd.f8 false true false false) := by
  refine returnsInHanded_of_change_and (C := Tryd.checked) (X := fun w _ => laidMetH Tryd.prog laidL w) (fun _ _ _ hh h => h.of_heap hh) own started (by kernel_rfl) Tryd.func8
    (ChangeSpec.witness_shaped (enc := enc) (C := Tryd.checked) (os := os) (X := fun w _ => laidMetH Tryd.prog laidL w) false (World.laidAll Tryd.prog os laidL) #[.int .i64 0, .slice none 0 0, .slice none 0 0] 12 (World.laidAll_os _ _ _) (World.shaped_of_ZipB (by kernel_rfl) (by kernel_rfl)) (by kernel_rfl) (by kernel_rfl) (by kernel_rfl)
      (by rw [MakeChecks.laidMetH_plain _ _ _ (by kernel_rfl)]; exact laidMet_laidAll _ (by kernel_rfl) (by kernel_rfl))) ?_
  intro W base args ds gs before hval0 hW hcnd hsz0 hL _
  have hval : ∀ (j : Nat) t v, Tryd.f8.params[j]? = some t → args[j]? = some v → Value.okWide Tryd.prog W .any base t v := hval0
  have hW' := hW
  obtain ⟨p, q, hA0, hV, rfl, hfz, hnd⟩ := hW
  have hA : DataW.TrodAll enc Tryd.prog W 0 (fun _ => true) true Tryd.f8.params.toList args.toList ds p := hA0
  rw [Tryd.params8] at hA hval
  obtain ⟨v0, vs0, d0, ds0, p0, q0, hargs, rfl, rfl, h0, r0⟩ := trodAll_cons hA
  obtain ⟨v1, vs1, d1, ds1, p1, q1, rfl, rfl, rfl, h1, r1⟩ := trodAll_cons r0
  obtain ⟨v2, vs2, d2, ds2, p2, q2, rfl, rfl, rfl, h2, r2⟩ := trodAll_cons r1
  obtain ⟨rfl, rfl, rfl⟩ := trodAll_nil r2
  obtain rfl : args = #[v0, v1, v2] := by cases args; simp_all
  obtain ⟨rfl, rfl⟩ := trodVars_none hV
  have k0 := h0
  have lt0 : ∀ x ∈ p0, x.block < W.heap.size := by obtain ⟨m, hm⟩ := k0; exact DataW.trod_lt m _ _ _ hm
  obtain ⟨a0, rfl, rfl, rfl, w0⟩ := open_int Tryd.underlying3 (hval 0 _ v0 rfl rfl) h0
  obtain ⟨l0, u0⟩ := wf_i64 w0
  have k1 := h1
  have lt1 : ∀ x ∈ p1, x.block < W.heap.size := by obtain ⟨m, hm⟩ := k1; exact DataW.trod_lt m _ _ _ hm
  obtain ⟨b1, len1, cap1, e1⟩ := okWide_slice Tryd.underlying22 (hval 1 _ v1 rfl rfl)
  obtain ⟨z1, x1, g1, s1⟩ := Rds.slice (K := Byte1) Tryd.underlying22 (by kernel_rfl : Tryd.prog.cellsOf 5 = 1) (fun cs h => K_byte h) (by decide) (Rds.of_trod h1)
  obtain rfl : v1 = z1 := by rw [e1] at g1 ⊢; simpa [Value.cells] using g1
  clear e1 g1
  have k2 := h2
  have lt2 : ∀ x ∈ p2, x.block < W.heap.size := by obtain ⟨m, hm⟩ := k2; exact DataW.trod_lt m _ _ _ hm
  obtain ⟨b2, len2, cap2, e2⟩ := okWide_slice Tryd.underlying22 (hval 2 _ v2 rfl rfl)
  obtain ⟨z2, x2, g2, s2⟩ := Rds.slice (K := Byte1) Tryd.underlying22 (by kernel_rfl : Tryd.prog.cellsOf 5 = 1) (fun cs h => K_byte h) (by decide) (Rds.of_trod h2)
  obtain rfl : v2 = z2 := by rw [e2] at g2 ⊢; simpa [Value.cells] using g2
  clear e2 g2
  clear hA0 hval0 hsz0
  refine (EepromNew_walk W (geo_of_laid hL) a0 v1 v2 x1 x2 s1 s2).mono fun e W' ⟨he, bel⟩ => ?_
  subst he
  exact ⟨_, rfl, _, _, _, [], _, [], hW', trodAll_mk1 (shut_bool Tryd.underlying4 _), (trodAll_cons_mk (Below.trod laidOut (by kernel_rfl) (of_decide_eq_true (by kernel_rfl)) k0 bel lt0) (trodAll_cons_mk (Below.trod laidOut (by kernel_rfl) (of_decide_eq_true (by kernel_rfl)) k1 bel lt1) (trodAll_cons_mk (Below.trod laidOut (by kernel_rfl) (of_decide_eq_true (by kernel_rfl)) k2 bel lt2) trodAll_mk0))), rfl, bel.frame _, fun h => by cases h⟩
theorem over : Rows.eepromNewRow.holds Tryd.pinned (OpenSpec.ofChange Rows.eepromNewSpec) :=
  OpenClaim.holds_of_wide 8 Tryd.f8 rfl rfl rfl rfl rfl rfl rfl ⟨rfl, rfl, rfl, rfl, rfl⟩ rfl rfl rfl rfl rfl (by kernel_rfl) Tryd.func8 (by kernel_rfl)
    (of_decide_eq_true (by kernel_rfl)) (by unfold Func.isWrapper; first | (rw [if_pos (by decide +kernel)]; kernel_rfl) | (rw [if_neg (by decide +kernel)]; exact ⟨rfl, rfl⟩))
    (fun os started H enc _ => lifted os started H enc)
theorem proved : Rows.EepromNewSaid := over
end Go.Proofs.YtdpiaibjpaalhaaDoor.eepromNew
namespace Go.Proofs.YtdpiaibjpaalhaaDoor
theorem eepromNew_holds : Rows.EepromNewCardSaid :=
  Claim7.holds_tied_plain_at .later [] [.data] true (true, "a94f2cf0f9691db6f62f45ef93568d4e4fb5998c6d3e27ff7a8d07c94e0d2ab8") false
    eepromNew.proved (fun _ h => by cases h) (by kernel_rfl) (fun _ h => by cases h) eepromNew_row_tie rfl ⟨rfl, rfl⟩ (by kernel_rfl) rfl
    (fun g fn hf hfn => by
      obtain rfl : g = 8 := Option.some.inj ((show Tryd.prog.funcNamed "keepsake/keepsakelaw10.EepromNew" = some 8 by kernel_rfl).symm.trans hf) |>.symm
      obtain rfl : fn = Tryd.f8 := (Option.some.inj (Tryd.func8.symm.trans hfn)).symm
      exact ⟨by kernel_rfl, fun j t ht => by
        rw [Tryd.params8] at ht
        have hm : t ∈ [3, 22, 22] := by simpa using Array.mem_of_getElem? ht
        have hall : ([3, 22, 22].all fun u => !Tryd.prog.wantsStandIn u) = true := by kernel_rfl
        exact (show Tryd.prog.wantsStandIn t = false by simpa using List.all_eq_true.1 hall t hm)⟩)
    (by kernel_rfl)
#print axioms eepromNew_holds
end Go.Proofs.YtdpiaibjpaalhaaDoor
