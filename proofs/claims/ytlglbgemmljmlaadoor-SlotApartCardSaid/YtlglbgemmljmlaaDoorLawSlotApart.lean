/- PROVED: SlotApart: what is done with one slot changes nothing of the other one, also if it fails, or is torn. -/
import Derived.Test.YtlglbgemmljmlaaDoorRows
import Derived.Test.YtlglbgemmljmlaaDoorSlAp
import Derived.Test.YtlglbgemmljmlaaDoorArg
import Derived.Test.YtlglbgemmljmlaaDoorSlArg
import Derived.WalkKit
import Derived.ProofKit
import Derived.OpenShut
import Derived.ShutString
import Derived.ChangeOld
import Derived.Below
import Derived.SizedLaws
import Derived.Carry
import Derived.Test.YtlglbgemmljmlaaDoorLaid
import Derived.Test.YtlglbgemmljmlaaDoorTie
import Derived.Test.YtlglbgemmljmlaaDoorCards
import Derived.SevenTiedAt
import Derived.OpenVars
import Derived.LaidMore
import Derived.Lay
import Derived.LaidOnce
namespace Go.Proofs.YtlglbgemmljmlaaDoor.slotApart
open Go.ChangeShapes Go.WideShapes Go.ChangeAt Go.RowKit Go.Proofs.YtlglbgemmljmlaaDoorLib
open Go.ChangeMaps (open_string shut_string)
set_option linter.unusedVariables false
theorem own : ownKnob Tryd.prog.godebug = none := by kernel_rfl
theorem laidOut : laidOutB Tryd.prog = true := by kernel_rfl
set_option maxRecDepth 100000 in
theorem lifted (os : Os) (started : os.Started) (H : Type) (enc : TypeId × Value → H) :
    ReturnsInHanded {} Tryd.checked os 7 .any (fun w args => (Rows.slotApartSpec.pre enc Tryd.prog Tryd.f7 [] false w args ∧ laidMetH Tryd.prog laidL w) ∧ sizedMet enc Tryd.prog Tryd.f7 (OpenSpec.ofChange Rows.slotApartSpec) false w args) (Rows.slotApartSpec.post enc Tryd.prog Tryd.f7 false true false false) := by
  refine returnsInHanded_of_change_and (C := Tryd.checked) (X := fun w _ => laidMetH Tryd.prog laidL w) (fun _ _ _ hh h => h.of_heap hh) own started (by kernel_rfl) Tryd.func7
    (ChangeSpec.witness_shaped (enc := enc) (C := Tryd.checked) (os := os) (X := fun w _ => laidMetH Tryd.prog laidL w) false (World.laidAll Tryd.prog os laidL) #[.agg #[.int .i64 0, .int .i64 0, .int .i64 0], .slice none 0 0, .slice none 0 0, .int .u8 0, .bool false, .int .u8 0, .slice none 0 0] 12 (World.laidAll_os _ _ _) (World.shaped_of_ZipB (by kernel_rfl) (by kernel_rfl)) (by kernel_rfl) (by kernel_rfl) (by kernel_rfl)
      (by rw [MakeChecks.laidMetH_plain _ _ _ (by kernel_rfl)]; exact laidMet_laidAll _ (by kernel_rfl) (by kernel_rfl))) ?_
  intro W base args ds gs before hval0 hW hcnd hsz0 hL _
  have hval : ∀ (j : Nat) t v, Tryd.f7.params[j]? = some t → args[j]? = some v → Value.okWide Tryd.prog W .any base t v := hval0
  have hW' := hW
  obtain ⟨p, q, hA0, hV, rfl, hfz, hnd⟩ := hW
  have hA : DataW.TrodAll enc Tryd.prog W 0 (fun _ => true) true Tryd.f7.params.toList args.toList ds p := hA0
  rw [Tryd.params7] at hA hval
  obtain ⟨v0, vs0, d0, ds0, p0, q0, hargs, rfl, rfl, h0, r0⟩ := trodAll_cons hA
  obtain ⟨v1, vs1, d1, ds1, p1, q1, rfl, rfl, rfl, h1, r1⟩ := trodAll_cons r0
  obtain ⟨v2, vs2, d2, ds2, p2, q2, rfl, rfl, rfl, h2, r2⟩ := trodAll_cons r1
  obtain ⟨v3, vs3, d3, ds3, p3, q3, rfl, rfl, rfl, h3, r3⟩ := trodAll_cons r2
  obtain ⟨v4, vs4, d4, ds4, p4, q4, rfl, rfl, rfl, h4, r4⟩ := trodAll_cons r3
  obtain ⟨v5, vs5, d5, ds5, p5, q5, rfl, rfl, rfl, h5, r5⟩ := trodAll_cons r4
  obtain ⟨v6, vs6, d6, ds6, p6, q6, rfl, rfl, rfl, h6, r6⟩ := trodAll_cons r5
  obtain ⟨rfl, rfl, rfl⟩ := trodAll_nil r6
  obtain rfl : args = #[v0, v1, v2, v3, v4, v5, v6] := by cases args; simp_all
  obtain ⟨rfl, rfl⟩ := trodVars_none hV
  have k0 := h0
  have lt0 : ∀ x ∈ p0, x.block < W.heap.size := by obtain ⟨m, hm⟩ := k0; exact DataW.trod_lt m _ _ _ hm
  obtain ⟨cs0, e0, _⟩ := okWide_struct Tryd.underlying23 (hval 0 _ v0 rfl rfl)
  obtain ⟨x0, g0, s0⟩ := Geom.of e0 (Rds.of_trod h0)
  clear e0
  subst g0
  have k1 := h1
  have lt1 : ∀ x ∈ p1, x.block < W.heap.size := by obtain ⟨m, hm⟩ := k1; exact DataW.trod_lt m _ _ _ hm
  obtain ⟨b1, len1, cap1, e1⟩ := okWide_slice Tryd.underlying27 (hval 1 _ v1 rfl rfl)
  obtain ⟨z1, x1, g1, s1⟩ := Rds.slice (K := Byte1) Tryd.underlying27 (by kernel_rfl : Tryd.prog.cellsOf 5 = 1) (fun cs h => K_byte h) (by decide) (Rds.of_trod h1)
  obtain rfl : v1 = z1 := by rw [e1] at g1 ⊢; simpa [Value.cells] using g1
  clear e1 g1
  have k2 := h2
  have lt2 : ∀ x ∈ p2, x.block < W.heap.size := by obtain ⟨m, hm⟩ := k2; exact DataW.trod_lt m _ _ _ hm
  obtain ⟨b2, len2, cap2, e2⟩ := okWide_slice Tryd.underlying27 (hval 2 _ v2 rfl rfl)
  obtain ⟨z2, x2, g2, s2⟩ := Rds.slice (K := Byte1) Tryd.underlying27 (by kernel_rfl : Tryd.prog.cellsOf 5 = 1) (fun cs h => K_byte h) (by decide) (Rds.of_trod h2)
  obtain rfl : v2 = z2 := by rw [e2] at g2 ⊢; simpa [Value.cells] using g2
  clear e2 g2
  have k3 := h3
  have lt3 : ∀ x ∈ p3, x.block < W.heap.size := by obtain ⟨m, hm⟩ := k3; exact DataW.trod_lt m _ _ _ hm
  obtain ⟨a3, rfl, rfl, rfl, w3⟩ := open_int Tryd.underlying5 (hval 3 _ v3 rfl rfl) h3
  obtain ⟨l3, u3⟩ := wf_u8 w3
  have k4 := h4
  have lt4 : ∀ x ∈ p4, x.block < W.heap.size := by obtain ⟨m, hm⟩ := k4; exact DataW.trod_lt m _ _ _ hm
  obtain ⟨a4, rfl, rfl, rfl⟩ := open_bool Tryd.underlying4 (hval 4 _ v4 rfl rfl) h4
  have k5 := h5
  have lt5 : ∀ x ∈ p5, x.block < W.heap.size := by obtain ⟨m, hm⟩ := k5; exact DataW.trod_lt m _ _ _ hm
  obtain ⟨a5, rfl, rfl, rfl, w5⟩ := open_int Tryd.underlying5 (hval 5 _ v5 rfl rfl) h5
  obtain ⟨l5, u5⟩ := wf_u8 w5
  have k6 := h6
  have lt6 : ∀ x ∈ p6, x.block < W.heap.size := by obtain ⟨m, hm⟩ := k6; exact DataW.trod_lt m _ _ _ hm
  obtain ⟨b6, len6, cap6, e6⟩ := okWide_slice Tryd.underlying55 (hval 6 _ v6 rfl rfl)
  obtain ⟨z6, x6, g6, s6⟩ := Rds.slice (K := TearK W.heap.size) Tryd.underlying55 (by kernel_rfl : Tryd.prog.cellsOf 95 = 2) (fun cs h => K_tear h) (by decide) (Rds.of_trod h6)
  obtain rfl : v6 = z6 := by rw [e6] at g6 ⊢; simpa [Value.cells] using g6
  clear e6 g6
  clear hA0 hval0 hsz0
  refine (SlotApart_walk W (geo_of_laid hL) x0.1 x0.2.1 x0.2.2 v1 v2 x1 x2 a3 a5 a4 v6 x6 s1 s2 s6 l3 u3 l5 u5).mono fun e W' ⟨he, bel⟩ => ?_
  subst he
  exact ⟨_, rfl, _, _, _, [], _, [], hW', trodAll_mk1 (shut_bool Tryd.underlying4 _), (trodAll_cons_mk (Below.trod laidOut (by kernel_rfl) (of_decide_eq_true (by kernel_rfl)) k0 bel lt0) (trodAll_cons_mk (Below.trod laidOut (by kernel_rfl) (of_decide_eq_true (by kernel_rfl)) k1 bel lt1) (trodAll_cons_mk (Below.trod laidOut (by kernel_rfl) (of_decide_eq_true (by kernel_rfl)) k2 bel lt2) (trodAll_cons_mk (Below.trod laidOut (by kernel_rfl) (of_decide_eq_true (by kernel_rfl)) k3 bel lt3) (trodAll_cons_mk (Below.trod laidOut (by kernel_rfl) (of_decide_eq_true (by kernel_rfl)) k4 bel lt4) (trodAll_cons_mk (Below.trod laidOut (by kernel_rfl) (of_decide_eq_true (by kernel_rfl)) k5 bel lt5) (trodAll_cons_mk (Below.trod laidOut (by kernel_rfl) (of_decide_eq_true (by kernel_rfl)) k6 bel lt6) trodAll_mk0))))))), rfl, bel.frame _, fun h => by cases h⟩
theorem over : Rows.slotApartRow.holds Tryd.pinned (OpenSpec.ofChange Rows.slotApartSpec) :=
  OpenClaim.holds_of_wide 7 Tryd.f7 rfl rfl rfl rfl rfl rfl rfl ⟨rfl, rfl, rfl, rfl, rfl⟩ rfl rfl rfl rfl rfl (by kernel_rfl) Tryd.func7 (by kernel_rfl)
    (of_decide_eq_true (by kernel_rfl)) (by unfold Func.isWrapper; first | (rw [if_pos (by decide +kernel)]; kernel_rfl) | (rw [if_neg (by decide +kernel)]; exact ⟨rfl, rfl⟩))
    (fun os started H enc _ => lifted os started H enc)
theorem proved : Rows.SlotApartSaid := over
end Go.Proofs.YtlglbgemmljmlaaDoor.slotApart
namespace Go.Proofs.YtlglbgemmljmlaaDoor
theorem slotApart_holds : Rows.SlotApartCardSaid :=
  Claim7.holds_tied_plain_at .later [] [.data] true (true, "40adc3c12ab53681c6efa58d90e9706687b78ee2b5749d2a36eac08db2e4b8d4") false
    slotApart.proved (fun _ h => by cases h) (by kernel_rfl) (fun _ h => by cases h) slotApart_row_tie rfl ⟨rfl, rfl⟩ (by kernel_rfl) rfl
    (fun g fn hf hfn => by
      obtain rfl : g = 7 := Option.some.inj ((show Tryd.prog.funcNamed "keepsake/keepsakelaw06.SlotApart" = some 7 by kernel_rfl).symm.trans hf) |>.symm
      obtain rfl : fn = Tryd.f7 := (Option.some.inj (Tryd.func7.symm.trans hfn)).symm
      exact ⟨by kernel_rfl, fun j t ht => by
        rw [Tryd.params7] at ht
        have hm : t ∈ [23, 27, 27, 5, 4, 5, 55] := by simpa using Array.mem_of_getElem? ht
        have hall : ([23, 27, 27, 5, 4, 5, 55].all fun u => !Tryd.prog.wantsStandIn u) = true := by kernel_rfl
        exact (show Tryd.prog.wantsStandIn t = false by simpa using List.all_eq_true.1 hall t hm)⟩)
    (by kernel_rfl)
#print axioms slotApart_holds
end Go.Proofs.YtlglbgemmljmlaaDoor
