/- PROVED: SlotBytes: what any bytes on a disk are as slots is as the document says. -/
import Derived.Test.YtcbngmfbbdmlgaaDoorRows
import Derived.Test.YtcbngmfbbdmlgaaDoorSlBy
import Derived.Test.YtcbngmfbbdmlgaaDoorArg
import Derived.Test.YtcbngmfbbdmlgaaDoorSlArg
import Derived.WalkKit
import Derived.ProofKit
import Derived.OpenShut
import Derived.ShutString
import Derived.ChangeOld
import Derived.Below
import Derived.SizedLaws
import Derived.Carry
import Derived.Test.YtcbngmfbbdmlgaaDoorLaid
import Derived.Test.YtcbngmfbbdmlgaaDoorTie
import Derived.Test.YtcbngmfbbdmlgaaDoorCards
import Derived.SevenTiedAt
import Derived.OpenVars
import Derived.LaidMore
import Derived.Lay
import Derived.LaidOnce
namespace Go.Proofs.YtcbngmfbbdmlgaaDoor.slotBytes
open Go.ChangeShapes Go.WideShapes Go.ChangeAt Go.RowKit Go.Proofs.YtcbngmfbbdmlgaaDoorLib
open Go.ChangeMaps (open_string shut_string)
set_option linter.unusedVariables false
theorem own : ownKnob Tryd.prog.godebug = none := by kernel_rfl
theorem laidOut : laidOutB Tryd.prog = true := by kernel_rfl
set_option maxRecDepth 100000 in
theorem lifted (os : Os) (started : os.Started) (H : Type) (enc : TypeId × Value → H) :
    ReturnsInHanded {} Tryd.checked os 4 .any (fun w args => (Rows.slotBytesSpec.pre enc Tryd.prog Tryd.f4 [] false w args ∧ laidMetH Tryd.prog laidL w) ∧ sizedMet enc Tryd.prog Tryd.f4 (OpenSpec.ofChange Rows.slotBytesSpec) false w args) (Rows.slotBytesSpec.post enc Tryd.prog Tryd.f4 false true false false) := by
  refine returnsInHanded_of_change_and (C := Tryd.checked) (X := fun w _ => laidMetH Tryd.prog laidL w) (fun _ _ _ hh h => h.of_heap hh) own started (by kernel_rfl) Tryd.func4
    (ChangeSpec.witness_shaped (enc := enc) (C := Tryd.checked) (os := os) (X := fun w _ => laidMetH Tryd.prog laidL w) false (World.laidAll Tryd.prog os laidL) #[.slice none 0 0, .int .u8 0, .int .i64 0, .agg #[.int .i64 0, .int .i64 0, .int .i64 0]] 12 (World.laidAll_os _ _ _) (World.shaped_of_ZipB (by kernel_rfl) (by kernel_rfl)) (by kernel_rfl) (by kernel_rfl) (by kernel_rfl)
      (by rw [MakeChecks.laidMetH_plain _ _ _ (by kernel_rfl)]; exact laidMet_laidAll _ (by kernel_rfl) (by kernel_rfl))) ?_
  intro W base args ds gs before hval0 hW hcnd hsz0 hL _
  have hval : ∀ (j : Nat) t v, Tryd.f4.params[j]? = some t → args[j]? = some v → Value.okWide Tryd.prog W .any base t v := hval0
  have hW' := hW
  obtain ⟨p, q, hA0, hV, rfl, hfz, hnd⟩ := hW
  have hA : DataW.TrodAll enc Tryd.prog W 0 (fun _ => true) true Tryd.f4.params.toList args.toList ds p := hA0
  rw [Tryd.params4] at hA hval
  obtain ⟨v0, vs0, d0, ds0, p0, q0, hargs, rfl, rfl, h0, r0⟩ := trodAll_cons hA
  obtain ⟨v1, vs1, d1, ds1, p1, q1, rfl, rfl, rfl, h1, r1⟩ := trodAll_cons r0
  obtain ⟨v2, vs2, d2, ds2, p2, q2, rfl, rfl, rfl, h2, r2⟩ := trodAll_cons r1
  obtain ⟨v3, vs3, d3, ds3, p3, q3, rfl, rfl, rfl, h3, r3⟩ := trodAll_cons r2
  obtain ⟨rfl, rfl, rfl⟩ := trodAll_nil r3
  obtain rfl : args = #[v0, v1, v2, v3] := by cases args; simp_all
  obtain ⟨rfl, rfl⟩ := trodVars_none hV
  have k0 := h0
  have lt0 : ∀ x ∈ p0, x.block < W.heap.size := by obtain ⟨m, hm⟩ := k0; exact DataW.trod_lt m _ _ _ hm
  obtain ⟨b0, len0, cap0, e0⟩ := okWide_slice Tryd.underlying27 (hval 0 _ v0 rfl rfl)
  obtain ⟨z0, x0, g0, s0⟩ := Rds.slice (K := Byte1) Tryd.underlying27 (by kernel_rfl : Tryd.prog.cellsOf 5 = 1) (fun cs h => K_byte h) (by decide) (Rds.of_trod h0)
  obtain rfl : v0 = z0 := by rw [e0] at g0 ⊢; simpa [Value.cells] using g0
  clear e0 g0
  have k1 := h1
  have lt1 : ∀ x ∈ p1, x.block < W.heap.size := by obtain ⟨m, hm⟩ := k1; exact DataW.trod_lt m _ _ _ hm
  obtain ⟨a1, rfl, rfl, rfl, w1⟩ := open_int Tryd.underlying5 (hval 1 _ v1 rfl rfl) h1
  obtain ⟨l1, u1⟩ := wf_u8 w1
  have k2 := h2
  have lt2 : ∀ x ∈ p2, x.block < W.heap.size := by obtain ⟨m, hm⟩ := k2; exact DataW.trod_lt m _ _ _ hm
  obtain ⟨a2, rfl, rfl, rfl, w2⟩ := open_int Tryd.underlying3 (hval 2 _ v2 rfl rfl) h2
  obtain ⟨l2, u2⟩ := wf_i64 w2
  have k3 := h3
  have lt3 : ∀ x ∈ p3, x.block < W.heap.size := by obtain ⟨m, hm⟩ := k3; exact DataW.trod_lt m _ _ _ hm
  obtain ⟨cs3, e3, _⟩ := okWide_struct Tryd.underlying23 (hval 3 _ v3 rfl rfl)
  obtain ⟨x3, g3, s3⟩ := Geom.of e3 (Rds.of_trod h3)
  clear e3
  subst g3
  clear hA0 hval0 hsz0
  refine (SlotBytes_walk W (geo_of_laid hL) v0 x0 a1 a2 x3.1 x3.2.1 x3.2.2 s0 l1 u1).mono fun e W' ⟨he, bel⟩ => ?_
  subst he
  exact ⟨_, rfl, _, _, _, [], _, [], hW', trodAll_mk1 (shut_bool Tryd.underlying4 _), (trodAll_cons_mk (Below.trod laidOut (by kernel_rfl) (of_decide_eq_true (by kernel_rfl)) k0 bel lt0) (trodAll_cons_mk (Below.trod laidOut (by kernel_rfl) (of_decide_eq_true (by kernel_rfl)) k1 bel lt1) (trodAll_cons_mk (Below.trod laidOut (by kernel_rfl) (of_decide_eq_true (by kernel_rfl)) k2 bel lt2) (trodAll_cons_mk (Below.trod laidOut (by kernel_rfl) (of_decide_eq_true (by kernel_rfl)) k3 bel lt3) trodAll_mk0)))), rfl, bel.frame _, fun h => by cases h⟩
theorem over : Rows.slotBytesRow.holds Tryd.pinned (OpenSpec.ofChange Rows.slotBytesSpec) :=
  OpenClaim.holds_of_wide 4 Tryd.f4 rfl rfl rfl rfl rfl rfl rfl ⟨rfl, rfl, rfl, rfl, rfl⟩ rfl rfl rfl rfl rfl (by kernel_rfl) Tryd.func4 (by kernel_rfl)
    (of_decide_eq_true (by kernel_rfl)) (by unfold Func.isWrapper; first | (rw [if_pos (by decide +kernel)]; kernel_rfl) | (rw [if_neg (by decide +kernel)]; exact ⟨rfl, rfl⟩))
    (fun os started H enc _ => lifted os started H enc)
theorem proved : Rows.SlotBytesSaid := over
end Go.Proofs.YtcbngmfbbdmlgaaDoor.slotBytes
namespace Go.Proofs.YtcbngmfbbdmlgaaDoor
theorem slotBytes_holds : Rows.SlotBytesCardSaid :=
  Claim7.holds_tied_plain_at .later [] [.data] true (true, "40adc3c12ab53681c6efa58d90e9706687b78ee2b5749d2a36eac08db2e4b8d4") false
    slotBytes.proved (fun _ h => by cases h) (by kernel_rfl) (fun _ h => by cases h) slotBytes_row_tie rfl ⟨rfl, rfl⟩ (by kernel_rfl) rfl
    (fun g fn hf hfn => by
      obtain rfl : g = 4 := Option.some.inj ((show Tryd.prog.funcNamed "keepsake/keepsakelaw06.SlotBytes" = some 4 by kernel_rfl).symm.trans hf) |>.symm
      obtain rfl : fn = Tryd.f4 := (Option.some.inj (Tryd.func4.symm.trans hfn)).symm
      exact ⟨by kernel_rfl, fun j t ht => by
        rw [Tryd.params4] at ht
        have hm : t ∈ [27, 5, 3, 23] := by simpa using Array.mem_of_getElem? ht
        have hall : ([27, 5, 3, 23].all fun u => !Tryd.prog.wantsStandIn u) = true := by kernel_rfl
        exact (show Tryd.prog.wantsStandIn t = false by simpa using List.all_eq_true.1 hall t hm)⟩)
    (by kernel_rfl)
#print axioms slotBytes_holds
end Go.Proofs.YtcbngmfbbdmlgaaDoor
