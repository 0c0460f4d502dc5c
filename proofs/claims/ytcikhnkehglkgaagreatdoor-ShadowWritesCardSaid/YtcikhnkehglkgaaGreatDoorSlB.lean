/- PROVED: the contract of slot.at where a call can be made, and of the place's own read and write. No conditions beyond those that each theorem states. -/
import Derived.Test.YtcikhnkehglkgaaGreatDoorSlA
import Derived.Deep.CutRange
namespace Go.Proofs.YtcikhnkehglkgaaGreatDoor
open Go.RowKit Go.Proofs.YtcikhnkehglkgaaGreatDoorLib
set_option linter.unusedSimpArgs false
set_option linter.unusedVariables false

theorem far4 {W : World} {p T g : Nat} {L : List Value} (h : Blk W p T L) (hp : p ≠ g) (b0 b1 b2 b3 : Value) :
    Blk ((((W.setCell ⟨g, 0, none⟩ b0).setCell ⟨g, 1, none⟩ b1).setCell ⟨g, 2, none⟩ b2).setCell ⟨g, 3, none⟩ b3) p T L :=
  (((h.far (p := ⟨g, 0, none⟩) hp _).far (p := ⟨g, 1, none⟩) hp _).far (p := ⟨g, 2, none⟩) hp _).far (p := ⟨g, 3, none⟩) hp _
theorem atWhy_yes {s : DiskS} {which e f g : Int} (h : atWhy s which e f g = 0) : gRight e f g = true ∧ (0 ≤ which ∧ which < 2) ∧ 32 ≤ s.size ∧ 2 * spanN s.size e f g ≤ s.last.length := by
  unfold atWhy at h
  by_cases h1 : gRight e f g = false
  · rw [if_pos h1] at h; cases h
  rw [if_neg h1] at h
  by_cases h2 : which < 0 ∨ 2 ≤ which ∨ s.size < 32
  · rw [if_pos h2] at h; cases h
  rw [if_neg h2] at h
  by_cases h3 : s.last.length < 2 * spanN s.size e f g
  · rw [if_pos h3] at h; cases h
  exact ⟨by simpa using h1, by omega, by omega, by omega⟩
theorem spanN_pos {s : DiskS} (hs : s.size ≤ 4096) {which e f g : Int} (h : atWhy s which e f g = 0) : 1 ≤ spanN s.size e f g := by
  obtain ⟨h1, _, h2, _⟩ := atWhy_yes h
  unfold spanN
  rw [if_pos ⟨h1, by omega, by omega⟩]
  omega
set_option maxRecDepth 100000 in
set_option maxHeartbeats 2000000 in
theorem at_yes (w : World) (hg : GeoLaid w) (b : Nat) (F : List Nat) (s : DiskS) (h : DiskAt w b F s) (which e f g : Int) (hw : atWhy s which e f g = 0) :
    Calls Tryz.prog 74 #[pt b, .int .i64 which, .agg #[.int .i64 e, .int .i64 f, .int .i64 g]] w (Post w [] fun r W => ∃ p3 p9, r = .tuple #[placeV (spanN s.size e f g - 1) s.size p3 p9, .int .i64 0] ∧ PlaceX W w.heap.size b (which.toNat * spanN s.size e f g) p3 p9) := by
  obtain ⟨hr, ⟨wh0, wh1⟩, hsz, hrm⟩ := atWhy_yes hw
  have hsp1 := spanN_pos h.ok.s2 hw
  obtain ⟨w0, hw0⟩ : ∃ w0, w0 = ((w.alloc (.cells #[pt b] 28)).alloc (.cells #[.int .i64 e, .int .i64 f, .int .i64 g] 23)).alloc (.cells #[.int .i64 0, .int .i64 0, .nilFunc, .nilFunc] 124) := ⟨_, rfl⟩
  have hb3 : Blk w0 w.heap.size 28 [pt b] := by rw [hw0]; exact ((Blk.new _ _ _).alloc _).alloc _
  have hb5 : Blk w0 (w.heap.size + 1) 23 [.int .i64 e, .int .i64 f, .int .i64 g] := by rw [hw0]; exact (Blk.top _ _ (by simp) _ _).alloc _
  have hb6 : Blk w0 (w.heap.size + 1 + 1) 124 [.int .i64 0, .int .i64 0, .nilFunc, .nilFunc] := by rw [hw0]; exact Blk.top _ _ (by simp) _ _
  have k0 : Kept w w0 [] := by rw [hw0]; exact (((Kept.refl w []).alloc _).alloc _).alloc _
  have HD := Lib.hid (h.kept k0 (by simp))
  have HG := Lib.hid (hg.kept k0 (by simp))
  have HR := Lib.hid (fun W (_ : Kept w0 W []) => right_any W e f g)
  have HSZ := Lib.hid (fun W (k : Kept w0 W []) => size_any W b F s (HD.out.kept k (by simp)))
  have HSE := Lib.hid (fun W (k : Kept w0 W []) => sectors_any W b F s (HD.out.kept k (by simp)))
  have HRM := Lib.hid (fun W (k : Kept w0 W []) => room_any W (HG.out.kept k (by simp)) s.size e f g)
  have q3 := hb3.cell 0 rfl
  have q50 := hb5.cell 0 rfl
  have q51 := hb5.cell 1 rfl
  have q52 := hb5.cell 2 rfl
  have HB6 := Lib.hid hb6
  have K0 := Lib.hid k0
  have kk0 : Kept w0 w0 [] := Kept.refl _ _
  have HSP := Lib.hid (fun W (k : Kept w0 W []) => span_any W (HG.out.kept k (by simp)) s.size e f g)
  have HD3 := Lib.hid hb3
  have hok := h.ok
  have hn1 := hok.n1
  have hs2 := hok.s2
  have hsp := spanN_le s.size e f g
  rw [hr] at HR
  obtain ⟨wn', hwn⟩ := Int.eq_ofNat_of_zero_le wh0
  subst hwn
  have hpr : ((wn' : Int) * (spanN s.size e f g : Int)) = ((wn' * spanN s.size e f g : Nat) : Int) := by simp
  have hpl : wn' * spanN s.size e f g ≤ 100001 := by
    have h1 : wn' * spanN s.size e f g ≤ 1 * spanN s.size e f g := Nat.mul_le_mul_right _ (by omega)
    omega
  rw [show ((wn' : Int)).toNat = wn' from rfl]
  have mk := @mkf
  clear hw hb5 hb6 hb3 k0 hg h hok hr wh0
  obtain ⟨sn, hsn⟩ : ∃ sn, s.last.length = sn := ⟨_, rfl⟩
  have a2 : ¬ (2 ≤ (wn' : Int)) := by omega
  have a1 : (0 : Int) ≤ wn' := by omega
  have a3i : (32 : Int) ≤ s.size := by omega
  have a4i : ((2 * spanN s.size e f g : Nat) : Int) ≤ (s.last.length : Int) := by omega
  generalize spanN s.size e f g = sp at *
  generalize wn' * sp = fst at *
  have d4 : decide ((s.last.length : Int) < ((2 * sp : Nat) : Int)) = false := by simp only [decide_eq_false_iff_not]; omega
  have d5 : 2 * (sp : Int) ≤ (s.last.length : Int) := by omega
  have d6 : decide ((s.last.length : Int) < 2 * (sp : Int)) = false := by simp only [decide_eq_false_iff_not]; omega
  have d7 : decide (s.last.length < 2 * sp) = false := by simp only [decide_eq_false_iff_not]; omega
  have d8 : 2 * sp ≤ s.last.length := by omega
  have sp0 : (1 : Int) ≤ sp := by omega
  have sp1 : (sp : Int) ≤ 100001 := by omega
  have sp2 : ((sp : Nat) : Int) - 1 = ((sp - 1 : Nat) : Int) := by omega
  have fs0 : (0 : Int) ≤ fst := by omega
  have fs1 : (fst : Int) ≤ 100001 := by omega
  have HSP2 := Lib.hid sp2
  clear hrm hsp hsp1 hpl hsn a4i sp2
  go_enter Tryz.func74, Tryz.ntmps74
  go_wp2_with fail
  rw [← hw0]
  refine callK HR.out kk0 ?_
  rintro _ w1 rfl k1
  have r3 := k1.cell q3 (by simp)
  go_wp2_with fail
  refine callK HSZ.out k1 ?_
  rintro _ w2 rfl k2
  have x3 : w2.drew.cell? ⟨w.heap.size, 0, none⟩ = some (pt b) := k2.cell q3 (by simp)
  have x50 : w2.drew.cell? ⟨w.heap.size + 1, 0, none⟩ = some (.int .i64 e) := k2.cell q50 (by simp)
  have x51 : w2.drew.cell? ⟨w.heap.size + 1, 1, none⟩ = some (.int .i64 f) := k2.cell q51 (by simp)
  have x52 : w2.drew.cell? ⟨w.heap.size + 1, 2, none⟩ = some (.int .i64 g) := k2.cell q52 (by simp)
  have k2d : Kept w0 w2.drew [] := k2.drew
  go_wp2_with fail
  go_region_held3 (fun W => W.cell? ⟨w.heap.size, 0, none⟩ = some (pt b) ∧ W.cell? ⟨w.heap.size + 1, 0, none⟩ = some (.int .i64 e) ∧ W.cell? ⟨w.heap.size + 1, 1, none⟩ = some (.int .i64 f) ∧ W.cell? ⟨w.heap.size + 1, 2, none⟩ = some (.int .i64 g)) (first | (with_reducible exact ⟨x3, x50, x51, x52⟩) | (with_reducible exact ⟨y3, y50, y51, y52⟩) | go_keep) (first
      | (go_at_call 83
         refine callK HSE.out (by with_reducible assumption) ?_
         rintro _ wn rfl kn
         have y3 := kn.cell q3 (by simp)
         have y50 := kn.cell q50 (by simp)
         have y51 := kn.cell q51 (by simp)
         have y52 := kn.cell q52 (by simp))
      | (go_at_call 82
         refine callK HSZ.out (by with_reducible assumption) ?_
         rintro _ wn rfl kn
         have y3 := kn.cell q3 (by simp)
         have y50 := kn.cell q50 (by simp)
         have y51 := kn.cell q51 (by simp)
         have y52 := kn.cell q52 (by simp))
      | (go_at_call 84
         refine callK HRM.out (by with_reducible assumption) ?_
         rintro _ wn rfl kn
         have y3 := kn.cell q3 (by simp)
         have y50 := kn.cell q50 (by simp)
         have y51 := kn.cell q51 (by simp)
         have y52 := kn.cell q52 (by simp)))
  all_goals (
    go_upto_region 7 with fail
    refine open_world (fun W => Kept w0 W []) kn ?_
    clear y3 y50 y51 y52 kn x3 x50 x51 x52 k2d k2 k1 r3
    intro w3 k3
    have x3 : w3.drew.cell? ⟨w.heap.size, 0, none⟩ = some (pt b) := k3.cell q3 (by simp)
    have x50 : w3.drew.cell? ⟨w.heap.size + 1, 0, none⟩ = some (.int .i64 e) := k3.cell q50 (by simp)
    have x51 : w3.drew.cell? ⟨w.heap.size + 1, 1, none⟩ = some (.int .i64 f) := k3.cell q51 (by simp)
    have x52 : w3.drew.cell? ⟨w.heap.size + 1, 2, none⟩ = some (.int .i64 g) := k3.cell q52 (by simp)
    have k3d : Kept w0 w3.drew [] := k3.drew
    go_region_held3 (fun W => W.cell? ⟨w.heap.size, 0, none⟩ = some (pt b) ∧ W.cell? ⟨w.heap.size + 1, 0, none⟩ = some (.int .i64 e) ∧ W.cell? ⟨w.heap.size + 1, 1, none⟩ = some (.int .i64 f) ∧ W.cell? ⟨w.heap.size + 1, 2, none⟩ = some (.int .i64 g)) (first | (with_reducible exact ⟨x3, x50, x51, x52⟩) | (with_reducible exact ⟨y3, y50, y51, y52⟩) | go_keep) (first
        | (go_at_call 82
           refine callK HSZ.out (by with_reducible assumption) ?_
           rintro _ wn rfl kn
           have y3 := kn.cell q3 (by simp)
           have y50 := kn.cell q50 (by simp)
           have y51 := kn.cell q51 (by simp)
           have y52 := kn.cell q52 (by simp))
        | (go_at_call 101
           refine callK HSP.out (by with_reducible assumption) ?_
           rintro _ wn rfl kn
           have y3 := kn.cell q3 (by simp)
           have y50 := kn.cell q50 (by simp)
           have y51 := kn.cell q51 (by simp)
           have y52 := kn.cell q52 (by simp)))
    all_goals (
      have kna := kn.alloc (.cells #[.int .i64 fst] 3)
      have hbn := Blk.new wn 3 [.int .i64 fst]
      have HBN := Lib.hid hbn
      have z3 := kna.cell q3 (by simp)
      have KN := Lib.hid kn
      clear y3 y50 y51 y52 x3 x50 x51 x52 k3d k3 hbn kn
      go_wp2_with fail
      have HSZ2 := Lib.hid (HSZ.out _ kna)
      clear kna
      refine HSZ2.out.mono ?_
      rintro _ w5 ⟨_, rfl, rfl, k5⟩
      have K5 := Lib.hid ((KN.out.alloc _).trans k5 (by simp))
      have hb9 := HBN.out.kept k5 (by simp)
      have HB9 := Lib.hid hb9
      have hb6x := HB6.out.kept K5.out (by simp)
      have u0 := hb6x.cell 0 rfl
      have f0 := hb6x.free 0
      have u1 := hb6x.cell 1 rfl
      have f1 := hb6x.free 1
      have u2 := hb6x.cell 2 rfl
      have f2 := hb6x.free 2
      have u3 := hb6x.cell 3 rfl
      have f3 := hb6x.free 3
      have HB6x := Lib.hid hb6x
      clear hb6x
      clear k5 hb9 HSZ2 z3
      go_wp2_with fail
      refine bodyPost_ret (results_pair_row Tryz.results74 _ _ _ _ _ _ _ _ (by simp [go_sem]) (by simp [go_sem]; rfl) (place4 HB6x.out _ _ _ _) Tryz.underlying124 rfl rfl) rfl ?_
      refine ⟨_, rfl, ⟨w.heap.size, wn.heap.size, by show Value.tuple _ = Value.tuple _; rw [HSP2.out], ?_⟩, kept4 (K0.out.trans K5.out (by simp)) (.inr (by omega)) _ _ _ _⟩
      have hne1 : w.heap.size ≠ w.heap.size + 1 + 1 := by omega
      have hsz0 : w.heap.size + 1 + 1 < w0.heap.size := HB6.out.lt
      have hsn0 : w0.heap.size ≤ wn.heap.size := KN.out.size
      exact ⟨far4 (HD3.out.kept K5.out (by simp)) hne1 _ _ _ _, far4 HB9.out (by omega) _ _ _ _, Nat.le_refl _, by omega⟩))
end Go.Proofs.YtcikhnkehglkgaaGreatDoor
