/- PROVED: the contract of slot.at. No conditions beyond those that each theorem states. -/
import Derived.Test.YtcikhnkehglkgaaGreatDoorSlG
import Derived.Test.YtcikhnkehglkgaaGreatDoorSlD
import Derived.Test.YtcikhnkehglkgaaGreatDoorDkG
import Derived.Laws.EntriesVeiled
namespace Go.Proofs.YtcikhnkehglkgaaGreatDoor
open Go.RowKit Go.Proofs.YtcikhnkehglkgaaGreatDoorLib
set_option linter.unusedSimpArgs false
set_option linter.unusedVariables false

/-- a call whose contract holds in each world that has kept w0 -/
theorem callK {P : Program} {f : FuncId} {args : Array Value} {w0 W' : World} {Q : Ending → World → Prop} {R : Value → World → Prop} (H : ∀ W, Kept w0 W [] → Calls P f args W (Post W [] R)) (k : Kept w0 W' []) (h : ∀ v W, R v W → Kept w0 W [] → Q (.returned v) W) : Calls P f args W' Q :=
  (H W' k).mono fun _ W ⟨v, e, r, k2⟩ => e ▸ h v W r (k.trans k2 (by simp))
/-- why a call can't be made, or 0 -/
def atWhy (s : DiskS) (which e f g : Int) : Int :=
  if gRight e f g = false then 9 else if which < 0 ∨ 2 ≤ which ∨ s.size < 32 then 1 else if s.last.length < 2 * spanN s.size e f g then 4 else 0
abbrev placeV (many size : Nat) (p3 p9 : Nat) : Value := .agg #[.int .i64 many, .int .i64 size, .func (.func 102) #[] #[pt p3, pt p9], .func (.func 104) #[] #[pt p3, pt p9]]
/-- a slot's place lies -/
structure PlaceX (W : World) (lo b first p3 p9 : Nat) : Prop where
  b3 : Blk W p3 28 [pt b]
  b9 : Blk W p9 3 [.int .i64 first]
  l3 : lo ≤ p3
  l9 : lo ≤ p9
theorem PlaceX.kept {W W1 : World} {lo b first p3 p9 : Nat} {S : List Nat} (h : PlaceX W lo b first p3 p9) (hk : Kept W W1 S) (hS : ∀ g, g ∈ S → g < lo) : PlaceX W1 lo b first p3 p9 :=
  ⟨h.b3.kept hk (fun hm => by have := hS _ hm; have := h.l3; omega), h.b9.kept hk (fun hm => by have := hS _ hm; have := h.l9; omega), h.l3, h.l9⟩
theorem place4 {W : World} {g : Nat} {a0 a1 a2 a3 : Value} (h : Blk W g 124 [a0, a1, a2, a3]) (b0 b1 b2 b3 : Value) :
    Blk ((((W.setCell ⟨g, 0, none⟩ b0).setCell ⟨g, 1, none⟩ b1).setCell ⟨g, 2, none⟩ b2).setCell ⟨g, 3, none⟩ b3) g 124 [b0, b1, b2, b3] := by
  have hz := (((h.set 0 b0).set 1 b1).set 2 b2).set 3 b3
  simp only [List.set] at hz
  exact hz
theorem kept4 {w W : World} {S : List Nat} (h : Kept w W S) {g : Nat} (hg : g ∈ S ∨ w.heap.size ≤ g) (b0 b1 b2 b3 : Value) :
    Kept w ((((W.setCell ⟨g, 0, none⟩ b0).setCell ⟨g, 1, none⟩ b1).setCell ⟨g, 2, none⟩ b2).setCell ⟨g, 3, none⟩ b3) S :=
  (((h.setCell (p := ⟨g, 0, none⟩) hg _).setCell (p := ⟨g, 1, none⟩) hg _).setCell (p := ⟨g, 2, none⟩) hg _).setCell (p := ⟨g, 3, none⟩) hg _
set_option maxRecDepth 100000 in
set_option maxHeartbeats 1000000 in
theorem at_no (w : World) (hg : GeoLaid w) (b : Nat) (F : List Nat) (s : DiskS) (h : DiskAt w b F s) (which e f g : Int) (hw : atWhy s which e f g ≠ 0) :
    Calls Tryz.prog 74 #[pt b, .int .i64 which, .agg #[.int .i64 e, .int .i64 f, .int .i64 g]] w (Post w [] fun r W => r = .tuple #[.agg #[.int .i64 0, .int .i64 0, .nilFunc, .nilFunc], .int .i64 (atWhy s which e f g)]) := by
  obtain ⟨w0, hw0⟩ : ∃ w0, w0 = ((w.alloc (.cells #[pt b] 28)).alloc (.cells #[.int .i64 e, .int .i64 f, .int .i64 g] 23)).alloc (.cells #[.int .i64 0, .int .i64 0, .nilFunc, .nilFunc] 124) := ⟨_, rfl⟩
  have hb3 : Blk w0 w.heap.size 28 [pt b] := by rw [hw0]; exact ((Blk.new _ _ _).alloc _).alloc _
  have hb5 : Blk w0 (w.heap.size + 1) 23 [.int .i64 e, .int .i64 f, .int .i64 g] := by rw [hw0]; exact (Blk.top _ _ (by simp) _ _).alloc _
  have hb6 : Blk w0 (w.heap.size + 1 + 1) 124 [.int .i64 0, .int .i64 0, .nilFunc, .nilFunc] := by rw [hw0]; exact Blk.top _ _ (by simp) _ _
  have k0 : Kept w w0 [] := by rw [hw0]; exact (((Kept.refl w []).alloc _).alloc _).alloc _
  have HD := Lib.hid (h.kept k0 (by simp))
  have HG := Lib.hid (hg.kept k0 (by simp))
  have HR := Lib.hid (fun W (_ : Kept w0 W []) => right_any W e f g)
  have HSZ := Lib.hid (fun W (k : Kept w0 W []) => size_any W b F s (HD.out.kept k (by simp)))
  have HSE := Lib.hid (fun W (k : Kept w0 W []) => sectors_any W b F s (HD.out.kept k (by simp)))
  have HRM := Lib.hid (fun W (k : Kept w0 W []) => room_any W (HG.out.kept k (by simp)) s.size e f g)
  have q3 := hb3.cell 0 rfl
  have q50 := hb5.cell 0 rfl
  have q51 := hb5.cell 1 rfl
  have q52 := hb5.cell 2 rfl
  have HB6 := Lib.hid hb6
  have K0 := Lib.hid k0
  have kk0 : Kept w0 w0 [] := Kept.refl _ _
  obtain ⟨why, hwhy⟩ : ∃ x, atWhy s which e f g = x := ⟨_, rfl⟩
  rw [hwhy] at hw ⊢
  have HW := Lib.hid (And.intro hwhy hw)
  have hok := h.ok
  have hn1 := hok.n1
  have hs2 := hok.s2
  have hsp := spanN_le s.size e f g
  clear hw hwhy hb5 hb6 hb3 k0 hg h hok
  go_enter Tryz.func74, Tryz.ntmps74
  go_wp2_with fail
  rw [← hw0]
  refine callK HR.out kk0 ?_
  rintro _ w1 rfl k1
  have HRI : Hid (gRight e f g = gRight e f g ∧ True) := Lib.hid ⟨rfl, trivial⟩
  have r3 := k1.cell q3 (by simp)
  have r50 := k1.cell q50 (by simp)
  have r51 := k1.cell q51 (by simp)
  have r52 := k1.cell q52 (by simp)
  cases hr : gRight e f g
  · have hb6x := HB6.out.kept k1 (by simp)
    have u0 := hb6x.cell 0 rfl
    have f0 := hb6x.free 0
    have u1 := hb6x.cell 1 rfl
    have f1 := hb6x.free 1
    have u2 := hb6x.cell 2 rfl
    have f2 := hb6x.free 2
    have u3 := hb6x.cell 3 rfl
    have f3 := hb6x.free 3
    have HB6x := Lib.hid hb6x
    clear hb6x
    have HE : Hid (why = 9) := Lib.hid (by have h := HW.out.1; unfold atWhy at h; rw [if_pos hr] at h; exact h.symm)
    go_wp2_with fail
    refine bodyPost_ret (results_pair_row Tryz.results74 _ _ _ _ _ _ _ _ (by simp [go_sem]) (by simp [go_sem]; rfl) (place4 HB6x.out (.int .i64 0) (.int .i64 0) .nilFunc .nilFunc) Tryz.underlying124 rfl rfl) rfl ?_
    exact ⟨_, rfl, by show Value.tuple _ = _; rw [← HE.out], kept4 (K0.out.trans k1 (by simp)) (.inr (by omega)) _ _ _ _⟩
  have t0 : (which < 0) ∨ ¬ (which < 0) := by omega
  by_cases a1 : which < 0
  · have hb6x := HB6.out.kept k1 (by simp)
    have u0 := hb6x.cell 0 rfl
    have f0 := hb6x.free 0
    have u1 := hb6x.cell 1 rfl
    have f1 := hb6x.free 1
    have u2 := hb6x.cell 2 rfl
    have f2 := hb6x.free 2
    have u3 := hb6x.cell 3 rfl
    have f3 := hb6x.free 3
    have HB6x := Lib.hid hb6x
    clear hb6x
    have HE : Hid (why = 1) := Lib.hid (by have h := HW.out.1; unfold atWhy at h; rw [if_neg (by simp [hr]), if_pos (.inl a1)] at h; exact h.symm)
    go_wp2_with fail
    refine bodyPost_ret (results_pair_row Tryz.results74 _ _ _ _ _ _ _ _ (by simp [go_sem]) (by simp [go_sem]; rfl) (place4 HB6x.out (.int .i64 0) (.int .i64 0) .nilFunc .nilFunc) Tryz.underlying124 rfl rfl) rfl ?_
    exact ⟨_, rfl, by show Value.tuple _ = _; rw [← HE.out], kept4 (K0.out.trans k1 (by simp)) (.inr (by omega)) _ _ _ _⟩
  by_cases a2 : 2 ≤ which
  · have hb6x := HB6.out.kept k1 (by simp)
    have u0 := hb6x.cell 0 rfl
    have f0 := hb6x.free 0
    have u1 := hb6x.cell 1 rfl
    have f1 := hb6x.free 1
    have u2 := hb6x.cell 2 rfl
    have f2 := hb6x.free 2
    have u3 := hb6x.cell 3 rfl
    have f3 := hb6x.free 3
    have HB6x := Lib.hid hb6x
    clear hb6x
    have HE : Hid (why = 1) := Lib.hid (by have h := HW.out.1; unfold atWhy at h; rw [if_neg (by simp [hr]), if_pos (.inr (.inl a2))] at h; exact h.symm)
    go_wp2_with fail
    refine bodyPost_ret (results_pair_row Tryz.results74 _ _ _ _ _ _ _ _ (by simp [go_sem]) (by simp [go_sem]; rfl) (place4 HB6x.out (.int .i64 0) (.int .i64 0) .nilFunc .nilFunc) Tryz.underlying124 rfl rfl) rfl ?_
    exact ⟨_, rfl, by show Value.tuple _ = _; rw [← HE.out], kept4 (K0.out.trans k1 (by simp)) (.inr (by omega)) _ _ _ _⟩
  go_wp2_with fail
  refine callK HSZ.out k1 ?_
  rintro _ w2 rfl k2
  have s3 := k2.cell q3 (by simp)
  have s50 := k2.cell q50 (by simp)
  have s51 := k2.cell q51 (by simp)
  have s52 := k2.cell q52 (by simp)
  by_cases a3 : s.size < 32
  · have a3i : (s.size : Int) < 32 := by omega
    have hb6x := HB6.out.kept k2 (by simp)
    have u0 := hb6x.cell 0 rfl
    have f0 := hb6x.free 0
    have u1 := hb6x.cell 1 rfl
    have f1 := hb6x.free 1
    have u2 := hb6x.cell 2 rfl
    have f2 := hb6x.free 2
    have u3 := hb6x.cell 3 rfl
    have f3 := hb6x.free 3
    have HB6x := Lib.hid hb6x
    clear hb6x
    have HE : Hid (why = 1) := Lib.hid (by have h := HW.out.1; unfold atWhy at h; rw [if_neg (by simp [hr]), if_pos (.inr (.inr a3))] at h; exact h.symm)
    go_wp2_with fail
    refine bodyPost_ret (results_pair_row Tryz.results74 _ _ _ _ _ _ _ _ (by simp [go_sem]) (by simp [go_sem]; rfl) (place4 HB6x.out (.int .i64 0) (.int .i64 0) .nilFunc .nilFunc) Tryz.underlying124 rfl rfl) rfl ?_
    exact ⟨_, rfl, by show Value.tuple _ = _; rw [← HE.out], kept4 (K0.out.trans k2 (by simp)) (.inr (by omega)) _ _ _ _⟩
  have a4 : s.last.length < 2 * spanN s.size e f g := by
    by_cases a4 : s.last.length < 2 * spanN s.size e f g
    · exact a4
    · exfalso
      have h := HW.out.1
      unfold atWhy at h
      rw [if_neg (by simp [hr]), if_neg (by omega), if_neg a4] at h
      exact HW.out.2 h.symm
  have HE : Hid (why = 4) := Lib.hid (by have h := HW.out.1; unfold atWhy at h; rw [if_neg (by simp [hr]), if_neg (by omega), if_pos a4] at h; exact h.symm)
  have a4i : (s.last.length : Int) < ((2 * spanN s.size e f g : Nat) : Int) := by omega
  have a3i : (32 : Int) ≤ s.size := by omega
  have x3 : w2.drew.cell? ⟨w.heap.size, 0, none⟩ = some (pt b) := s3
  have x50 : w2.drew.cell? ⟨w.heap.size + 1, 0, none⟩ = some (.int .i64 e) := s50
  have x51 : w2.drew.cell? ⟨w.heap.size + 1, 1, none⟩ = some (.int .i64 f) := s51
  have x52 : w2.drew.cell? ⟨w.heap.size + 1, 2, none⟩ = some (.int .i64 g) := s52
  have k2d : Kept w0 w2.drew [] := k2.drew
  clear a4 hsp hr
  have HA4 := Lib.hid a4i
  generalize spanN s.size e f g = sp at *
  have d4 : decide ((s.last.length : Int) < ((2 * sp : Nat) : Int)) = true := by have := HA4.out; simp only [decide_eq_true_eq]; exact this
  go_wp2_with fail
  go_region_held3 (fun W => W.cell? ⟨w.heap.size, 0, none⟩ = some (pt b) ∧ W.cell? ⟨w.heap.size + 1, 0, none⟩ = some (.int .i64 e) ∧ W.cell? ⟨w.heap.size + 1, 1, none⟩ = some (.int .i64 f) ∧ W.cell? ⟨w.heap.size + 1, 2, none⟩ = some (.int .i64 g)) (first | (with_reducible exact ⟨x3, x50, x51, x52⟩) | (with_reducible exact ⟨y3, y50, y51, y52⟩) | go_keep) (first
    | (go_at_call 83
       refine callK HSE.out (by with_reducible assumption) ?_
       rintro _ wn rfl kn
       have y3 := kn.cell q3 (by simp)
       have y50 := kn.cell q50 (by simp)
       have y51 := kn.cell q51 (by simp)
       have y52 := kn.cell q52 (by simp))
    | (go_at_call 82
       refine callK HSZ.out (by with_reducible assumption) ?_
       rintro _ wn rfl kn
       have y3 := kn.cell q3 (by simp)
       have y50 := kn.cell q50 (by simp)
       have y51 := kn.cell q51 (by simp)
       have y52 := kn.cell q52 (by simp))
    | (go_at_call 84
       refine callK HRM.out (by with_reducible assumption) ?_
       rintro _ wn rfl kn
       have y3 := kn.cell q3 (by simp)
       have y50 := kn.cell q50 (by simp)
       have y51 := kn.cell q51 (by simp)
       have y52 := kn.cell q52 (by simp)))
  all_goals (
    have hb6x := HB6.out.kept kn (by simp)
    have u0 := hb6x.cell 0 rfl
    have f0 := hb6x.free 0
    have u1 := hb6x.cell 1 rfl
    have f1 := hb6x.free 1
    have u2 := hb6x.cell 2 rfl
    have f2 := hb6x.free 2
    have u3 := hb6x.cell 3 rfl
    have f3 := hb6x.free 3
    have HB6x := Lib.hid hb6x
    clear hb6x
    go_wp2_with fail
    refine bodyPost_ret (results_pair_row Tryz.results74 _ _ _ _ _ _ _ _ (by simp [go_sem]) (by simp [go_sem]; rfl) (place4 HB6x.out (.int .i64 0) (.int .i64 0) .nilFunc .nilFunc) Tryz.underlying124 rfl rfl) rfl ?_
    exact ⟨_, rfl, by show Value.tuple _ = _; rw [← HE.out], kept4 (K0.out.trans kn (by simp)) (.inr (by omega)) _ _ _ _⟩)
end Go.Proofs.YtcikhnkehglkgaaGreatDoor
