/- PROVED: Cut of a chip where nothing waits. No conditions beyond those that each theorem states. -/
import Derived.RangeFuncFrom
import Derived.RangeFuncBox
import Derived.RangeFuncLeaves
import Derived.Shelf.Abstract
import Derived.WalkKit
import Derived.OwnWalkIn
import Derived.TacticsInMore
import Derived.LoopNIn
import Derived.LoopIn
import Derived.Test.YtdpiaibjpaalhaaDoorEpWb
namespace Go.Proofs.YtdpiaibjpaalhaaDoor
open Go.RowKit Go.Proofs.YtdpiaibjpaalhaaDoorLib Go.WideElems Go.Maps Go.Shelf
set_option linter.unusedSimpArgs false
set_option linter.unusedVariables false
attribute [local go_sem] Oper.semAt_some

theorem values_any (A : Option Addr) (n c : Nat) (w : World) :
    Calls Tryd.prog 68 #[.slice A n c] w fun e w' => e = .returned (.func (.func 81) #[] #[.pointer (some ⟨w.heap.size, 0, none⟩)]) ∧ w' = w.alloc (.cells #[.slice A n c] 55) := by
  go_enter Tryd.func68, Tryd.ntmps68
  go_wp2_with fail
  go_ret
  exact ⟨rfl, rfl⟩
set_option maxRecDepth 100000 in
set_option maxHeartbeats 1000000 in
theorem values1_none (n l Bs c : Nat) (A : Option Addr) (J : List Int → World → Prop) (W : World) (hBs : W.cell? ⟨Bs, 0, none⟩ = some (.slice A 0 c)) (h0 : J [] W) :
    CallsIn Fence.wide n Tryd.prog 81 #[.func (.yield l) #[] #[], .pointer (some ⟨Bs, 0, none⟩)] W fun e W' => (∃ v, e = .returned v) ∧ J [] W' := by
  refine callsIn_of_wp Tryd.func81 rfl trivial ?_ rfl
  simp only [Tryd.ntmps81, List.size_toArray, List.length_cons, List.length_nil, Nat.reduceAdd, Nat.reduceSub, Array.replicate_succ, Array.replicate_zero, List.push_toArray, List.append_toArray, List.nil_append, List.cons_append]
  gi_wp2
  gi_loopw [7] (fun i wr => i = .int .i64 0 ∧ J [] wr) (fun _ _ => 0)
  case atStart => exact ⟨rfl, h0⟩
  case round =>
    obtain ⟨rfl, hJs⟩ := hrel
    gi_wp2
    go_end0
    exact ⟨⟨_, rfl⟩, hJs⟩
theorem values_stops (n Bs c : Nat) (A : Option Addr) (Kp : World → World → Prop) (w : World) (hBs : Bs < w.heap.size) (hc : w.cell? ⟨Bs, 0, none⟩ = some (.slice A 0 c)) :
    SeqStopsK Fence.wide n Tryd.prog 81 #[.pointer (some ⟨Bs, 0, none⟩)] (fun x : Int => #[Value.int .i64 x]) Kp (fun ys => ys = []) (fun _ => False) 0 w := fun l J Jx W hW _ _ hY h0 => by
  have hc' := (hW.cell (p := ⟨Bs, 0, none⟩) hBs).trans hc
  exact (values1_none n l Bs c A J W hc' h0).mono fun e W' ⟨he, hj⟩ => ⟨he, .inl ⟨_, rfl, hj⟩⟩
set_option maxRecDepth 100000 in
set_option maxHeartbeats 2000000 in
theorem picked_none (w : World) (Bs c n3 c3 : Nat) (A A3 : Option Addr) (v : Value) (b off : Nat) (l : List Int) (hs : Sl .u8 w v b off l) (hl : l.length ≤ 1000000) (hBs : Bs < w.heap.size) (hc : w.cell? ⟨Bs, 0, none⟩ = some (.slice A 0 c)) :
    Calls Tryd.prog 67 #[v, .func (.func 81) #[] #[.pointer (some ⟨Bs, 0, none⟩)], .slice A3 n3 c3] w (Post w [] fun r W => Go.Proofs.YtdpiaibjpaalhaaDoorLib.Own 5 .u8 W w.heap.size r l) := by
  obtain ⟨A1, c1, rfl⟩ := hs.form
  have HS := Lib.hid hs
  have HC := Lib.hid hc
  have HCL := Lib.hid (fun w1 hs1 => clone_any w1 (.slice A1 l.length c1) b off l hs1 (by omega))
  have HB := Lib.hid hBs
  have cC : CallsIn Fence.wide 5 Tryd.prog 39 #[.slice A1 l.length c1] (w.alloc (.cells #[.slice A3 n3 c3] 22)) (Post (w.alloc (.cells #[.slice A3 n3 c3] 22)) [] fun r W => Go.Proofs.YtdpiaibjpaalhaaDoorLib.Own 5 .u8 W (w.alloc (.cells #[.slice A3 n3 c3] 22)).heap.size r l) :=
    (callsIn_wide (n := 5)).2 (HCL.out _ (HS.out.kept ((Kept.refl w []).alloc _) (.inr (by simp))))
  have hfC : Fence.wide.fn 39 := trivial
  replace cC := Lib.hid cC
  clear hs hc hBs HCL
  refine (callsIn_wide (n := 6)).1 ?_
  refine callsIn_of_wp_marks Tryd.func67 rfl trivial ?_ rfl
  simp only [Tryd.ntmps67, List.size_toArray, List.length_cons, List.length_nil, Nat.reduceAdd, Nat.reduceSub, Array.replicate_succ, Array.replicate_zero, List.push_toArray, List.append_toArray, List.nil_append, List.cons_append]
  gi_wp2_with (gi_at_call 39; refine cC.out.mono ?_; rintro _ w1 ⟨v1, rfl, hv, k⟩; obtain ⟨bv, hsv, _⟩ := hv.sl; obtain ⟨Av, cv, rfl⟩ := hsv.form)
  obtain ⟨W0, hW0⟩ : ∃ W0, w1.alloc (.cells #[.slice Av l.length cv] 22) = W0 := ⟨_, rfl⟩
  rw [hW0]
  have KA : Kept w w1 [] := ((Kept.refl w []).alloc _).trans k (by simp)
  have hcell : W0.cell? ⟨w1.heap.size, 0, none⟩ = some (.slice Av l.length cv) := by rw [← hW0]; exact (Blk.new w1 _ _).cell 0 rfl
  have hown : Go.Proofs.YtdpiaibjpaalhaaDoorLib.Own 5 .u8 W0 w.heap.size (.slice Av l.length cv) l := by rw [← hW0]; exact Go.Proofs.YtdpiaibjpaalhaaDoorLib.Own.mono (hv.kept (S := []) ((Kept.refl w1 []).alloc _) (fun g hg hm => by simp at hm)) (by simp)
  have hkept : Kept w W0 [] := by rw [← hW0]; exact KA.trans ((Kept.refl w1 []).alloc _) (by simp)
  have hbox : W0.cell? ⟨Bs, 0, none⟩ = some (.slice A 0 c) := hkept.cell HC.out (by simp)
  have hblt : Bs < W0.heap.size := Nat.lt_of_lt_of_le HB.out hkept.size
  refine wpIn_rangeFunc_ownF rfl (by omega) (gf := 81) (lb := #[.pointer (some ⟨Bs, 0, none⟩)]) rfl trivial (enters_of Tryd.func81 (by kernel_rfl) rfl)
    (values_stops 5 Bs c A KeepsWalks W0 hblt hbox) walksK_t walksK_b (Below.refl _ _) (fun _ => rfl)
    (fun pre W => W.cell? ⟨w1.heap.size, 0, none⟩ = some (.slice Av l.length cv) ∧ Below W0.heap.size W0 W) (fun c pre W => False) ?hI ?hIx ⟨hcell, Below.refl _ _⟩ ?a1 ?assign ?body ?done ?stop
  case hI => exact OwnFrom.and (Go.Own.from (fun s A B row hs hg hr => cell_kept hs hg hr) _) (ownFrom_below (Nat.le_refl _) (by omega))
  case hIx => exact fun c => fun s W W' row hs hg hr => hs
  case assign =>
    intro l x W K hK
    gi_wp2
    exact hK
  case body => intro l pre x W _ h; exact absurd h (by simp)
  case stop => intro D c pre W _ h; exact h.elim
  case done =>
    rintro D xs W hD rfl ⟨hcl, hbl⟩ hK
    gi_wp2
    have hbe := hbl.trans (belowK_b (w := W0) (Nat.le_refl _) W D _ (.deferred none) hD hK rfl rfl)
    have hke : Kept W0 (W.putObj D (.deferred none)) [] := Kept.of_below (S := []) hbe
    refine ⟨by simp, .inl ⟨_, _, rfl, run_takeDeferred hK, ?_⟩⟩
    exact ⟨_, results_tmp rfl _ _ _, _, rfl, hown.kept (S := []) hke (fun g hg hm => by simp at hm), hkept.trans hke (by simp)⟩
theorem cells_none (w : World) (n3 c c3 : Nat) (A A3 : Option Addr) (v : Value) (b off : Nat) (l : List Int) (hs : Sl .u8 w v b off l) (hl : l.length ≤ 1000000) :
    Calls Tryd.prog 53 #[v, .slice A 0 c, .slice A3 n3 c3] w (Post w [] fun r W => Go.Proofs.YtdpiaibjpaalhaaDoorLib.Own 5 .u8 W w.heap.size r l) := by
  obtain ⟨A1, c1, rfl⟩ := hs.form
  have HS := Lib.hid hs
  clear hs
  go_enter Tryd.func53, Tryd.ntmps53
  go_wp2_with fail
  refine (values_any A 0 c _).mono ?_
  rintro _ _ ⟨rfl, rfl⟩
  go_wp2_with fail
  refine (picked_none _ w.heap.size c n3 c3 A A3 _ b off l (HS.out.kept ((Kept.refl w []).alloc _) (.inr (by simp))) hl (by simp) ((Blk.new w _ _).cell 0 rfl)).mono ?_
  rintro _ w1 ⟨v1, rfl, hv, k⟩
  have HV := Lib.hid hv
  have K := Lib.hid k
  clear hv k
  go_wp2_with fail
  go_ret
  exact ⟨_, rfl, Go.Proofs.YtdpiaibjpaalhaaDoorLib.Own.mono HV.out (by simp), ((Kept.refl w []).alloc _).trans K.out (by simp)⟩
theorem cut_none (w : World) (b : Nat) (F : List Nat) (s : EpS) (h : ChipAt w b F s) (hw : s.waits = []) (hl : s.data.length ≤ 1000000) (A3 : Option Addr) (n3 c3 : Nat) :
    Calls Tryd.prog 35 #[.pointer (some ⟨b, 0, none⟩), .slice A3 n3 c3] w (Post w [] fun r W => Go.Proofs.YtdpiaibjpaalhaaDoorLib.Own 5 .u8 W w.heap.size r s.data) := by
  have HW := Lib.hid (waits_none w b F s h hw)
  obtain ⟨bw, vd, vn, vc, vw, hx⟩ := h
  obtain ⟨bd, hsl, _⟩ := hx.dat.sl
  obtain ⟨Ad, cd, rfl⟩ := hsl.form
  have c1 := hx.blk.cell 1 rfl
  have HSL := Lib.hid hsl
  have C1 := Lib.hid c1
  clear hx hw hsl c1
  go_enter Tryd.func35, Tryd.ntmps35
  go_wp2_with fail
  refine HW.out.mono ?_
  rintro _ w1 ⟨_, rfl, ⟨A, c, rfl⟩, k⟩
  have K := Lib.hid k
  have d1 := k.cell C1.out (by simp)
  clear k
  go_wp2_with fail
  refine (cells_none w1 n3 c c3 A A3 _ bd 0 s.data (HSL.out.kept K.out (.inr (by simp))) hl).mono ?_
  rintro _ w2 ⟨v2, rfl, hv, k⟩
  have HV := Lib.hid (Go.Proofs.YtdpiaibjpaalhaaDoorLib.Own.mono hv K.out.size)
  have K2 := Lib.hid (K.out.trans k (by simp))
  clear hv k d1
  go_wp2_with fail
  go_ret
  exact ⟨_, rfl, HV.out, K2.out⟩
end Go.Proofs.YtdpiaibjpaalhaaDoor
