/- PROVED: the document's slot: can, Same; the document's slot: Read. No conditions beyond those that each theorem states. -/
import Derived.Test.YtlojgelidcjeaaaGreatDoorRfX
import Derived.Test.YtlojgelidcjeaaaGreatDoorRhB
import Derived.Test.YtlojgelidcjeaaaGreatDoorSlRd
import Derived.Test.YtlojgelidcjeaaaGreatDoorSame
import Derived.Test.YtlojgelidcjeaaaGreatDoorSlGr
import Derived.Deep.RegionHeld3
import Derived.Maps.AppendAt
namespace Go.Proofs.YtlojgelidcjeaaaGreatDoor
open Go.RowKit Go.Proofs.YtlojgelidcjeaaaGreatDoorLib Go.WideElems Go.Maps
set_option linter.unusedSimpArgs false
set_option linter.unusedVariables false

abbrev geoW (e f g : Int) : Value := .agg #[.int .i64 e, .int .i64 f, .int .i64 g]
set_option maxRecDepth 100000 in
set_option maxHeartbeats 4000000 in
theorem rcan_any (w : World) (b : Nat) (F X : List Nat) (s : DiskS) (h : RDisk w b F X s) (which e f g : Int) :
    Calls Tryz.prog 39 #[pt b, .int .i64 which, geoW e f g] w (Post w [] fun v W => v = .int .i64 (atWhy s which e f g)) := by
  obtain ⟨vl, vc, vp, Ls, Cs, P, hx⟩ := h
  obtain ⟨Al, cl, rfl, _, _⟩ := hx.las.form
  have hll := hx.ll
  have hn1 := hx.ok.n1
  have HLL := Lib.hid hll
  have hb0 := Blk.new w 23 [.int .i64 e, .int .i64 f, .int .i64 g]
  have kz : Kept w (w.alloc (.cells #[.int .i64 e, .int .i64 f, .int .i64 g] 23)) [] := (Kept.refl w []).alloc _
  have HB := Lib.hid hb0
  have KZ := Lib.hid kz
  have HBD := Lib.hid (hx.blk.kept kz (by simp))
  have l0 : (0 : Int) ≤ Ls.length := by omega
  have l1 : (Ls.length : Int) ≤ 4096 := by omega
  have HSP := Lib.hid (fun W => rspan_any W s.size e f g)
  have hsl := spanN_le s.size e f g
  have HWY : Hid (atWhy s which e f g = if gRight e f g = false then 9 else if which < 0 ∨ 2 ≤ which ∨ s.size < 32 then 1 else if s.last.length < 2 * spanN s.size e f g then 4 else 0) := Lib.hid rfl
  generalize atWhy s which e f g = why at *
  generalize spanN s.size e f g = N at *
  have hN0 : (0 : Int) ≤ N := by omega
  have hN1 : (N : Int) ≤ 100001 := by omega
  have hmul : IntKind.i64.wrap (2 * (N : Int)) = 2 * (N : Int) := IntWalk.i64_in _ (by omega)
  have q0 := hb0.cell 0 rfl
  have q1 := hb0.cell 1 rfl
  have q2 := hb0.cell 2 rfl
  clear hb0 kz hx hll hn1 hsl
  go_enter Tryz.func39, Tryz.ntmps39
  go_wp2_with fail
  (with_reducible refine (rright_any _ e f g).mono ?_)
  rintro _ w1 ⟨_, rfl, rfl, k1⟩
  have hb1 := HB.out.kept k1 (by simp)
  have hd1 := HBD.out.kept k1 (by simp)
  have K1 := Lib.hid (KZ.out.trans k1 (by simp))
  have c0 := hd1.cell 0 rfl
  have p0 : w1.drew.cell? ⟨w.heap.size, 0, none⟩ = some (.int .i64 e) := hb1.cell 0 rfl
  have p1 : w1.drew.cell? ⟨w.heap.size, 1, none⟩ = some (.int .i64 f) := hb1.cell 1 rfl
  have p2 : w1.drew.cell? ⟨w.heap.size, 2, none⟩ = some (.int .i64 g) := hb1.cell 2 rfl
  have p3 : w1.drew.cell? ⟨b, 0, none⟩ = some (.int .i64 s.size) := hd1.cell 0 rfl
  have p4 : w1.drew.cell? ⟨b, 1, none⟩ = some (.slice Al Ls.length cl) := hd1.cell 1 rfl
  have P0 := Lib.hid (And.intro p0 (And.intro p1 (And.intro p2 (And.intro p3 p4))))
  clear q0 q1 q2 k1 hb1 hd1 p0 p1 p2 p3 p4
  have hret : ∀ x, (.int .i64 x : Value) = .int .i64 why → ∀ W, Kept w W [] → True := fun _ _ _ _ => trivial
  clear hret
  cases hr : gRight e f g
  · have HE : Hid (why = 9) := Lib.hid (by rw [HWY.out, if_pos hr])
    clear hr
    go_wp2_with fail
    go_ret
    exact ⟨_, rfl, by show Value.int _ _ = Value.int _ _; rw [HE.out], K1.out⟩
  rw [hr] at HWY
  clear hr
  by_cases hw : which < 0 ∨ 2 ≤ which
  · have HE : Hid (why = 1) := Lib.hid (by rw [HWY.out, if_neg (by simp), if_pos (by omega)])
    have t0 : (which != 0) = true := by simp; omega
    have t1 : (which != 1) = true := by simp; omega
    clear hw
    go_wp2_with fail
    go_ret
    exact ⟨_, rfl, by show Value.int _ _ = Value.int _ _; rw [HE.out], K1.out⟩
  by_cases hs' : s.size < 32
  · have hs : (s.size : Int) < 32 := by omega
    have HE : Hid (why = 1) := Lib.hid (by rw [HWY.out, if_neg (by simp), if_pos (by omega)])
    have hw01 : which = 0 ∨ which = 1 := by omega
    rcases hw01 with rfl | rfl
    · go_wp2_with fail
      go_ret
      exact ⟨_, rfl, by show Value.int _ _ = Value.int _ _; rw [HE.out], K1.out⟩
    · go_wp2_with fail
      go_ret
      exact ⟨_, rfl, by show Value.int _ _ = Value.int _ _; rw [HE.out], K1.out⟩
  have hs : ¬ (s.size : Int) < 32 := by omega
  have HE : Hid (why = if Ls.length < 2 * N then 4 else 0) := Lib.hid (by rw [HWY.out, if_neg (by simp), if_neg (by omega), HLL.out])
  have hw01 : which = 0 ∨ which = 1 := by omega
  clear hw
  by_cases hfl : Ls.length < 2 * N
  · have t2 : decide ((Ls.length : Int) < 2 * (N : Int)) = true := by simp; omega
    have e := HE.out
    rw [if_pos hfl] at e
    have E := Lib.hid e
    clear e HE hfl
    rcases hw01 with rfl | rfl
    all_goals (
      go_wp2_with fail
      obtain ⟨p0, p1, p2, p3, p4⟩ := P0.out
      go_region_held3 (fun W => W.cell? ⟨w.heap.size, 0, none⟩ = some (.int .i64 e) ∧ W.cell? ⟨w.heap.size, 1, none⟩ = some (.int .i64 f) ∧ W.cell? ⟨w.heap.size, 2, none⟩ = some (.int .i64 g) ∧ W.cell? ⟨b, 0, none⟩ = some (.int .i64 s.size) ∧ W.cell? ⟨b, 1, none⟩ = some (.slice Al Ls.length cl)) (first | (with_reducible exact ⟨p0, p1, p2, p3, p4⟩) | (with_reducible exact ⟨r0, r1, r2, r3, r4⟩) | go_keep) (first
        | (go_at_call 42
           refine (HSP.out _).mono ?_
           rintro _ w3 ⟨_, rfl, rfl, k3⟩
           have r0 := k3.cell p0 (by simp)
           have r1 := k3.cell p1 (by simp)
           have r2 := k3.cell p2 (by simp)
           have r3 := k3.cell p3 (by simp)
           have r4 := k3.cell p4 (by simp)
           have K3 := Lib.hid k3
           clear k3))
      all_goals (
        go_wp2_with fail
        go_ret
        exact ⟨_, rfl, by show Value.int _ _ = Value.int _ _; rw [E.out], K1.out.drew.trans K3.out (by simp)⟩))
  · have t2 : decide ((Ls.length : Int) < 2 * (N : Int)) = false := by simp; omega
    have e := HE.out
    rw [if_neg hfl] at e
    have E := Lib.hid e
    clear e HE hfl
    rcases hw01 with rfl | rfl
    all_goals (
      go_wp2_with fail
      obtain ⟨p0, p1, p2, p3, p4⟩ := P0.out
      go_region_held3 (fun W => W.cell? ⟨w.heap.size, 0, none⟩ = some (.int .i64 e) ∧ W.cell? ⟨w.heap.size, 1, none⟩ = some (.int .i64 f) ∧ W.cell? ⟨w.heap.size, 2, none⟩ = some (.int .i64 g) ∧ W.cell? ⟨b, 0, none⟩ = some (.int .i64 s.size) ∧ W.cell? ⟨b, 1, none⟩ = some (.slice Al Ls.length cl)) (first | (with_reducible exact ⟨p0, p1, p2, p3, p4⟩) | (with_reducible exact ⟨r0, r1, r2, r3, r4⟩) | go_keep) (first
        | (go_at_call 42
           refine (HSP.out _).mono ?_
           rintro _ w3 ⟨_, rfl, rfl, k3⟩
           have r0 := k3.cell p0 (by simp)
           have r1 := k3.cell p1 (by simp)
           have r2 := k3.cell p2 (by simp)
           have r3 := k3.cell p3 (by simp)
           have r4 := k3.cell p4 (by simp)
           have K3 := Lib.hid k3
           clear k3))
      all_goals (
        go_wp2_with fail
        go_ret
        exact ⟨_, rfl, by show Value.int _ _ = Value.int _ _; rw [E.out], K1.out.drew.trans K3.out (by simp)⟩))
abbrev slotV (st why seq : Int) (v : Value) : Value := .agg #[.int .i64 st, .int .i64 why, .int .u64 seq, v]
set_option maxRecDepth 100000 in
set_option maxHeartbeats 4000000 in
theorem rslotsame_yes (w : World) (st why seq : Int) (u v : Value) (bu ou bv ov : Nat) (l : List Int) (hu : Sl .u8 w u bu ou l) (hv : Sl .u8 w v bv ov l) :
    Calls Tryz.prog 17 #[slotV st why seq u, slotV st why seq v] w (Post w [] fun r W => r = .bool true) := by
  have hb1 := Blk.new w 46 [.int .i64 st, .int .i64 why, .int .u64 seq, u]
  have k1 : Kept w (w.alloc (.cells #[.int .i64 st, .int .i64 why, .int .u64 seq, u] 46)) [] := (Kept.refl w []).alloc _
  have hb2 := Blk.new (w.alloc (.cells #[.int .i64 st, .int .i64 why, .int .u64 seq, u] 46)) 46 [.int .i64 st, .int .i64 why, .int .u64 seq, v]
  have k2 : Kept (w.alloc (.cells #[.int .i64 st, .int .i64 why, .int .u64 seq, u] 46)) ((w.alloc (.cells #[.int .i64 st, .int .i64 why, .int .u64 seq, u] 46)).alloc (.cells #[.int .i64 st, .int .i64 why, .int .u64 seq, v] 46)) [] := (Kept.refl _ []).alloc _
  have hb1' := hb1.kept k2 (by simp)
  have HU := Lib.hid ((hu.kept k1 (.inr (by simp))).kept k2 (.inr (by simp)))
  have HV := Lib.hid ((hv.kept k1 (.inr (by simp))).kept k2 (.inr (by simp)))
  have K2 := Lib.hid (k1.trans k2 (by simp))
  obtain ⟨Au, cu, rfl⟩ := hu.form
  obtain ⟨Av, cv, rfl⟩ := hv.form
  have q0 := hb1'.cell 0 rfl
  have q1 := hb1'.cell 1 rfl
  have q2 := hb1'.cell 2 rfl
  have q3 := hb1'.cell 3 rfl
  have r0 := hb2.cell 0 rfl
  have r1 := hb2.cell 1 rfl
  have r2 := hb2.cell 2 rfl
  have r3 := hb2.cell 3 rfl
  have hsz : (w.alloc (.cells #[.int .i64 st, .int .i64 why, .int .u64 seq, .slice Au l.length cu] 46)).heap.size = w.heap.size + 1 := by simp
  rw [hsz] at r0 r1 r2 r3
  clear hb1 hb2 hb1' k1 k2 hsz hu hv
  go_enter Tryz.func17, Tryz.ntmps17
  go_wp2_with fail
  (with_reducible refine (same_any _ _ _ bu ou bv ov _ _ HU.out HV.out).mono ?_)
  rintro _ w3 ⟨_, rfl, rfl, k3⟩
  have K3 := Lib.hid (K2.out.trans k3 (by simp))
  clear k3
  rw [decide_eq_true rfl]
  go_wp2_with fail
  go_ret
  exact ⟨_, rfl, rfl, K3.out⟩
end Go.Proofs.YtlojgelidcjeaaaGreatDoor
namespace Go.Proofs.YtlojgelidcjeaaaGreatDoor
open Go.RowKit Go.Proofs.YtlojgelidcjeaaaGreatDoorLib Go.WideElems Go.Maps
set_option linter.unusedSimpArgs false
set_option linter.unusedVariables false

/-- bytes appended to a row of the call's own, and where the row then lies -/
theorem u8_append {W : World} {base : Nat} {v : Value} {l m : List Int} (h : Own 5 .u8 W base v l) {q o c : Nat} (hs : Sl .u8 W (.slice (some ⟨q, o, none⟩) m.length c) q o m) (hn : l.length + m.length ≤ 1000000000) (hbase : base ≤ W.heap.size) :
    ∃ v' w', (Builtin.append_ #[35, 35] 35 #[v, .slice (some ⟨q, o, none⟩) m.length c]).run Tryz.prog W = .ok v' w' ∧ Own 5 .u8 w' base v' (l ++ m) ∧ Kept W w' v.ownBlock.toList ∧ ∀ g, v'.ownBlock = some g → v.ownBlock = some g ∨ g = W.heap.size := by
  obtain ⟨i0, hi, hz0, hz1, hz2⟩ := info_parts info8
  obtain ⟨v', w', hrun, hown, hg, hn', hloc⟩ := run_append_own_at (P := Tryz.prog) W base 35 35 5 i0 _ 1 1 Tryz.underlying35 hi hz0 hz1 hz2 rfl (by decide) v l.length (l.map (Value.int .u8)) h ⟨q, o, none⟩ m.length c (m.map (Value.int .u8)) (by simp)
    (fun j y hj => by
      rw [Addr.add_lit]
      rw [List.getElem?_map] at hj
      cases hm : m[j]? with
      | none => rw [hm] at hj; cases hj
      | some x => rw [hm] at hj; cases hj; exact hs.cell hm) (by intro y hy; obtain ⟨x, _, rfl⟩ := List.mem_map.1 hy; rfl) (by unfold maxLen; omega) (by omega) hbase
  refine ⟨v', w', hrun, by unfold Own; rw [List.length_append, List.map_append]; exact hown, Kept.grown hg _ (fun g hg => by simp [hg]), fun g hg => ?_⟩
  rcases hloc with e | e
  · exact .inl (by rw [← e]; exact hg)
  · rw [e] at hg; simp at hg; exact .inr hg.symm
/-- what Read answers -/
def RReadP (w : World) (b : Nat) (F X : List Nat) (R : DiskS × SlotR × Int) (r : Value) (V : World) : Prop :=
  ∃ v q, r = .tuple #[slotV R.2.1.st R.2.1.why R.2.1.seq v, .int .i64 R.2.2] ∧ Sl .u8 V v q 0 R.2.1.img ∧ (R.2.1.img = [] ∨ w.heap.size ≤ q) ∧ RDisk V b F X R.1
/-- the walk's world -/
structure RdS (w W : World) (b : Nat) (F X : List Nat) (s : DiskS) (e f g : Int) : Prop where
  g5 : Blk W w.heap.size 23 [.int .i64 e, .int .i64 f, .int .i64 g]
  r6 : Blk W (w.heap.size + 1) 46 [.int .i64 0, .int .i64 0, .int .u64 0, .slice none 0 0]
  d : ∃ X', (∀ x, x ∈ X → x ∈ X') ∧ (w.heap.size + 1) ∈ X' ∧ RDisk W b F X' s
  k : Kept w W [b]
  bF : ∀ x, x ∈ F → x < w.heap.size
  fX : ∀ x, x ∈ F → x ∈ X
theorem RdS.kept {w W W' : World} {b : Nat} {F X : List Nat} {s : DiskS} {e f g : Int} (h : RdS w W b F X s e f g) (k : Kept W W' []) : RdS w W' b F X s e f g :=
  ⟨h.g5.kept k (by simp), h.r6.kept k (by simp), let ⟨X', h1, h2, h3⟩ := h.d; ⟨X', h1, h2, h3.kept k⟩, h.k.trans k (by simp), h.bF, h.fX⟩
theorem RdS.fb {w W : World} {b : Nat} {F X : List Nat} {s : DiskS} {e f g : Int} (h : RdS w W b F X s e f g) : b < w.heap.size := let ⟨_, _, _, h3⟩ := h.d; h.bF b h3.fb
/-- a sector was read -/
theorem RdS.read {w W W' : World} {b : Nat} {F X X' : List Nat} {s s' : DiskS} {e f g : Int} (h : RdS w W b F X s e f g) (h1 : ∀ x, x ∈ X → x ∈ X') (h2 : (w.heap.size + 1) ∈ X') (k : Kept W W' [b]) (d : RDisk W' b F X' s') : RdS w W' b F X s' e f g :=
  ⟨h.g5.kept k (by have := h.fb; simp; omega), h.r6.kept k (by have := h.fb; simp; omega), ⟨X', h1, h2, d⟩, h.k.trans k (fun x hx => .inl hx), h.bF, h.fX⟩
theorem RdS.fin {w W : World} {b : Nat} {F X : List Nat} {s : DiskS} {e f g : Int} (h : RdS w W b F X s e f g) (b0 b1 b2 b3 : Value) :
    RDisk ((((W.setCell ⟨w.heap.size + 1, 0, none⟩ b0).setCell ⟨w.heap.size + 1, 1, none⟩ b1).setCell ⟨w.heap.size + 1, 2, none⟩ b2).setCell ⟨w.heap.size + 1, 3, none⟩ b3) b F X s ∧
    Kept w ((((W.setCell ⟨w.heap.size + 1, 0, none⟩ b0).setCell ⟨w.heap.size + 1, 1, none⟩ b1).setCell ⟨w.heap.size + 1, 2, none⟩ b2).setCell ⟨w.heap.size + 1, 3, none⟩ b3) [b] ∧
    Blk ((((W.setCell ⟨w.heap.size + 1, 0, none⟩ b0).setCell ⟨w.heap.size + 1, 1, none⟩ b1).setCell ⟨w.heap.size + 1, 2, none⟩ b2).setCell ⟨w.heap.size + 1, 3, none⟩ b3) (w.heap.size + 1) 46 [b0, b1, b2, b3] := by
  obtain ⟨X', h1, h2, h3⟩ := h.d
  refine ⟨?_, kept4 h.k (.inr (by omega)) b0 b1 b2 b3, blk4 h.r6 b0 b1 b2 b3⟩
  have := h3.beside (S := [w.heap.size + 1]) (Y := []) (kept4 (g := w.heap.size + 1) (Kept.refl W _) (.inl (by simp)) b0 b1 b2 b3) (fun x hx => by simp at hx; subst hx; exact h2) (fun x hx hm => by simp at hx; subst hx; have := h.bF _ hm; omega) (fun x hx => by simp at hx)
  exact this.less (fun x hx => List.mem_append.2 (.inl (h1 x hx))) h.fX
theorem rds_start {w : World} {b : Nat} {F X : List Nat} {s : DiskS} (h : RDisk w b F X s) (e f g : Int) : RdS w ((w.alloc (.cells #[.int .i64 e, .int .i64 f, .int .i64 g] 23)).alloc (.cells #[.int .i64 0, .int .i64 0, .int .u64 0, .slice none 0 0] 46)) b F X s e f g := by
  have k0 : Kept w ((w.alloc (.cells #[.int .i64 e, .int .i64 f, .int .i64 g] 23)).alloc (.cells #[.int .i64 0, .int .i64 0, .int .u64 0, .slice none 0 0] 46)) [] := ((Kept.refl w []).alloc _).alloc _
  exact ⟨(Blk.new _ _ _).alloc _, Blk.top _ _ (by simp) _ _, ⟨X ++ [w.heap.size + 1], fun x hx => List.mem_append.2 (.inl hx), List.mem_append.2 (.inr (by simp)), h.beside k0 (by simp) (by simp) (fun x hx => by simp at hx; subst hx; exact ⟨.inr (by omega), by simp⟩)⟩, k0.mono (by simp), h.lt, h.fx⟩
set_option maxRecDepth 100000 in
set_option maxHeartbeats 2000000 in
theorem rslot_no (w : World) (b : Nat) (F X : List Nat) (s : DiskS) (h : RDisk w b F X s) (which e f g : Int) (hw : atWhy s which e f g ≠ 0) :
    Calls Tryz.prog 16 #[pt b, .int .i64 which, geoW e f g] w (Post w [b] (RReadP w b F X (readM s which e f g))) := by
  have H0 := Lib.hid (rds_start h e f g)
  have HE := Lib.hid (And.intro (show readM s which e f g = (s, SlotR.zero, atWhy s which e f g) by unfold readM; rw [if_pos hw]) trivial)
  obtain ⟨w0, hw0⟩ : ∃ w0, w0 = (w.alloc (.cells #[.int .i64 e, .int .i64 f, .int .i64 g] 23)).alloc (.cells #[.int .i64 0, .int .i64 0, .int .u64 0, .slice none 0 0] 46) := ⟨_, rfl⟩
  rw [← hw0] at H0
  have HC : Hid (Calls Tryz.prog 39 #[pt b, .int .i64 which, geoW e f g] w0 (Post w0 [] fun v W => v = .int .i64 (atWhy s which e f g))) := Lib.hid (by obtain ⟨X', _, _, hd⟩ := H0.out.d; exact rcan_any w0 b F X' s hd which e f g)
  have g0 := H0.out.g5.cell 0 rfl
  have g1 := H0.out.g5.cell 1 rfl
  have g2 := H0.out.g5.cell 2 rfl
  have G0 := Lib.hid (And.intro g0 (And.intro g1 g2))
  obtain ⟨why, hwhy⟩ : ∃ x, atWhy s which e f g = x := ⟨_, rfl⟩
  rw [hwhy] at HC HE hw
  have t1 : (why != 0) = true := by simpa using hw
  clear h hw hwhy g0 g1 g2
  go_enter Tryz.func16, Tryz.ntmps16
  go_upto_region 1 with fail
  rw [← hw0]
  clear hw0
  obtain ⟨g0, g1, g2⟩ := G0.out
  go_wp2_with fail
  refine HC.out.mono ?_
  rintro _ w1 ⟨_, rfl, rfl, k1⟩
  have H1 := Lib.hid (H0.out.kept k1)
  clear k1 g0 g1 g2
  obtain ⟨hfd, hfk, hfb⟩ := H1.out.fin (.int .i64 0) (.int .i64 0) (.int .u64 0) (.slice none 0 0)
  have HFD := Lib.hid hfd
  have HFK := Lib.hid hfk
  have HFB := Lib.hid hfb
  clear hfd hfk hfb
  have hb6x := H1.out.r6
  have u0 := hb6x.cell 0 rfl
  have f0 := hb6x.free 0
  have u1 := hb6x.cell 1 rfl
  have f1 := hb6x.free 1
  have u2 := hb6x.cell 2 rfl
  have f2 := hb6x.free 2
  have u3 := hb6x.cell 3 rfl
  have f3 := hb6x.free 3
  clear hb6x
  go_wp2_with fail
  refine bodyPost_ret (results_pair_row Tryz.results16 _ _ _ _ _ _ _ _ (by simp [go_sem]) (by simp [go_sem]; rfl) HFB.out Tryz.underlying46 rfl rfl) rfl ?_
  refine ⟨_, rfl, ?_, HFK.out⟩
  rw [HE.out.1]
  exact ⟨_, 0, rfl, Sl.nil _ _ 0 0, .inl rfl, HFD.out⟩
set_option maxRecDepth 100000 in
set_option maxHeartbeats 8000000 in
theorem rslot_yes (w : World) (b : Nat) (F X : List Nat) (s : DiskS) (h : RDisk w b F X s) (ho : s.ops < 800000000) (which e f g : Int) (hw : atWhy s which e f g = 0) (hsm : spanN s.size e f g ≤ 201) :
    Calls Tryz.prog 16 #[pt b, .int .i64 which, geoW e f g] w (Post w [b] (RReadP w b F X (readM s which e f g))) := by
  have H0 := Lib.hid (rds_start h e f g)
  obtain ⟨w0, hw0⟩ : ∃ w0, w0 = (w.alloc (.cells #[.int .i64 e, .int .i64 f, .int .i64 g] 23)).alloc (.cells #[.int .i64 0, .int .i64 0, .int .u64 0, .slice none 0 0] 46) := ⟨_, rfl⟩
  rw [← hw0] at H0
  have hok := h.ok
  obtain ⟨hr, ⟨wh0, wh1⟩, hsz, _⟩ := atWhy_yes hw
  have hsp1 := spanN_pos hok.s2 hw
  have hpl : which.toNat * spanN s.size e f g ≤ 200000 := slot_room hw
  have htot : gTotal e f g ≤ (spanN s.size e f g - 1) * s.size := by
    have e1 : spanN s.size e f g = 1 + secs (gTotal e f g) s.size := by unfold spanN; rw [if_pos ⟨hr, by omega, by have := hok.s2; omega⟩]; rfl
    rw [e1, Nat.add_sub_cancel_left]
    exact secs_fits _ _ hok.s1
  have hsec := read_sec hok ((which.toNat * spanN s.size e f g : Nat) : Int)
  have hEQ : readM s which e f g = readM s which e f g := rfl
  conv at hEQ => rhs; unfold readM
  rw [if_neg (by simp [hw])] at hEQ
  have HC : Hid (Calls Tryz.prog 39 #[pt b, .int .i64 which, geoW e f g] w0 (Post w0 [] fun v W => v = .int .i64 (atWhy s which e f g))) := Lib.hid (by obtain ⟨X', _, _, hd⟩ := H0.out.d; exact rcan_any w0 b F X' s hd which e f g)
  rw [hw] at HC
  have HSP := Lib.hid (fun W => rspan_any W s.size e f g)
  obtain ⟨wn, rfl⟩ := Int.eq_ofNat_of_zero_le wh0
  simp only [Int.toNat_natCast] at hpl hsec hEQ
  generalize hRM : readM s (wn : Int) e f g = RM at *
  generalize hN : spanN s.size e f g = N at *
  obtain ⟨m, hNm⟩ : ∃ m, N = m + 1 := ⟨N - 1, by omega⟩
  have hm1 : N - 1 = m := by omega
  rw [hm1] at htot hEQ
  have hm200 : m ≤ 200 := by omega
  obtain ⟨fst, hfst⟩ : ∃ fst, fst = wn * N := ⟨_, rfl⟩
  rw [← hfst] at hpl hsec hEQ
  have hwmul : IntKind.i64.wrap ((wn : Int) * (N : Int)) = (fst : Int) := by
    rw [hfst, IntWalk.i64_in _ (by rw [← Int.natCast_mul, ← hfst]; omega)]
    simp
  have hf0 : (0 : Int) ≤ fst := by omega
  have hf1 : (fst : Int) ≤ 200000 := by omega
  have hmm0 : (0 : Int) ≤ m := by omega
  have hmm1 : (m : Int) ≤ 200 := by omega
  have HOK := Lib.hid hok
  have HNM := Lib.hid hNm
  have HO := Lib.hid ho
  have HTOT := Lib.hid htot
  have HSEC := Lib.hid hsec
  have HN1 := Lib.hid (And.intro hpl hm200)
  generalize hR : s.read (fst : Int) = R at *
  have HRR := Lib.hid (And.intro hR trivial)
  have HEQ := Lib.hid (And.intro hEQ trivial)
  have g0 := H0.out.g5.cell 0 rfl
  have g1 := H0.out.g5.cell 1 rfl
  have g2 := H0.out.g5.cell 2 rfl
  have G0 := Lib.hid (And.intro g0 (And.intro g1 g2))
  clear h hok hr hsz hsp1 hpl htot hsec hEQ hw hsm ho hm200 hfst hNm hR hRM wh1 wh0 hN hm1 g0 g1 g2
  go_enter Tryz.func16, Tryz.ntmps16
  go_upto_region 1 with fail
  rw [← hw0]
  clear hw0
  obtain ⟨g0, g1, g2⟩ := G0.out
  go_wp2_with fail
  refine HC.out.mono ?_
  rintro _ w1 ⟨_, rfl, rfl, k1⟩
  have H1 := Lib.hid ((H0.out.kept k1).kept (Kept.refl w1 []).drew)
  clear k1 HC g0 g1 g2
  have g0 := H1.out.g5.cell 0 rfl
  have g1 := H1.out.g5.cell 1 rfl
  have g2 := H1.out.g5.cell 2 rfl
  have hsz : w1.drew.cell? ⟨b, 0, none⟩ = some (.int .i64 s.size) := by obtain ⟨X', _, _, hd⟩ := H1.out.d; exact hd.size.choose_spec.1
  have G1 := Lib.hid (And.intro g0 (And.intro g1 (And.intro g2 hsz)))
  clear g0 g1 g2 hsz
  go_wp2_with fail
  obtain ⟨p0, p1, p2, p3⟩ := G1.out
  go_region_held3 (fun W => W.cell? ⟨w.heap.size, 0, none⟩ = some (.int .i64 e) ∧ W.cell? ⟨w.heap.size, 1, none⟩ = some (.int .i64 f) ∧ W.cell? ⟨w.heap.size, 2, none⟩ = some (.int .i64 g) ∧ W.cell? ⟨b, 0, none⟩ = some (.int .i64 s.size)) (first | (with_reducible exact ⟨p0, p1, p2, p3⟩) | (with_reducible exact ⟨r0, r1, r2, r3⟩) | go_keep) (first
    | (go_at_call 42
       refine (HSP.out _).mono ?_
       rintro _ w2 ⟨_, rfl, rfl, k2⟩
       have r0 := k2.cell p0 (by simp)
       have r1 := k2.cell p1 (by simp)
       have r2 := k2.cell p2 (by simp)
       have r3 := k2.cell p3 (by simp)
       have H2 := Lib.hid (H1.out.kept k2)
       clear k2))
  all_goals (
    obtain ⟨X2, hx2, hr2, hd2⟩ := H2.out.d
    have HRD := Lib.hid (rread_any w2 b F X2 s hd2 (by have := HO.out; omega) (fst : Int))
    rw [HRR.out.1] at HRD
    have HX2 := Lib.hid (And.intro hx2 hr2)
    clear hx2 hr2 hd2 p0 p1 p2 p3 r0 r1 r2 r3
    by_cases he : R.2 ≠ 0
    · have te : (R.2 != 0) = true := by simpa using he
      have heq := HEQ.out.1
      rw [if_pos he] at heq
      have HE := Lib.hid (And.intro heq trivial)
      clear he heq
      go_wp2_with fail
      (with_reducible refine HRD.out.mono ?_)
      rintro _ w3 ⟨_, rfl, ⟨rv, rfl, hrv, hd3⟩, k3⟩
      have H3 := Lib.hid (H2.out.read HX2.out.1 HX2.out.2 k3 hd3)
      clear hrv hd3 k3 HRD
      obtain ⟨hfd, hfk, hfb⟩ := H3.out.fin (.int .i64 0) (.int .i64 0) (.int .u64 0) (.slice none 0 0)
      have HFD := Lib.hid hfd
      have HFK := Lib.hid hfk
      have HFB := Lib.hid hfb
      clear hfd hfk hfb
      have hb6x := H3.out.r6
      have u0 := hb6x.cell 0 rfl
      have f0 := hb6x.free 0
      have u1 := hb6x.cell 1 rfl
      have f1 := hb6x.free 1
      have u2 := hb6x.cell 2 rfl
      have f2 := hb6x.free 2
      have u3 := hb6x.cell 3 rfl
      have f3 := hb6x.free 3
      clear hb6x
      go_wp2_with fail
      refine bodyPost_ret (results_pair_row Tryz.results16 _ _ _ _ _ _ _ _ (by simp [go_sem]) (by simp [go_sem]; rfl) HFB.out Tryz.underlying46 rfl rfl) rfl ?_
      refine ⟨_, rfl, ?_, HFK.out⟩
      rw [HE.out.1]
      exact ⟨_, 0, rfl, Sl.nil _ _ 0 0, .inl rfl, HFD.out⟩
    have he0 : R.2 = 0 := by
      by_cases e0 : R.2 = 0
      · exact e0
      · exact absurd e0 he
    have te : (R.2 != 0) = false := by simpa using he0
    have heq := HEQ.out.1
    rw [if_neg he] at heq
    have HEQ1 := Lib.hid (And.intro heq trivial)
    have HSC := Lib.hid (HSEC.out he0)
    clear he heq HEQ he0
    go_wp2_with fail
    (with_reducible refine HRD.out.mono ?_)
    rintro _ w3 ⟨_, rfl, ⟨rv, rfl, hrv, hd3⟩, k3⟩
    obtain ⟨brv, hsrv, _⟩ := hrv.sl
    have HDC := Lib.hid (rdecode_any w3 rv brv 0 R.1 hsrv HSC.out.2)
    have H3 := Lib.hid (H2.out.read HX2.out.1 HX2.out.2 k3 hd3)
    clear hrv hd3 k3 HRD hsrv
    by_cases hdw : decWhy R.1 ≠ 0
    · have tw : (decWhy R.1 != 0) = true := by simpa using hdw
      have heq := HEQ1.out.1
      rw [if_pos hdw] at heq
      have HE := Lib.hid (And.intro heq trivial)
      rw [show decV R.1 = headV 0 0 0 0 0 0 by unfold decV; rw [if_neg hdw]] at HDC
      generalize decWhy R.1 = dw at *
      clear hdw heq
      go_wp2_with fail
      (with_reducible refine HDC.out.mono ?_)
      rintro _ w4 ⟨_, rfl, rfl, k4⟩
      have H4 := Lib.hid (H3.out.kept (k4.alloc (.cells #[.int .i64 0, .int .i64 0, .int .i64 0, .int .i64 0, .int .u64 0, .int .u32 0] 83)))
      clear k4 HDC
      obtain ⟨hfd, hfk, hfb⟩ := H4.out.fin (.int .i64 0) (.int .i64 dw) (.int .u64 0) (.slice none 0 0)
      have HFD := Lib.hid hfd
      have HFK := Lib.hid hfk
      have HFB := Lib.hid hfb
      clear hfd hfk hfb
      have hb6x := H4.out.r6
      have u0 := hb6x.cell 0 rfl
      have f0 := hb6x.free 0
      have u1 := hb6x.cell 1 rfl
      have f1 := hb6x.free 1
      have u2 := hb6x.cell 2 rfl
      have f2 := hb6x.free 2
      have u3 := hb6x.cell 3 rfl
      have f3 := hb6x.free 3
      clear hb6x
      go_wp2_with fail
      refine bodyPost_ret (results_pair_row Tryz.results16 _ _ _ _ _ _ _ _ (by simp [go_sem]) (by simp [go_sem]; rfl) HFB.out Tryz.underlying46 rfl rfl) rfl ?_
      refine ⟨_, rfl, ?_, HFK.out⟩
      rw [HE.out.1]
      exact ⟨_, 0, rfl, Sl.nil _ _ 0 0, .inl rfl, HFD.out⟩
    have hdw0 : decWhy R.1 = 0 := by
      by_cases e0 : decWhy R.1 = 0
      · exact e0
      · exact absurd e0 hdw
    have hdok := decWhy_ok hdw0
    rw [show decV R.1 = headV (hd R.1 5) (hd R.1 6) (hd R.1 7) (decN R.1 8 4) (decN R.1 12 8) (decN R.1 20 4) by unfold decV; rw [if_pos hdw0], hdw0] at HDC
    have heq := HEQ1.out.1
    rw [if_neg hdw] at heq
    have hlen8 : decN R.1 8 4 = gTotal (hd R.1 5) (hd R.1 6) (hd R.1 7) := by
      have := hdok.2
      unfold decOk at this
      simp only [Bool.and_eq_true, decide_eq_true_eq] at this
      exact this.2
    have HL8 := Lib.hid (And.intro hlen8 trivial)
    generalize hd R.1 5 = x5 at *
    generalize hd R.1 6 = x6 at *
    generalize hd R.1 7 = x7 at *
    generalize decN R.1 8 4 = N8 at *
    generalize decN R.1 12 8 = N12 at *
    generalize decN R.1 20 4 = N20 at *
    have HEQ2 := Lib.hid (And.intro heq trivial)
    clear hdw heq hdw0 hdok hlen8 HEQ1
    go_wp2_with fail
    (with_reducible refine HDC.out.mono ?_)
    rintro _ w4 ⟨_, rfl, rfl, k4⟩
    obtain ⟨wd, hwd⟩ : ∃ wd, wd = w4.alloc (.cells #[.int .i64 x5, .int .i64 x6, .int .i64 x7, .int .i64 N8, .int .u64 N12, .int .u32 N20] 83) := ⟨_, rfl⟩
    have kd4 : Kept w4 wd [] := by rw [hwd]; exact (Kept.refl w4 []).alloc _
    have hbh : Blk wd w4.heap.size 83 [.int .i64 x5, .int .i64 x6, .int .i64 x7, .int .i64 N8, .int .u64 N12, .int .u32 N20] := by rw [hwd]; exact Blk.new _ _ _
    have H4 := Lib.hid ((H3.out.kept k4).kept kd4)
    have HBH := Lib.hid hbh
    have HHH : Hid (w.heap.size + 1 < w4.heap.size) := Lib.hid (by have h1 := H3.out.r6.lt; have h2 := k4.size; omega)
    clear k4 kd4 hbh HDC
    go_upto_region 11 with fail
    rw [← hwd]
    clear hwd
    generalize hhh : w4.heap.size = hh at *
    clear hhh
    have g0 := H4.out.g5.cell 0 rfl
    have g1 := H4.out.g5.cell 1 rfl
    have g2 := H4.out.g5.cell 2 rfl
    have h0 := HBH.out.cell 0 rfl
    have h1 := HBH.out.cell 1 rfl
    have h2 := HBH.out.cell 2 rfl
    by_cases hgm : ¬ (x5 = e ∧ x6 = f ∧ x7 = g)
    · have heq := HEQ2.out.1
      rw [if_pos hgm] at heq
      have HE := Lib.hid (And.intro heq trivial)
      have HGM := Lib.hid (And.intro hgm trivial)
      clear heq hgm HEQ2 te
      by_cases a5 : x5 = e
      · subst a5
        by_cases a6 : x6 = f
        · subst a6
          by_cases a7 : x7 = g
          · exact absurd ⟨rfl, rfl, a7⟩ HGM.out.1
          · have b7 : (x7 == g) = false := by simpa using a7
            obtain ⟨hfd, hfk, hfb⟩ := H4.out.fin (.int .i64 1) (.int .i64 0) (.int .u64 0) (.slice none 0 0)
            have HFD := Lib.hid hfd
            have HFK := Lib.hid hfk
            have HFB := Lib.hid hfb
            clear hfd hfk hfb
            have hb6x := H4.out.r6
            have u0 := hb6x.cell 0 rfl
            have f0 := hb6x.free 0
            have u1 := hb6x.cell 1 rfl
            have f1 := hb6x.free 1
            have u2 := hb6x.cell 2 rfl
            have f2 := hb6x.free 2
            have u3 := hb6x.cell 3 rfl
            have f3 := hb6x.free 3
            clear hb6x
            go_wp2_with fail
            refine bodyPost_ret (results_pair_row Tryz.results16 _ _ _ _ _ _ _ _ (by simp [go_sem]) (by simp [go_sem]; rfl) HFB.out Tryz.underlying46 rfl rfl) rfl ?_
            refine ⟨_, rfl, ?_, HFK.out⟩
            rw [HE.out.1]
            exact ⟨_, 0, rfl, Sl.nil _ _ 0 0, .inl rfl, HFD.out⟩
        · have b6 : (x6 == f) = false := by simpa using a6
          obtain ⟨hfd, hfk, hfb⟩ := H4.out.fin (.int .i64 1) (.int .i64 0) (.int .u64 0) (.slice none 0 0)
          have HFD := Lib.hid hfd
          have HFK := Lib.hid hfk
          have HFB := Lib.hid hfb
          clear hfd hfk hfb
          have hb6x := H4.out.r6
          have u0 := hb6x.cell 0 rfl
          have f0 := hb6x.free 0
          have u1 := hb6x.cell 1 rfl
          have f1 := hb6x.free 1
          have u2 := hb6x.cell 2 rfl
          have f2 := hb6x.free 2
          have u3 := hb6x.cell 3 rfl
          have f3 := hb6x.free 3
          clear hb6x
          go_wp2_with fail
          refine bodyPost_ret (results_pair_row Tryz.results16 _ _ _ _ _ _ _ _ (by simp [go_sem]) (by simp [go_sem]; rfl) HFB.out Tryz.underlying46 rfl rfl) rfl ?_
          refine ⟨_, rfl, ?_, HFK.out⟩
          rw [HE.out.1]
          exact ⟨_, 0, rfl, Sl.nil _ _ 0 0, .inl rfl, HFD.out⟩
      · have b5 : (x5 == e) = false := by simpa using a5
        obtain ⟨hfd, hfk, hfb⟩ := H4.out.fin (.int .i64 1) (.int .i64 0) (.int .u64 0) (.slice none 0 0)
        have HFD := Lib.hid hfd
        have HFK := Lib.hid hfk
        have HFB := Lib.hid hfb
        clear hfd hfk hfb
        have hb6x := H4.out.r6
        have u0 := hb6x.cell 0 rfl
        have f0 := hb6x.free 0
        have u1 := hb6x.cell 1 rfl
        have f1 := hb6x.free 1
        have u2 := hb6x.cell 2 rfl
        have f2 := hb6x.free 2
        have u3 := hb6x.cell 3 rfl
        have f3 := hb6x.free 3
        clear hb6x
        go_wp2_with fail
        refine bodyPost_ret (results_pair_row Tryz.results16 _ _ _ _ _ _ _ _ (by simp [go_sem]) (by simp [go_sem]; rfl) HFB.out Tryz.underlying46 rfl rfl) rfl ?_
        refine ⟨_, rfl, ?_, HFK.out⟩
        rw [HE.out.1]
        exact ⟨_, 0, rfl, Sl.nil _ _ 0 0, .inl rfl, HFD.out⟩
    have hgm1 : x5 = e ∧ x6 = f ∧ x7 = g := by
      by_cases e0 : x5 = e ∧ x6 = f ∧ x7 = g
      · exact e0
      · exact absurd e0 hgm
    obtain ⟨rfl, rfl, rfl⟩ := hgm1
    have heq := HEQ2.out.1
    rw [if_neg hgm] at heq
    have hn8 := HL8.out.1
    subst hn8
    obtain ⟨tot, htot⟩ : ∃ t, gTotal x5 x6 x7 = t := ⟨_, rfl⟩
    rw [htot] at heq HBH HTOT
    have HEQ3 := Lib.hid (And.intro heq trivial)
    have HS12 := Lib.hid (And.intro HOK.out.s1 HOK.out.s2)
    have HOKT : Hid s.tick.Ok := Lib.hid (DiskS.tick_ok HOK.out (by have := HO.out; omega))
    have hops : s.tick.ops = s.ops + 1 := rfl
    have hszt : s.tick.size = s.size := rfl
    have HT := Lib.hid (And.intro hops hszt)
    clear heq hgm htot hops hszt HEQ2 HL8 te h0 h1 h2 g0 g1 g2
    generalize s.tick = st at *
    have h0 := HBH.out.cell 0 rfl
    have h1 := HBH.out.cell 1 rfl
    have h2 := HBH.out.cell 2 rfl
    have g0 := H4.out.g5.cell 0 rfl
    have g1 := H4.out.g5.cell 1 rfl
    have g2 := H4.out.g5.cell 2 rfl
    go_wp2_with fail
    go_loopg [14, 15] m (fun gg vv i wr => ∃ (k : Nat) (sk : DiskS) (xs : List (List Int)) (X' : List Nat), k + gg = m ∧ i = .int .i64 ((k : Int) + 1) ∧ readsM st (fst + 1) m = ((readsM sk (fst + 1 + k) gg).1, xs ++ (readsM sk (fst + 1 + k) gg).2.1, (readsM sk (fst + 1 + k) gg).2.2) ∧ RdS w wr b F X sk x5 x6 x7 ∧
        ((∀ x, x ∈ X → x ∈ X') ∧ (w.heap.size + 1) ∈ X' ∧ RDisk wr b F X' sk) ∧ (∀ q, vv.ownBlock = some q → q ∈ X') ∧ Blk wr hh 83 [.int .i64 x5, .int .i64 x6, .int .i64 x7, .int .i64 tot, .int .u64 N12, .int .u32 N20] ∧ Own 5 .u8 wr w.heap.size vv xs.flatten ∧ (∀ x, x ∈ xs → Sec s.size x) ∧ xs.length = k ∧ sk.ops = s.ops + 1 + k ∧ sk.size = s.size)
    case atStart =>
      obtain ⟨X4, hx4, hr4, hd4⟩ := H4.out.d
      exact ⟨0, st, [], X4, by omega, rfl, by simp, H4.out, ⟨hx4, hr4, hd4⟩, by simp [Value.ownBlock], HBH.out, Own.nil _ _ _ _, by simp, rfl, HT.out.1, HT.out.2⟩
    case round =>
      obtain ⟨k, sk, xs, X', hk, rfl, heq, hS, ⟨hx, hr, hd⟩, hvx, hbh, hrow, hsec, hxl, hops, hskz⟩ := hrel
      have HK := Lib.hid hk
      have HEQ := Lib.hid (And.intro heq trivial)
      have HS := Lib.hid (hS.kept (Kept.refl wr []).drew)
      have HD := Lib.hid (hd.kept (Kept.refl wr []).drew)
      have HXX := Lib.hid (And.intro hx hr)
      have HVX := Lib.hid hvx
      have HBR := Lib.hid (hbh.kept (Kept.refl wr []).drew (by simp))
      have HRO := Lib.hid (hrow.kept (Kept.refl wr []).drew (by simp [Apart]))
      have HSE := Lib.hid hsec
      have HXL := Lib.hid hxl
      have HOP := Lib.hid (And.intro hops hskz)
      have hfl := flat_len xs s.size (fun x hx => (hsec x hx).1)
      rw [hxl] at hfl
      have HFL := Lib.hid hfl
      obtain ⟨bw, hsl, _⟩ := hrow.sl
      obtain ⟨Aw, cw, rfl⟩ := hsl.form
      generalize hnx : xs.flatten.length = nx at *
      have HNX := Lib.hid hnx
      clear hnx
      have q0 := hS.g5.cell 0 rfl
      have q1 := hS.g5.cell 1 rfl
      have q2 := hS.g5.cell 2 rfl
      have q3 : wr.cell? ⟨b, 0, none⟩ = some (.int .i64 s.size) := by rw [← hskz]; exact hd.size.choose_spec.1
      have p0 : wr.drew.cell? ⟨w.heap.size, 0, none⟩ = some (.int .i64 x5) := q0
      have p1 : wr.drew.cell? ⟨w.heap.size, 1, none⟩ = some (.int .i64 x6) := q1
      have p2 : wr.drew.cell? ⟨w.heap.size, 2, none⟩ = some (.int .i64 x7) := q2
      have p3 : wr.drew.cell? ⟨b, 0, none⟩ = some (.int .i64 s.size) := q3
      have G1 := Lib.hid (And.intro p0 (And.intro p1 (And.intro p2 p3)))
      clear heq hk hS hd hx hr hvx hbh hrow hsec hxl hops hskz hsl hfl p0 p1 p2 p3 q0 q1 q2 q3 h0 h1 h2 g0 g1 g2
      by_cases hlt : k < m
      · have k0 : (0 : Int) ≤ k := by omega
        have k1 : (k : Int) < m := by omega
        have tk : decide ((k : Int) + 1 < (N : Int)) = true := by have := HNM.out; simp; omega
        obtain ⟨gg, rfl⟩ : ∃ gg, gk = gg + 1 := ⟨gk - 1, by have := HK.out; omega⟩
        have heq := HEQ.out.1
        rw [readsM] at heq
        obtain ⟨q, hq⟩ : ∃ q, q = fst + 1 + k := ⟨_, rfl⟩
        rw [← hq] at heq
        have hadd : IntKind.i64.wrap ((fst : Int) + ((k : Int) + 1)) = (q : Int) := by rw [IntWalk.i64_in _ (by omega)]; omega
        have hsc := read_sec HD.out.ok (q : Int)
        rw [HOP.out.2] at hsc
        have HRD : Hid (∀ W, Kept wr.drew W [] → Calls Tryz.prog 51 #[.pointer (some ⟨b, 0, none⟩), .int .i64 (q : Int)] W (Post W [b] fun v V => ∃ r, v = .tuple #[r, .int .i64 (sk.read (q : Int)).2] ∧ Own 5 .u8 V W.heap.size r (sk.read (q : Int)).1 ∧ RDisk V b F X' sk.tick)) := Lib.hid (fun W kW => rread_any W b F X' sk (HD.out.kept kW) (by have := HOP.out.1; have := HO.out; have := HN1.out; omega) _)
        generalize sk.read (q : Int) = Q at *
        have HEQ4 := Lib.hid (And.intro heq trivial)
        have HQQ := Lib.hid hq
        have HSC := Lib.hid hsc
        clear heq HEQ hsc hq
        go_wp2_with fail
        obtain ⟨p0, p1, p2, p3⟩ := G1.out
        go_region_held3 (fun W => W.cell? ⟨w.heap.size, 0, none⟩ = some (.int .i64 x5) ∧ W.cell? ⟨w.heap.size, 1, none⟩ = some (.int .i64 x6) ∧ W.cell? ⟨w.heap.size, 2, none⟩ = some (.int .i64 x7) ∧ W.cell? ⟨b, 0, none⟩ = some (.int .i64 s.size)) (first | (with_reducible exact ⟨p0, p1, p2, p3⟩) | (with_reducible exact ⟨r0, r1, r2, r3⟩) | go_keep) (first
          | (go_at_call 42
             refine (HSP.out _).mono ?_
             rintro _ w5 ⟨_, rfl, rfl, k5⟩
             have r0 := k5.cell p0 (by simp)
             have r1 := k5.cell p1 (by simp)
             have r2 := k5.cell p2 (by simp)
             have r3 := k5.cell p3 (by simp)
             have K5 := Lib.hid k5
             clear k5))
        all_goals (
          have H5 := Lib.hid (HS.out.kept K5.out)
          have HB5 := Lib.hid (HBR.out.kept K5.out (by simp))
          have HR5 := Lib.hid (HRO.out.kept K5.out (by simp [Apart]))
          have HRD5 := Lib.hid (HRD.out w5 K5.out)
          clear p0 p1 p2 p3 r0 r1 r2 r3
          by_cases he : Q.2 ≠ 0
          · have te : (Q.2 != 0) = true := by simpa using he
            have heq := HEQ4.out.1
            rw [if_pos he] at heq
            have h3 := HEQ3.out.1
            rw [heq, if_pos he] at h3
            have HE := Lib.hid (And.intro h3 trivial)
            clear he heq h3
            go_wp2_with fail
            (with_reducible refine HRD5.out.mono ?_)
            rintro _ w6 ⟨_, rfl, ⟨rv, rfl, hrv, hd6⟩, k6⟩
            have H6 := Lib.hid (H5.out.read HXX.out.1 HXX.out.2 k6 hd6)
            clear hrv hd6 k6 HRD HRD5
            obtain ⟨hfd, hfk, hfb⟩ := H6.out.fin (.int .i64 0) (.int .i64 0) (.int .u64 0) (.slice none 0 0)
            have HFD := Lib.hid hfd
            have HFK := Lib.hid hfk
            have HFB := Lib.hid hfb
            clear hfd hfk hfb
            have hb6x := H6.out.r6
            have u0 := hb6x.cell 0 rfl
            have f0 := hb6x.free 0
            have u1 := hb6x.cell 1 rfl
            have f1 := hb6x.free 1
            have u2 := hb6x.cell 2 rfl
            have f2 := hb6x.free 2
            have u3 := hb6x.cell 3 rfl
            have f3 := hb6x.free 3
            clear hb6x
            go_wp2_with fail
            refine bodyPost_ret (results_pair_row Tryz.results16 _ _ _ _ _ _ _ _ (by simp [go_sem]) (by simp [go_sem]; rfl) HFB.out Tryz.underlying46 rfl rfl) rfl ?_
            refine ⟨_, rfl, ?_, HFK.out⟩
            rw [HE.out.1]
            exact ⟨_, 0, rfl, Sl.nil _ _ 0 0, .inl rfl, HFD.out⟩
          · have he0 : Q.2 = 0 := by
              by_cases e0 : Q.2 = 0
              · exact e0
              · exact absurd e0 he
            have te : (Q.2 != 0) = false := by simpa using he0
            have HQS := Lib.hid (HSC.out he0)
            have heq := HEQ4.out.1
            rw [if_neg he] at heq
            have HEQ5 := Lib.hid (And.intro heq trivial)
            clear he heq he0
            go_wp2_with fail
            (with_reducible refine HRD5.out.mono ?_)
            rintro _ w6 ⟨_, rfl, ⟨rv, rfl, hrv, hd6⟩, k6⟩
            have hb6 := H5.out.fb
            have H6 := Lib.hid (H5.out.read HXX.out.1 HXX.out.2 k6 hd6)
            have hr6 : Own 5 .u8 w6 w.heap.size (.slice Aw nx cw) xs.flatten := HR5.out.kept k6 (fun q hq hm => by have h1 := (HR5.out.lt q hq).1; simp at hm; omega)
            have hbh6 := HB5.out.kept k6 (by simp; have := HHH.out; omega)
            obtain ⟨brv, hsrv, _⟩ := hrv.sl
            have hq1 := HQS.out.1
            have hql : Q.1 ≠ [] := by intro e0; rw [e0] at hq1; have := HS12.out.1; simp at hq1; omega
            obtain ⟨crv, rfl⟩ := hsrv.at hql
            have hfb := HFL.out
            have hkm : k * s.size ≤ 200 * 4096 := Nat.mul_le_mul (by have := HN1.out.2; omega) HS12.out.2
            obtain ⟨v7, w7, hap, ho7, k7, hloc⟩ := u8_append hr6 (o := 0) hsrv (by rw [HNX.out]; have := HS12.out.2; omega) (by have h1 := H6.out.k.size; exact h1)
            have hown6 := hr6.lt
            have hsub : ∀ q, q ∈ (Value.slice Aw nx cw).ownBlock.toList → w.heap.size ≤ q ∧ q ∈ X' ∧ q ∉ F := fun q hq => by
              simp only [Option.mem_toList] at hq
              have h1 := (hown6 q hq).1
              exact ⟨h1, HVX.out q hq, fun hm => by have := H5.out.bF q hm; omega⟩
            have hd7 := hd6.beside (S := (Value.slice Aw nx cw).ownBlock.toList) (Y := v7.ownBlock.toList) k7 (fun q hq => (hsub q hq).2.1) (fun q hq => (hsub q hq).2.2) (fun q hq => by
              simp only [Option.mem_toList] at hq
              refine ⟨?_, (ho7.lt q hq).2⟩
              rcases hloc q hq with h | h
              · exact .inl (HVX.out q h)
              · exact .inr (by omega))
            have hne1 : ∀ {T : TypeId} {L : List Value} {bb : Nat}, Blk w6 bb T L → 5 ≠ T → bb ∉ (Value.slice Aw nx cw).ownBlock.toList := fun hB hT hm => by
              simp only [Option.mem_toList] at hm
              exact Own.ne_cells hr6 hB hT hm
            have H7 : Hid (RdS w w7 b F X sk.tick x5 x6 x7) := Lib.hid ⟨H6.out.g5.kept k7 (hne1 H6.out.g5 (by decide)), H6.out.r6.kept k7 (hne1 H6.out.r6 (by decide)), ⟨_, fun x hx => List.mem_append.2 (.inl (HXX.out.1 x hx)), List.mem_append.2 (.inl HXX.out.2), hd7⟩, H6.out.k.trans k7 (fun q hq => .inr (hsub q hq).1), H6.out.bF, H6.out.fX⟩
            have HB7 := Lib.hid (hbh6.kept k7 (hne1 hbh6 (by decide)))
            have HD7 := Lib.hid hd7
            have HO7 := Lib.hid ho7
            have HAP := Lib.hid hap
            have hflat : (xs ++ [Q.1]).flatten = xs.flatten ++ Q.1 := by simp
            rw [← hflat] at HO7
            clear hrv hd6 k6 HRD HRD5 hr6 hbh6 hsrv hap ho7 k7 hloc hown6 hsub hd7 hne1 hflat hfb hkm hq1 hql hb6
            go_wp2_with (first | (at_builtin; refine wpList_append_run rfl _ _ _ rfl rfl rfl HAP.out ?_))
            go_roundg gg
            case measure => omega
            case rel =>
              refine ⟨k + 1, sk.tick, xs ++ [Q.1], X' ++ v7.ownBlock.toList, by have := HK.out; omega, by go_num, ?_, H7.out, ⟨fun x hx => List.mem_append.2 (.inl (HXX.out.1 x hx)), List.mem_append.2 (.inl HXX.out.2), HD7.out⟩, fun q hq => List.mem_append.2 (.inr (by simp only [Option.mem_toList]; exact hq)), HB7.out, HO7.out, ?_, by rw [List.length_append, HXL.out]; rfl, by show sk.ops + 1 = _; rw [HOP.out.1]; omega, HOP.out.2⟩
              · rw [HEQ5.out.1, List.append_assoc, HQQ.out]
                rfl
              · intro x hx
                rcases List.mem_append.1 hx with h | h
                · exact HSE.out x h
                · simp at h; subst h; exact HQS.out)
      · have hkn : k = m := by have := HK.out; omega
        have hg0 : gk = 0 := by have := HK.out; omega
        subst hg0
        subst hkn
        have tk : decide ((k : Int) + 1 < (N : Int)) = false := by have := HNM.out; simp; omega
        have heqf := HEQ.out.1
        rw [readsM] at heqf
        simp only [List.append_nil] at heqf
        have h3 := HEQ3.out.1
        rw [heqf] at h3
        simp only [ne_eq, not_true_eq_false, if_false] at h3
        have hft : tot ≤ nx := by rw [HFL.out]; exact HTOT.out
        have hbf : Bts xs.flatten := flatten_bts HSE.out
        have HE0 := Lib.hid (And.intro h3 trivial)
        have HBF := Lib.hid hbf
        have HFT := Lib.hid hft
        have hkm : k * s.size ≤ 200 * 4096 := Nat.mul_le_mul HN1.out.2 HS12.out.2
        have hxn : nx ≤ 819200 := by rw [HFL.out]; omega
        have hxn1 : (nx : Int) ≤ 819200 := by omega
        have htn0 : (0 : Int) ≤ tot := by omega
        have htn1 : (tot : Int) ≤ nx := by omega
        clear heqf h3 hlt HEQ hft hbf hkm
        go_wp2_with fail
        obtain ⟨p0, p1, p2, p3⟩ := G1.out
        go_region_held3 (fun W => W.cell? ⟨w.heap.size, 0, none⟩ = some (.int .i64 x5) ∧ W.cell? ⟨w.heap.size, 1, none⟩ = some (.int .i64 x6) ∧ W.cell? ⟨w.heap.size, 2, none⟩ = some (.int .i64 x7) ∧ W.cell? ⟨b, 0, none⟩ = some (.int .i64 s.size)) (first | (with_reducible exact ⟨p0, p1, p2, p3⟩) | (with_reducible exact ⟨r0, r1, r2, r3⟩) | go_keep) (first
          | (go_at_call 42
             refine (HSP.out _).mono ?_
             rintro _ w5 ⟨_, rfl, rfl, k5⟩
             have r0 := k5.cell p0 (by simp)
             have r1 := k5.cell p1 (by simp)
             have r2 := k5.cell p2 (by simp)
             have r3 := k5.cell p3 (by simp)
             have K5 := Lib.hid k5
             clear k5))
        all_goals (
          clear p0 p1 p2 p3 r0 r1 r2 r3
          have H5 := Lib.hid ((HS.out.kept K5.out).kept (Kept.refl w5 []).drew)
          have HB5 := Lib.hid (HBR.out.kept K5.out (by simp))
          have hr5 := (HRO.out.kept K5.out (by simp [Apart]))
          obtain ⟨gw, hsl, hgw⟩ := hr5.sl
          obtain ⟨A2, cw2, e2, hcw1, hcw2, hcw3, _⟩ := id hsl
          simp only [Value.slice.injEq] at e2
          obtain ⟨rfl, _, rfl⟩ := e2
          have htk : (xs.flatten.take tot).length = tot := by rw [List.length_take, HNX.out]; have := HFT.out; omega
          have hpart : Sl .u8 w5 (.slice Aw tot cw) gw 0 (xs.flatten.take tot) := ⟨Aw, cw, by rw [htk], by rw [htk]; have := HFT.out; have := HNX.out; omega, hcw2, fun hne => hcw3 (fun e0 => hne (by rw [e0]; simp)), fun i x hi => by
            rw [List.getElem?_take] at hi
            split at hi
            · have := hsl.cell hi
              simpa using this
            · cases hi⟩
          have HPT := Lib.hid (hpart.kept (Kept.refl w5 []).drew (.inr (by simp)))
          have HSUM := Lib.hid (rsum_any w5.drew (.slice Aw tot cw) gw 0 (xs.flatten.take tot) HPT.out (HBF.out.take _) (by rw [htk]; omega))
          have HGW : Hid (xs.flatten.take tot = [] ∨ w.heap.size ≤ gw) := Lib.hid (hgw.elim (fun e0 => .inl (by rw [e0]; simp)) (fun h => .inr h.2))
          have HNE : Hid (xs.flatten.take tot = [] ∨ gw ∉ [w.heap.size + 1]) := Lib.hid (hgw.elim (fun e0 => .inl (by rw [e0]; simp)) (fun h => .inr (fun hm => by simp at hm; exact Own.ne_cells (Own.drew hr5) H5.out.r6 (by decide) (by rw [h.1, hm]))))
          have su := sumM_u32 (xs.flatten.take tot)
          have h3 := HB5.out.cell 3 rfl
          have h4 := HB5.out.cell 4 rfl
          have h5 := HB5.out.cell 5 rfl
          have h5d : w5.drew.cell? ⟨hh, 5, none⟩ = some (.int .u32 N20) := h5
          have H5D := Lib.hid h5d
          have hcwn : tot ≤ cw := by have := HFT.out; have := HNX.out; omega
          have hcwi : (tot : Int) ≤ cw := by omega
          have hcwm : (cw : Int) ≤ 9223372036854775807 := by unfold maxLen at hcw2; omega
          have heq3 := HE0.out.1
          clear hr5 hsl hpart hgw hcw1 hcw2 hcw3 htk h5d
          generalize xs.flatten.take tot = XT at *
          by_cases hsu : sumM XT ≠ N20
          · have ts : (sumM XT != N20) = true := by simpa using hsu
            rw [if_pos hsu] at heq3
            have HE := Lib.hid (And.intro heq3 trivial)
            clear hsu heq3
            go_wp2_with fail
            have h5d := H5D.out
            go_region_held3 (fun W => W.cell? ⟨hh, 5, none⟩ = some (.int .u32 N20)) (first | (with_reducible exact h5d) | (with_reducible exact h5e) | go_keep) (first
              | (go_at_call 47
                 (with_reducible refine HSUM.out.mono ?_)
                 rintro _ w6 ⟨_, rfl, rfl, k6⟩
                 have h5e := k6.cell h5d (by simp)
                 have H6 := Lib.hid (H5.out.kept k6)
                 clear k6))
            all_goals (
              clear h5d h5e h3 h4 h5
              obtain ⟨hfd, hfk, hfb⟩ := H6.out.fin (.int .i64 0) (.int .i64 8) (.int .u64 0) (.slice none 0 0)
              have HFD := Lib.hid hfd
              have HFK := Lib.hid hfk
              have HFB := Lib.hid hfb
              clear hfd hfk hfb
              have hb6x := H6.out.r6
              have u0 := hb6x.cell 0 rfl
              have f0 := hb6x.free 0
              have u1 := hb6x.cell 1 rfl
              have f1 := hb6x.free 1
              have u2 := hb6x.cell 2 rfl
              have f2 := hb6x.free 2
              have u3 := hb6x.cell 3 rfl
              have f3 := hb6x.free 3
              clear hb6x
              go_wp2_with fail
              refine bodyPost_ret (results_pair_row Tryz.results16 _ _ _ _ _ _ _ _ (by simp [go_sem]) (by simp [go_sem]; rfl) HFB.out Tryz.underlying46 rfl rfl) rfl ?_
              refine ⟨_, rfl, ?_, HFK.out⟩
              rw [HE.out.1]
              exact ⟨_, 0, rfl, Sl.nil _ _ 0 0, .inl rfl, HFD.out⟩)
          · have hsu0 : sumM XT = N20 := by
              by_cases e0 : sumM XT = N20
              · exact e0
              · exact absurd e0 hsu
            have ts : (sumM XT != N20) = false := by simpa using hsu0
            rw [if_neg hsu] at heq3
            have HE := Lib.hid (And.intro heq3 trivial)
            clear hsu heq3 hsu0
            go_wp2_with fail
            have h5d := H5D.out
            go_region_held3 (fun W => W.cell? ⟨hh, 5, none⟩ = some (.int .u32 N20)) (first | (with_reducible exact h5d) | (with_reducible exact h5e) | go_keep) (first
              | (go_at_call 47
                 (with_reducible refine HSUM.out.mono ?_)
                 rintro _ w6 ⟨_, rfl, rfl, k6⟩
                 have h5e := k6.cell h5d (by simp)
                 have h4e := k6.cell (w := w5.drew) h4 (by simp)
                 have H6 := Lib.hid (H5.out.kept k6)
                 have HP6 := Lib.hid (HPT.out.kept k6 (.inr (by simp)))
                 clear k6))
            all_goals (
              clear h5d h5e h3 h4 h5
              obtain ⟨hfd, hfk, hfb⟩ := H6.out.fin (.int .i64 2) (.int .i64 0) (.int .u64 N12) (.slice Aw tot cw)
              have HFD := Lib.hid hfd
              have HFK := Lib.hid hfk
              have HFB := Lib.hid hfb
              clear hfd hfk hfb
              have hb6x := H6.out.r6
              have u0 := hb6x.cell 0 rfl
              have f0 := hb6x.free 0
              have u1 := hb6x.cell 1 rfl
              have f1 := hb6x.free 1
              have u2 := hb6x.cell 2 rfl
              have f2 := hb6x.free 2
              have u3 := hb6x.cell 3 rfl
              have f3 := hb6x.free 3
              clear hb6x
              go_wp2_with fail
              refine bodyPost_ret (results_pair_row Tryz.results16 _ _ _ _ _ _ _ _ (by simp [go_sem]) (by simp [go_sem]; rfl) HFB.out Tryz.underlying46 rfl rfl) rfl ?_
              refine ⟨_, rfl, ?_, HFK.out⟩
              rw [HE.out.1]
              exact ⟨_, gw, rfl, HP6.out.kept (S := [w.heap.size + 1]) (kept4 (Kept.refl _ _) (.inl (by simp)) _ _ _ _) (HNE.out), HGW.out, HFD.out⟩)))
end Go.Proofs.YtlojgelidcjeaaaGreatDoor
