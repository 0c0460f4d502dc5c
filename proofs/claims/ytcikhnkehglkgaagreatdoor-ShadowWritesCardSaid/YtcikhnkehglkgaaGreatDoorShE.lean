/- PROVED: the contracts of image.sizes and image.Factory, of chips of up to five hundred bytes. No conditions beyond those that each theorem states. -/
import Derived.Test.YtcikhnkehglkgaaGreatDoorShD
import Derived.Test.YtcikhnkehglkgaaGreatDoorShP
import Derived.Lib.AppendZerosOnto
import Derived.Deep.RegionHeld3
namespace Go.Proofs.YtcikhnkehglkgaaGreatDoor
open Go.RowKit Go.Proofs.YtcikhnkehglkgaaGreatDoorLib
set_option linter.unusedSimpArgs false
set_option linter.unusedVariables false

theorem zerosC {z : Value} (hz : z.cells = #[z]) (k : Nat) : (Builtin.zeroCells z.cells k).toList = List.replicate k z := by
  rw [hz]
  apply List.ext_getElem
  · simp [Builtin.zeroCells]
  · intro j h1 h2
    simp [Builtin.zeroCells, Nat.mod_one]
/-- zeros behind what is full -/
theorem zeros_full {W : World} {b off : Nat} {l : List Int} {A : Option Addr} (h : Sl .u8 W (.slice A l.length l.length) b off l) (k : Nat) (hn : l.length + k ≤ 1000000) :
    ∃ v' w' q o, (Builtin.append_ #[27, 3] 27 #[.slice A l.length l.length, .int .i64 k]).run Tryz.prog W = .ok v' w' ∧ Sl .u8 w' v' q o (l ++ List.replicate k 0) ∧ ((k = 0 ∧ q = b ∧ o = off) ∨ (W.heap.size = q ∧ o = 0)) ∧ Kept W w' [] := by
  obtain ⟨i0, hi, hz0, hz1, hz2⟩ := info_parts info8
  have ht := Tryz.underlying27
  have htn := Tryz.underlying3
  by_cases hk : k = 0
  · subst hk
    refine ⟨.slice A l.length l.length, W, b, off, ?_, by rw [List.replicate_zero, List.append_nil]; exact h, .inl ⟨rfl, rfl, rfl⟩, Kept.refl _ _⟩
    cases A <;> simp [Builtin.append_, run_underlying ht, run_underlying htn, sizeOf, typeInfo, zeroValue, hi, hz0, asInt, asIntOf, show IntKind.i64.wrap 0 = 0 from rfl, hz1, storeCells]
  · have hold : (Builtin.firstCells i0.size l.length (.slice A l.length l.length)).run Tryz.prog W.drew = .ok (l.map (Value.int .u8)).toArray W.drew := by
      rw [hz1]
      obtain ⟨A', c, e, _, _, ha, hcell⟩ := h
      simp only [Value.slice.injEq] at e
      obtain ⟨rfl, _, _⟩ := e
      cases A with
      | none =>
        have : l = [] := by
          by_cases hl : l = []
          · exact hl
          · have := ha hl; cases this
        subst this
        rfl
      | some a =>
        show (loadCells a (l.length * 1)).run Tryz.prog W.drew = _
        rw [Nat.mul_one]
        have := run_loadCells_list (P := Tryz.prog) W.drew a (l.map (Value.int .u8)) (fun j v hj => by
          rw [List.getElem?_map] at hj
          cases hx : l[j]? with
          | none => rw [hx] at hj; simp at hj
          | some x =>
            rw [hx] at hj
            simp only [Option.map_some, Option.some.injEq] at hj
            subst hj
            have hne : l ≠ [] := by intro e; subst e; simp at hx
            have ea := ha hne
            simp only [Option.some.injEq] at ea
            subst ea
            rw [Addr.add_lit]
            exact hcell j x hx)
        rw [List.length_map] at this
        exact this
    have hr := Lib.run_append_grow_zeros (P := Tryz.prog) W 27 3 27 5 i0 (.int .u8 0) .i64 .i64 ht htn hi hz0 A l.length l.length _ hold k (by omega) (by omega) (by omega) (by omega) (by rw [hz2]; omega) (by
      have h1 := nextslicecap_le (show l.length < l.length + k by omega)
      rw [hz2]; omega)
    have hge := grownCap_ge W (l.length + k) l.length 5
    have hcm : grownCap W (l.length + k) l.length 5 ≤ maxLen := grownCap_le_maxLen W (l.length + k) l.length 5 (by unfold maxLen; omega)
    refine ⟨_, _, W.heap.size, 0, hr, ?_, .inr ⟨rfl, rfl⟩, (Kept.refl W []).drew.alloc _⟩
    have hl : (l ++ List.replicate k 0).length = l.length + k := by simp
    refine ⟨_, _, by rw [hl], by rw [hl]; exact hge, hcm, fun _ => rfl, fun i x hx => ?_⟩
    rw [Nat.zero_add]
    unfold World.cell?
    have hh := heap_alloc_new W.drew (.cells ((l.map (Value.int .u8)).toArray ++ Builtin.zeroCells (Value.int .u8 0).cells k ++ Builtin.zeroCells (Value.int .u8 0).cells (grownCap W (l.length + k) l.length 5 - (l.length + k))) 5)
    have hs : W.drew.heap.size = W.heap.size := rfl
    rw [hs] at hh
    simp only [hh]
    have hlt : i < (l ++ List.replicate k 0).length := (List.getElem?_eq_some_iff.1 hx).1
    have e1 : (((l.map (Value.int .u8)).toArray ++ Builtin.zeroCells (Value.int .u8 0).cells k ++ Builtin.zeroCells (Value.int .u8 0).cells (grownCap W (l.length + k) l.length 5 - (l.length + k))).toList)[i]? = some (.int .u8 x) := by
      rw [Array.toList_append, Array.toList_append, zerosC rfl k]
      simp only [List.toList_toArray]
      have e2 : (l.map (Value.int .u8)) ++ List.replicate k (Value.int .u8 0) = (l ++ List.replicate k 0).map (Value.int .u8) := by simp
      rw [e2, List.getElem?_append_left (by rw [List.length_map]; exact hlt), List.getElem?_map, hx]
      rfl
    rw [← Array.getElem?_toList]
    exact e1
set_option maxHeartbeats 4000000 in
theorem sizes_any (w : World) (hg : GeoLaid w) (e f s : Int) (hr : gRight e f s = true) :
    Calls Tryz.prog 78 #[.agg #[.int .i64 e, .int .i64 f, .int .i64 s]] w (fun ee W => ee = .returned (.tuple #[.int .i64 (gE e : Nat), .int .i64 (f * 256), .int .i64 (s * 64)]) ∧ Kept w W []) := by
  have hr' := (gRight_iff e f s).1 hr
  obtain ⟨⟨e1, e2⟩, ⟨f1, f2⟩, s1, s2⟩ := hr'
  obtain ⟨E, hE⟩ : ∃ E, gE e = E := ⟨_, rfl⟩
  have HC := Lib.hid (fun w' (h : GeoLaid w') => hE ▸ geoE_any w' h e e1 e2)
  rw [hE]
  clear hr hE
  go_enter Tryz.func78, Tryz.ntmps78
  go_upto_region 1 with fail
  have hb1 := Blk.new w 23 [.int .i64 e, .int .i64 f, .int .i64 s]
  have K1 := Lib.hid ((Kept.refl w []).alloc (.cells #[.int .i64 e, .int .i64 f, .int .i64 s] 23))
  have HG := Lib.hid (hg.alloc (.cells #[.int .i64 e, .int .i64 f, .int .i64 s] 23))
  have hw1 : ∃ w1, w1 = w.alloc (.cells #[.int .i64 e, .int .i64 f, .int .i64 s] 23) := ⟨_, rfl⟩
  obtain ⟨w1, hw1⟩ := hw1
  have hb1' : Blk w1 w.heap.size 23 [.int .i64 e, .int .i64 f, .int .i64 s] := by rw [hw1]; exact hb1
  rw [← hw1] at K1 HG
  rw [← hw1]
  clear hw1 hb1
  have q0 := hb1'.cell 0 rfl
  have q1 := hb1'.cell 1 rfl
  have q2 := hb1'.cell 2 rfl
  have q0d : w1.drew.cell? ⟨w.heap.size, 0, none⟩ = some (.int .i64 e) := q0
  have q1d : w1.drew.cell? ⟨w.heap.size, 1, none⟩ = some (.int .i64 f) := q1
  have q2d : w1.drew.cell? ⟨w.heap.size, 2, none⟩ = some (.int .i64 s) := q2
  have HG1 := Lib.hid HG.out.drew
  clear hb1' hg
  go_wp2_with fail
  go_region_held3 (fun W => W.cell? ⟨w.heap.size, 0, none⟩ = some (.int .i64 e) ∧ W.cell? ⟨w.heap.size, 1, none⟩ = some (.int .i64 f) ∧ W.cell? ⟨w.heap.size, 2, none⟩ = some (.int .i64 s)) (first | (with_reducible exact ⟨q0d, q1d, q2d⟩) | (with_reducible exact ⟨r0, r1, r2⟩) | go_keep) (first
    | (go_at_call 107
       refine (HC.out _ HG1.out).mono ?_
       rintro _ w2 ⟨_, rfl, rfl, k2⟩
       have r0 := k2.cell q0d (by simp)
       have r1 := k2.cell q1d (by simp)
       have r2 := k2.cell q2d (by simp)
       have K2 := Lib.hid k2
       clear k2)
    | (go_at_call 108
       refine (flash_any _ f f1 f2).mono ?_
       rintro _ _ ⟨rfl, rfl⟩)
    | (go_at_call 109
       refine (sram_any _ s s1 s2).mono ?_
       rintro _ _ ⟨rfl, rfl⟩))
  all_goals (
    go_wp2_with fail
    refine bodyPost_ret (v := .tuple #[.int .i64 (E : Nat), .int .i64 (f * 256), .int .i64 (s * 64)]) (by simp [results, Tryz.results78, go_sem]) rfl ?_
    exact ⟨rfl, K1.out.drew.trans K2.out (by simp)⟩)
theorem rep_any (w : World) (v : Value) (bq off : Nat) (x : Int) (hs : Sl .u8 w v bq off [x]) (n : Nat) (h8 : n ≤ 8192) :
    Calls Tryz.prog 79 #[v, .int .i64 n] w (fun e V => ∃ A q, e = .returned (.slice A n n) ∧ Sl .u8 V (.slice A (List.replicate n x).length (List.replicate n x).length) q 0 (List.replicate n x) ∧ (n = 0 ∨ w.heap.size ≤ q) ∧ Kept w V []) := by
  by_cases h0 : n = 0
  · subst h0
    refine (repeat_zero w v).mono ?_
    rintro _ V ⟨c, rfl, k⟩
    exact ⟨c, 0, rfl, ⟨c, 0, rfl, Nat.le_refl _, Nat.zero_le _, fun h => absurd rfl h, fun i x h => by simp at h⟩, .inl rfl, k⟩
  · refine (repeat_any w v bq off x hs n (by omega) h8).mono ?_
    rintro _ V ⟨q, rfl, h, hq, k⟩
    exact ⟨_, q, rfl, by rw [List.length_replicate]; exact h, .inr hq, k⟩
set_option maxRecDepth 100000 in
set_option maxHeartbeats 1000000 in
theorem factory_any (w : World) (hg : GeoLaid w) (e f s : Int) (hr : gRight e f s = true) (h8 : gTotal e f s ≤ 8192) :
    Calls Tryz.prog 50 #[.agg #[.int .i64 e, .int .i64 f, .int .i64 s]] w (fun ee W => ∃ v q o, ee = .returned (.tuple #[v, .int .i64 0]) ∧ Sl .u8 W v q o (facL e f s) ∧ (facL e f s = [] ∨ w.heap.size ≤ q) ∧ Kept w W []) := by
  have hr' := (gRight_iff e f s).1 hr
  obtain ⟨⟨e1, e2⟩, ⟨f1, f2⟩, s1, s2⟩ := hr'
  have htot : gTotal e f s = gE e + 256 * f.toNat + 64 * s.toNat := by unfold gTotal; rw [if_pos hr]
  have hfac : facL e f s = List.replicate (gE e + 256 * f.toNat) 255 ++ List.replicate (64 * s.toNat) 0 := rfl
  have hb := Blk.new w 23 [.int .i64 e, .int .i64 f, .int .i64 s]
  have k0 : Kept w (w.alloc (.cells #[.int .i64 e, .int .i64 f, .int .i64 s] 23)) [] := (Kept.refl w []).alloc _
  have HR := Lib.hid (right_any (w.alloc (.cells #[.int .i64 e, .int .i64 f, .int .i64 s] 23)) e f s)
  rw [hr] at HR
  have HSZ := Lib.hid (fun W (h : GeoLaid W) => sizes_any W h e f s hr)
  have HG := Lib.hid (And.intro hg trivial)
  have HB := Lib.hid hb
  have K0 := Lib.hid k0
  obtain ⟨n, hn⟩ : ∃ n, gE e + 256 * f.toNat = n := ⟨_, rfl⟩
  obtain ⟨m, hm⟩ : ∃ m, 64 * s.toNat = m := ⟨_, rfl⟩
  have x1 : IntKind.i64.wrap ((gE e : Nat) + f * 256 : Int) = n := by rw [IntKind.wrap_i64]; omega
  have x2 : s * 64 = (m : Int) := by omega
  rw [x2] at HSZ
  rw [hn, hm] at hfac
  have HF := Lib.hid (And.intro hfac (show n + m ≤ 8192 by omega))
  generalize facL e f s = FL at *
  clear hfac hn hm htot hg hb k0 hr h8 e1 e2 f1 f2 s1 s2 x2
  go_enter Tryz.func50, Tryz.ntmps50
  go_wp2_with fail
  refine HR.out.mono ?_
  rintro _ w1 ⟨_, rfl, rfl, k1⟩
  have hb1 := HB.out.kept k1 (by simp)
  have HK1 := Lib.hid (K0.out.trans k1 (by simp))
  have q0 := hb1.cell 0 rfl
  have q1 := hb1.cell 1 rfl
  have q2 := hb1.cell 2 rfl
  clear k1 hb1
  go_wp2_with fail
  refine (HSZ.out _ (HG.out.1.kept HK1.out (by simp))).mono ?_
  rintro _ w2 ⟨rfl, k2⟩
  have HK2 := Lib.hid (HK1.out.trans k2 (by simp))
  clear k2 q0 q1 q2
  go_wp2_with fail
  have hsl : Sl .u8 (w2.alloc (.cells #[.int .u8 255] 5)) (.slice (some ⟨w2.heap.size, 0, none⟩) 1 1) w2.heap.size 0 [255] := Sl.of_blk [255] (Blk.new w2 5 [.int .u8 255]) rfl 1 (Nat.le_refl _) (by unfold maxLen; omega)
  refine (rep_any _ _ _ _ 255 hsl n (by have := HF.out.2; omega)).mono ?_
  rintro _ w3 ⟨A, q, rfl, hS, hq, k3⟩
  have HK3 := Lib.hid ((HK2.out.alloc (.cells #[.int .u8 255] 5)).trans k3 (by simp))
  have hsz : w.heap.size ≤ w2.heap.size := HK2.out.size
  obtain ⟨v', w4, q', o', hrun, hs4, hloc, k4⟩ := zeros_full hS m (by rw [List.length_replicate]; have := HF.out.2; omega)
  rw [List.length_replicate] at hrun
  have HAP := Lib.hid hrun
  have HS4 := Lib.hid (And.intro hs4 k4)
  have HLOC : Hid (FL = [] ∨ w.heap.size ≤ q') := Lib.hid (by
    have h5 : w.heap.size ≤ w3.heap.size := HK3.out.size
    rcases hloc with ⟨hm, rfl, _⟩ | ⟨h, _⟩
    · rcases hq with h | h
      · left; rw [HF.out.1, h, hm]; rfl
      · right
        simp only [World.size_alloc] at h
        omega
    · right; omega)
  clear hsl hS hq k3 hsz hrun hs4 hloc k4
  go_wp2_with (at_builtin; refine Go.Lib.wpList_append_run _ rfl _ _ _ _ rfl _ _ rfl rfl _ _ HAP.out ?_)
  go_ret2
  exact ⟨v', q', o', rfl, by rw [HF.out.1]; exact HS4.out.1, HLOC.out, HK3.out.trans HS4.out.2 (by simp)⟩
end Go.Proofs.YtcikhnkehglkgaaGreatDoor
