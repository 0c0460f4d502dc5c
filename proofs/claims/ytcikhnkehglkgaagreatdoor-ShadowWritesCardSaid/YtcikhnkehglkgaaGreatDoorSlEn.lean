/- PROVED: the contracts of head's right and Encode; the contract of head.Encode. No conditions beyond those that each theorem states. -/
import Derived.Test.YtcikhnkehglkgaaGreatDoorSlG
import Derived.Test.YtcikhnkehglkgaaGreatDoorSlH
import Derived.Lib.SlBytesConst
import Derived.Deep.RegionWith
import Derived.Lib.SmallJoins
namespace Go.Proofs.YtcikhnkehglkgaaGreatDoor
open Go.RowKit Go.Proofs.YtcikhnkehglkgaaGreatDoorLib
set_option linter.unusedSimpArgs false
set_option linter.unusedVariables false

theorem beq_comm_int (a b : Int) : (a == b) = decide (a = b) := by
  by_cases h : a = b <;> simp [h]
set_option maxRecDepth 100000 in
set_option maxHeartbeats 4000000 in
theorem hright_any (w : World) (hg : GeoLaid w) (e f s len seq sum : Int) :
    Calls Tryz.prog 117 #[.agg #[.int .i64 e, .int .i64 f, .int .i64 s, .int .i64 len, .int .u64 seq, .int .u32 sum]] w (Post w [] fun v W => v = .bool (gRight e f s && decide (len = gTotal e f s))) := by
  have hb0 := Blk.new w 108 [.int .i64 e, .int .i64 f, .int .i64 s, .int .i64 len, .int .u64 seq, .int .u32 sum]
  have q0 := hb0.drew.cell 0 rfl
  have q1 := hb0.drew.cell 1 rfl
  have q2 := hb0.drew.cell 2 rfl
  have q3 := hb0.drew.cell 3 rfl
  have HG1 := Lib.hid (hg.alloc (.cells #[.int .i64 e, .int .i64 f, .int .i64 s, .int .i64 len, .int .u64 seq, .int .u32 sum] 108)).drew
  have HR := Lib.hid (And.intro (fun w' => right_any w' e f s) trivial)
  have HT := Lib.hid (fun w' h => total_any w' h e f s)
  have kz : Kept w (w.alloc (.cells #[.int .i64 e, .int .i64 f, .int .i64 s, .int .i64 len, .int .u64 seq, .int .u32 sum] 108)).drew [] := ((Kept.refl w []).alloc _).drew
  have KZ := Lib.hid kz
  clear hb0 hg kz
  cases hr : gRight e f s
  · rw [hr] at HR
    go_enter Tryz.func117, Tryz.ntmps117
    go_wp2_with fail
    first | (go_region_with (first
      | (go_at_call 77
         refine (HR.out.1 _).mono ?_
         rintro _ w2 ⟨_, rfl, rfl, k2⟩
         have K2 := Lib.hid k2
         clear k2))) | fail
    all_goals (
      go_wp2_with fail
      go_ret
      exact ⟨_, rfl, rfl, KZ.out.trans K2.out (by simp)⟩)
  · rw [hr] at HR
    obtain ⟨T, hT⟩ : ∃ T, gTotal e f s = T := ⟨_, rfl⟩
    rw [hT] at HT ⊢
    clear hT hr
    go_enter Tryz.func117, Tryz.ntmps117
    go_wp2_with fail
    go_region_held3 (fun W => W.cell? ⟨w.heap.size, 0, none⟩ = some (.int .i64 e) ∧ W.cell? ⟨w.heap.size, 1, none⟩ = some (.int .i64 f) ∧ W.cell? ⟨w.heap.size, 2, none⟩ = some (.int .i64 s) ∧ W.cell? ⟨w.heap.size, 3, none⟩ = some (.int .i64 len)) (first | (with_reducible exact ⟨q0, q1, q2, q3⟩) | (with_reducible exact ⟨r0, r1, r2, r3⟩) | (with_reducible exact ⟨p0, p1, p2, p3⟩) | go_keep) (first
      | (go_at_call 77
         refine (HR.out.1 _).mono ?_
         rintro _ w2 ⟨_, rfl, rfl, k2⟩
         have r0 := k2.cell q0 (by simp)
         have r1 := k2.cell q1 (by simp)
         have r2 := k2.cell q2 (by simp)
         have r3 := k2.cell q3 (by simp)
         have HG2 := Lib.hid (HG1.out.kept k2 (by simp))
         have K2 := Lib.hid k2
         clear k2)
      | (go_at_call 112
         refine (HT.out _ HG2.out).mono ?_
         rintro _ w3 ⟨_, rfl, rfl, k3⟩
         have p0 := k3.cell r0 (by simp)
         have p1 := k3.cell r1 (by simp)
         have p2 := k3.cell r2 (by simp)
         have p3 := k3.cell r3 (by simp)
         have K3 := Lib.hid k3
         clear k3))
    all_goals (
      go_wp2_with fail
      go_ret
      exact ⟨_, rfl, by show Value.bool _ = Value.bool _; simp [beq_comm_int], (KZ.out.trans K2.out (by simp)).trans K3.out (by simp)⟩)
/-- an append onto a full row that may be anyone's -/
theorem sl_grow {P : Program} {t T : TypeId} {k : IntKind} {by' : Nat} (ht : P.underlying t = some (.slice T)) {i : TypeInfo} (hi : P.info? T = some i) (hz : i.zero = some (.int k 0)) (hs : i.size = 1) (hb : i.bytes = by') {w : World} {b o bm mo n n' c' : Nat} {l m : List Int}
    (h1 : ∀ (j : Nat) (x : Int), l[j]? = some x → w.cell? ⟨b, o + j, none⟩ = some (.int k x)) (hn : l.length = n) (h2 : ∀ (j : Nat) (x : Int), m[j]? = some x → w.cell? ⟨bm, mo + j, none⟩ = some (.int k x)) (hn' : m.length = n') (hm0 : 0 < m.length) (hby : (l.length + m.length) * by' ≤ 140737488355328) (hm : l.length + m.length ≤ maxLen) (ty : TypeId) :
    ∃ v' w', (Builtin.append_ #[t, t] ty #[.slice (some ⟨b, o, none⟩) n n, .slice (some ⟨bm, mo, none⟩) n' c']).run P w = .ok v' w' ∧ Own T k w' w.heap.size v' (l ++ m) ∧ Kept w w' [] := by
  subst hn
  subst hn'
  subst hb
  have e1 : (l.map (Value.int k)).length = l.length * i.size := by rw [List.length_map, hs, Nat.mul_one]
  have e2 : (m.map (Value.int k)).length = m.length * i.size := by rw [List.length_map, hs, Nat.mul_one]
  have hsmall : l.length + m.length ≤ 9223372036854775807 := by simp only [maxLen] at hm; omega
  have hr := run_append_grow (P := P) w t ty T i (.int k 0) ht hi hz ⟨b, o, none⟩ l.length l.length (l.map (Value.int k)) e1 (fun j u hj => by
      rw [List.getElem?_map] at hj
      cases hx : l[j]? with
      | none => rw [hx] at hj; simp at hj
      | some x =>
        rw [hx] at hj
        simp only [Option.map_some, Option.some.injEq] at hj
        subst hj
        rw [Addr.add_lit]
        exact h1 j x hx) ⟨bm, mo, none⟩ m.length c' (m.map (Value.int k)) e2 (fun j u hj => by
      rw [List.getElem?_map] at hj
      cases hx : m[j]? with
      | none => rw [hx] at hj; simp at hj
      | some x =>
        rw [hx] at hj
        simp only [Option.map_some, Option.some.injEq] at hj
        subst hj
        rw [Addr.add_lit]
        exact h2 j x hx) (by omega) (by omega) (growslice_fits (by omega) hby)
  have hge := grownCap_ge w (l.length + m.length) l.length T
  have hcm : grownCap w (l.length + m.length) l.length T ≤ maxLen := grownCap_le_maxLen w _ _ T hm
  refine ⟨_, _, hr, ⟨?_, .inr ⟨w.heap.size, _, _, by rw [List.length_append], Nat.le_refl _, heap_alloc_new w.drew _, ?_, hcm, ?_, ?_⟩⟩, (Kept.refl w []).drew.alloc _⟩
  · simp
  · rw [List.length_append]; exact hge
  · simp only [Array.size_append, List.size_toArray, List.length_map, size_zeroCells, Value.cells]
    simp
    omega
  · simp only [Array.toList_append, List.append_assoc]
    rw [← List.append_assoc, Nat.mul_one, List.map_append]
    have e3 : (l ++ m).length = (l.map (Value.int k) ++ m.map (Value.int k)).length := by simp
    rw [e3]
    exact List.take_left
end Go.Proofs.YtcikhnkehglkgaaGreatDoor
namespace Go.Proofs.YtcikhnkehglkgaaGreatDoor
open Go.RowKit Go.Proofs.YtcikhnkehglkgaaGreatDoorLib
set_option linter.unusedSimpArgs false
set_option linter.unusedVariables false

def encB (e f s len seq sum : Int) : List Int := [75, 69, 69, 80, 1, e, f, s] ++ layM len 4 ++ layM seq 8 ++ layM sum 4
def encL (e f s len seq sum : Int) : List Int := encB e f s len seq sum ++ layM (sumM (encB e f s len seq sum)) 4
theorem encB_len (e f s len seq sum : Int) : (encB e f s len seq sum).length = 24 := by simp [encB, layM_len]
theorem encL_len (e f s len seq sum : Int) : (encL e f s len seq sum).length = 28 := by simp [encL, encB_len, layM_len]
theorem gRight_byte {e f s : Int} (h : gRight e f s = true) : (0 ≤ e ∧ e ≤ 255) ∧ (0 ≤ f ∧ f ≤ 255) ∧ 0 ≤ s ∧ s ≤ 255 := by
  rw [gRight_iff] at h; omega
theorem encB_bts {e f s : Int} (h : gRight e f s = true) (len seq sum : Int) : Bts (encB e f s len seq sum) := by
  have := gRight_byte h
  unfold encB
  exact ((Bts.append (Bts.append (by intro x hx; simp at hx; omega) (layM_bts _ _)) (layM_bts _ _)).append (layM_bts _ _))
theorem encL_bts {e f s : Int} (h : gRight e f s = true) (len seq sum : Int) : Bts (encL e f s len seq sum) := (encB_bts h _ _ _).append (layM_bts _ _)
theorem Blk.keptB {w W : World} {b T base : Nat} {L : List Value} (h : Blk w b T L) (k : KeptB base w W) (hb : b < base) : Blk W b T L := by
  obtain ⟨S, h1, h2⟩ := k
  exact h.kept h2 (fun hm => absurd (h1 b hm) (by omega))
theorem cellm (w : World) (C : Array Value) (T : TypeId) (fr : Nat × Nat) (n j : Nat) (hn : n = w.heap.size) {v : Value} (hv : C[j]? = some v) : (w.alloc (.cells C T fr)).cell? ⟨n, j, none⟩ = some v := by
  subst hn; rw [World.cell?_alloc_mark]; exact hv
set_option maxRecDepth 100000 in
set_option maxHeartbeats 4000000 in
theorem encode_yes (w : World) (hg : GeoLaid w) (e f s len seq sum : Int) (hr : gRight e f s = true) (hl : len = gTotal e f s) (q0 : 0 ≤ seq) (q1 : seq ≤ 18446744073709551615) (u0 : 0 ≤ sum) (u1 : sum ≤ 4294967295) :
    Calls Tryz.prog 114 #[.agg #[.int .i64 e, .int .i64 f, .int .i64 s, .int .i64 len, .int .u64 seq, .int .u32 sum]] w (Post w [] fun r W => ∃ v, r = .tuple #[v, .int .i64 0] ∧ Own 5 .u8 W w.heap.size v (encL e f s len seq sum)) := by
  have hbyte := gRight_byte hr
  obtain ⟨⟨e0, e1⟩, ⟨f0, f1⟩, s0, s1⟩ := hbyte
  have hl0 : 0 ≤ len := by omega
  have hl1 : len ≤ 100000 := by have := gTotal_le e f s; omega
  have HBT := Lib.hid (And.intro (encB_bts hr len seq sum) trivial)
  have hR := hright_any (w.alloc (.cells #[.int .i64 e, .int .i64 f, .int .i64 s, .int .i64 len, .int .u64 seq, .int .u32 sum] 108)) (hg.alloc _) e f s len seq sum
  rw [hr, decide_eq_true hl] at hR
  replace hR := Lib.hid hR
  have hb0 := Blk.new w 108 [.int .i64 e, .int .i64 f, .int .i64 s, .int .i64 len, .int .u64 seq, .int .u32 sum]
  have x1 : IntKind.u8.wrap e = e := by rw [IntKind.wrap_u8]; omega
  have x2 : IntKind.u8.wrap f = f := by rw [IntKind.wrap_u8]; omega
  have x3 : IntKind.u8.wrap s = s := by rw [IntKind.wrap_u8]; omega
  have x4 : IntKind.u32.wrap len = len := by rw [IntKind.wrap_u32]; omega
  obtain ⟨i0, hi, hz0, hz1, hz2⟩ := info_parts info8
  have HI := Lib.hid hi
  have HZ0 := Lib.hid hz0
  have HZ1 := Lib.hid hz1
  have HZ2 := Lib.hid hz2
  clear hi hz0 hz1 hz2 hg hr hl
  go_enter Tryz.func114, Tryz.ntmps114
  go_wp2_with fail
  refine hR.out.mono ?_
  rintro _ w1 ⟨_, rfl, rfl, k1⟩
  have hb1 := hb0.kept k1 (by simp)
  have K1 := Lib.hid (((Kept.refl w []).alloc (.cells #[.int .i64 e, .int .i64 f, .int .i64 s, .int .i64 len, .int .u64 seq, .int .u32 sum] 108)).trans k1 (by simp))
  have HB1 := Lib.hid hb1
  have c0 := hb1.cell 0 rfl
  have c1 := hb1.cell 1 rfl
  have c2 := hb1.cell 2 rfl
  have hlt := hb1.lt
  clear hb0 hb1 k1 hR
  have kc := Go.Joins.run_convert_bytes_const_at (P := Tryz.prog) (w1.alloc (.cells #[.int .i64 e, .int .i64 f, .int .i64 s] 23)) 27 5 #[.int .u8 75, .int .u8 69, .int .u8 69, .int .u8 80] 4 4 (w1.heap.size + 1) (by simp) Tryz.underlying27 Tryz.underlying5
  simp only [List.size_toArray, List.length_cons, List.length_nil, Nat.zero_add, Nat.reduceAdd] at kc
  have kg0 : Kept w1 (((w1.alloc (.cells #[.int .i64 e, .int .i64 f, .int .i64 s] 23)).alloc (.cells #[.int .u8 75, .int .u8 69, .int .u8 69, .int .u8 80] 5 (4, 5))).alloc (.cells #[.int .u8 1, .int .u8 e, .int .u8 f, .int .u8 s] 5)) [] := (((Kept.refl w1 []).alloc _).alloc _).alloc _
  obtain ⟨v7, w7, hap, ho7, k7⟩ := sl_grow (P := Tryz.prog) (k := .u8) Tryz.underlying27 HI.out HZ0.out HZ1.out HZ2.out (w := ((w1.alloc (.cells #[.int .i64 e, .int .i64 f, .int .i64 s] 23)).alloc (.cells #[.int .u8 75, .int .u8 69, .int .u8 69, .int .u8 80] 5 (4, 5))).alloc (.cells #[.int .u8 1, .int .u8 e, .int .u8 f, .int .u8 s] 5)) (b := w1.heap.size + 1) (o := 0) (bm := w1.heap.size + 1 + 1) (mo := 0) (n := 4) (n' := 4) (c' := 4) (l := [75, 69, 69, 80]) (m := [1, e, f, s])
    (fun j x hx => by
      have hj : j < 4 := (List.getElem?_eq_some_iff.1 hx).1
      have : j = 0 ∨ j = 1 ∨ j = 2 ∨ j = 3 := by omega
      rcases this with rfl | rfl | rfl | rfl <;> (simp at hx; subst hx; exact Lib.cell?_alloc_some _ (cellm _ _ _ _ _ _ (by simp) rfl))) rfl
    (fun j x hx => by
      have hj : j < 4 := (List.getElem?_eq_some_iff.1 hx).1
      have : j = 0 ∨ j = 1 ∨ j = 2 ∨ j = 3 := by omega
      rcases this with rfl | rfl | rfl | rfl <;> (simp at hx; subst hx; exact cellm _ _ _ _ _ _ (by simp) rfl)) rfl (by simp) (by simp) (by unfold maxLen; simp) 27
  have HAP := Lib.hid hap
  have HO7 := Lib.hid (Own.mono ho7 (show w1.heap.size ≤ _ by have := kg0.size; exact this))
  have K7 := Lib.hid (kg0.trans k7 (by simp))
  clear hap ho7 k7 kg0
  have hb7 := HB1.out.kept K7.out (by simp)
  have d3 := hb7.cell 3 rfl
  have HB7 := Lib.hid hb7
  clear hb7
  go_wp2_with (first | (at_builtin; refine wpList_append_run rfl _ _ _ rfl rfl rfl HAP.out ?_))
  refine (lay32_any w7 w1.heap.size K7.out.size v7 _ len 4 HO7.out (by simp) (by omega) hl0 (by omega)).mono ?_
  rintro _ w8 ⟨v8, rfl, ho8, k8⟩
  have HO8 := Lib.hid ho8
  have K8 := Lib.hid ((KeptB.of K7.out (by simp)).trans k8)
  have hb8 := Blk.keptB HB7.out k8 hlt
  have d4 := hb8.cell 4 rfl
  have HB8 := Lib.hid hb8
  clear hb8 ho8 k8
  go_wp2_with fail
  refine (lay64_any w8 w1.heap.size K8.out.size v8 _ seq 8 HO8.out (by simp [layM_len]) (by omega) q0 q1).mono ?_
  rintro _ w9 ⟨v9, rfl, ho9, k9⟩
  have HO9 := Lib.hid ho9
  have K9 := Lib.hid (K8.out.trans k9)
  have hb9 := Blk.keptB HB8.out k9 hlt
  have d5 := hb9.cell 5 rfl
  have HB9 := Lib.hid hb9
  clear hb9 ho9 k9
  go_wp2_with fail
  refine (lay32_any w9 w1.heap.size K9.out.size v9 _ sum 4 HO9.out (by simp [layM_len]) (by omega) u0 u1).mono ?_
  rintro _ w10 ⟨v10, rfl, ho10, k10⟩
  have HO10 := Lib.hid (show Own 5 .u8 w10 w1.heap.size v10 (encB e f s len seq sum) from ho10)
  have K10 := Lib.hid (K9.out.trans k10)
  obtain ⟨b10, hsl, _⟩ := HO10.out.sl
  have HSUM := Lib.hid (sum_any w10 v10 b10 0 _ hsl HBT.out.1)
  clear ho10 k10 hsl
  go_wp2_with fail
  refine HSUM.out.mono ?_
  rintro _ w11 ⟨_, rfl, rfl, k11⟩
  have HO11 := Lib.hid (HO10.out.kept k11 (by intro g hg; simp))
  have K11 := Lib.hid (K10.out.trans (KeptB.of k11 (by simp)))
  have hsu := sumM_u32 (encB e f s len seq sum)
  have hE := Lib.hid (And.intro (show encL e f s len seq sum = encB e f s len seq sum ++ layM (sumM (encB e f s len seq sum)) 4 from rfl) (encB_len e f s len seq sum))
  generalize sumM (encB e f s len seq sum) = su at *
  clear k11
  go_wp2_with fail
  refine (lay32_any w11 w1.heap.size K11.out.size v10 _ su 4 HO11.out (by rw [hE.out.2]; omega) (by omega) hsu.1 hsu.2).mono ?_
  rintro _ w12 ⟨v12, rfl, ho12, k12⟩
  have HO12 := Lib.hid ho12
  have K12 := Lib.hid (K11.out.trans k12)
  clear ho12 k12
  go_wp2_with fail
  go_ret2
  refine ⟨_, rfl, ⟨_, rfl, ?_⟩, K12.out.kept (by have := K1.out.size; exact this) K1.out⟩
  have h := HO12.out
  rw [← hE.out.1] at h
  exact Own.mono h K1.out.size
end Go.Proofs.YtcikhnkehglkgaaGreatDoor
