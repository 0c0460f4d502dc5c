/- PROVED: the contracts of head's right and Encode. No conditions beyond those that each theorem states. -/
import Derived.Test.YtlglbgemmljmlaaDoorSlG
import Derived.Test.YtlglbgemmljmlaaDoorSlH
import Derived.Lib.SlBytesConst
import Derived.Deep.RegionWith
namespace Go.Proofs.YtlglbgemmljmlaaDoor
open Go.RowKit Go.Proofs.YtlglbgemmljmlaaDoorLib
set_option linter.unusedSimpArgs false
set_option linter.unusedVariables false

theorem beq_comm_int (a b : Int) : (a == b) = decide (a = b) := by
  by_cases h : a = b <;> simp [h]
set_option maxRecDepth 100000 in
set_option maxHeartbeats 4000000 in
theorem hright_any (w : World) (hg : GeoLaid w) (e f s len seq sum : Int) :
    Calls Tryd.prog 68 #[.agg #[.int .i64 e, .int .i64 f, .int .i64 s, .int .i64 len, .int .u64 seq, .int .u32 sum]] w (Post w [] fun v W => v = .bool (gRight e f s && decide (len = gTotal e f s))) := by
  have hb0 := Blk.new w 82 [.int .i64 e, .int .i64 f, .int .i64 s, .int .i64 len, .int .u64 seq, .int .u32 sum]
  have q0 := hb0.drew.cell 0 rfl
  have q1 := hb0.drew.cell 1 rfl
  have q2 := hb0.drew.cell 2 rfl
  have q3 := hb0.drew.cell 3 rfl
  have HG1 := Lib.hid (hg.alloc (.cells #[.int .i64 e, .int .i64 f, .int .i64 s, .int .i64 len, .int .u64 seq, .int .u32 sum] 82)).drew
  have HR := Lib.hid (And.intro (fun w' => right_any w' e f s) trivial)
  have HT := Lib.hid (fun w' h => total_any w' h e f s)
  have kz : Kept w (w.alloc (.cells #[.int .i64 e, .int .i64 f, .int .i64 s, .int .i64 len, .int .u64 seq, .int .u32 sum] 82)).drew [] := ((Kept.refl w []).alloc _).drew
  have KZ := Lib.hid kz
  clear hb0 hg kz
  cases hr : gRight e f s
  · rw [hr] at HR
    go_enter Tryd.func68, Tryd.ntmps68
    go_wp2_with fail
    first | (go_region_with (first
      | (go_at_call 33
         refine (HR.out.1 _).mono ?_
         rintro _ w2 ⟨_, rfl, rfl, k2⟩
         have K2 := Lib.hid k2
         clear k2))) | fail
    all_goals (
      go_wp2_with fail
      go_ret
      exact ⟨_, rfl, rfl, KZ.out.trans K2.out (by simp)⟩)
  · rw [hr] at HR
    obtain ⟨T, hT⟩ : ∃ T, gTotal e f s = T := ⟨_, rfl⟩
    rw [hT] at HT ⊢
    clear hT hr
    go_enter Tryd.func68, Tryd.ntmps68
    go_wp2_with fail
    go_region_held3 (fun W => W.cell? ⟨w.heap.size, 0, none⟩ = some (.int .i64 e) ∧ W.cell? ⟨w.heap.size, 1, none⟩ = some (.int .i64 f) ∧ W.cell? ⟨w.heap.size, 2, none⟩ = some (.int .i64 s) ∧ W.cell? ⟨w.heap.size, 3, none⟩ = some (.int .i64 len)) (first | (with_reducible exact ⟨q0, q1, q2, q3⟩) | (with_reducible exact ⟨r0, r1, r2, r3⟩) | (with_reducible exact ⟨p0, p1, p2, p3⟩) | go_keep) (first
      | (go_at_call 33
         refine (HR.out.1 _).mono ?_
         rintro _ w2 ⟨_, rfl, rfl, k2⟩
         have r0 := k2.cell q0 (by simp)
         have r1 := k2.cell q1 (by simp)
         have r2 := k2.cell q2 (by simp)
         have r3 := k2.cell q3 (by simp)
         have HG2 := Lib.hid (HG1.out.kept k2 (by simp))
         have K2 := Lib.hid k2
         clear k2)
      | (go_at_call 35
         refine (HT.out _ HG2.out).mono ?_
         rintro _ w3 ⟨_, rfl, rfl, k3⟩
         have p0 := k3.cell r0 (by simp)
         have p1 := k3.cell r1 (by simp)
         have p2 := k3.cell r2 (by simp)
         have p3 := k3.cell r3 (by simp)
         have K3 := Lib.hid k3
         clear k3))
    all_goals (
      go_wp2_with fail
      go_ret
      exact ⟨_, rfl, by show Value.bool _ = Value.bool _; simp [beq_comm_int], (KZ.out.trans K2.out (by simp)).trans K3.out (by simp)⟩)
/-- an append onto a full row that may be anyone's -/
theorem sl_grow {P : Program} {t T : TypeId} {k : IntKind} {by' : Nat} (ht : P.underlying t = some (.slice T)) {i : TypeInfo} (hi : P.info? T = some i) (hz : i.zero = some (.int k 0)) (hs : i.size = 1) (hb : i.bytes = by') {w : World} {b o bm mo n n' c' : Nat} {l m : List Int}
    (h1 : ∀ (j : Nat) (x : Int), l[j]? = some x → w.cell? ⟨b, o + j, none⟩ = some (.int k x)) (hn : l.length = n) (h2 : ∀ (j : Nat) (x : Int), m[j]? = some x → w.cell? ⟨bm, mo + j, none⟩ = some (.int k x)) (hn' : m.length = n') (hm0 : 0 < m.length) (hby : (l.length + m.length) * by' ≤ 140737488355328) (hm : l.length + m.length ≤ maxLen) (ty : TypeId) :
    ∃ v' w', (Builtin.append_ #[t, t] ty #[.slice (some ⟨b, o, none⟩) n n, .slice (some ⟨bm, mo, none⟩) n' c']).run P w = .ok v' w' ∧ Own T k w' w.heap.size v' (l ++ m) ∧ Kept w w' [] := by
  subst hn
  subst hn'
  subst hb
  have e1 : (l.map (Value.int k)).length = l.length * i.size := by rw [List.length_map, hs, Nat.mul_one]
  have e2 : (m.map (Value.int k)).length = m.length * i.size := by rw [List.length_map, hs, Nat.mul_one]
  have hsmall : l.length + m.length ≤ 9223372036854775807 := by simp only [maxLen] at hm; omega
  have hr := run_append_grow (P := P) w t ty T i (.int k 0) ht hi hz ⟨b, o, none⟩ l.length l.length (l.map (Value.int k)) e1 (fun j u hj => by
      rw [List.getElem?_map] at hj
      cases hx : l[j]? with
      | none => rw [hx] at hj; simp at hj
      | some x =>
        rw [hx] at hj
        simp only [Option.map_some, Option.some.injEq] at hj
        subst hj
        rw [Addr.add_lit]
        exact h1 j x hx) ⟨bm, mo, none⟩ m.length c' (m.map (Value.int k)) e2 (fun j u hj => by
      rw [List.getElem?_map] at hj
      cases hx : m[j]? with
      | none => rw [hx] at hj; simp at hj
      | some x =>
        rw [hx] at hj
        simp only [Option.map_some, Option.some.injEq] at hj
        subst hj
        rw [Addr.add_lit]
        exact h2 j x hx) (by omega) (by omega) (growslice_fits (by omega) hby)
  have hge := grownCap_ge w (l.length + m.length) l.length T
  have hcm : grownCap w (l.length + m.length) l.length T ≤ maxLen := grownCap_le_maxLen w _ _ T hm
  refine ⟨_, _, hr, ⟨?_, .inr ⟨w.heap.size, _, _, by rw [List.length_append], Nat.le_refl _, heap_alloc_new w.drew _, ?_, hcm, ?_, ?_⟩⟩, (Kept.refl w []).drew.alloc _⟩
  · simp
  · rw [List.length_append]; exact hge
  · simp only [Array.size_append, List.size_toArray, List.length_map, size_zeroCells, Value.cells]
    simp
    omega
  · simp only [Array.toList_append, List.append_assoc]
    rw [← List.append_assoc, Nat.mul_one, List.map_append]
    have e3 : (l ++ m).length = (l.map (Value.int k) ++ m.map (Value.int k)).length := by simp
    rw [e3]
    exact List.take_left
end Go.Proofs.YtlglbgemmljmlaaDoor
