/- PROVED: the contract of bytes.Repeat at one byte, up to a thousand times. No conditions beyond those that each theorem states. -/
import Derived.Test.YtcikhnkehglkgaaGreatDoorBy
import Derived.Test.YtcikhnkehglkgaaGreatDoorClo
import Derived.Test.YtcikhnkehglkgaaGreatDoorShm
import Derived.Lib.MakeNoZero
import Derived.Lib.SlBuf
import Derived.Deep.RegionLaw
import Derived.Deep.CutRange
namespace Go.Proofs.YtcikhnkehglkgaaGreatDoor
open Go.RowKit Go.Proofs.YtcikhnkehglkgaaGreatDoorLib
set_option linter.unusedSimpArgs false
set_option linter.unusedVariables false

/-- a new row that is being filled -/
def Fil (T : TypeId) (w : World) (g n : Nat) (l : List Int) : Prop := ∃ cur : Array Value, w.heap[g]? = some (.cells cur T (0, 0)) ∧ n ≤ cur.size ∧ l.length ≤ n ∧ cur.toList.take l.length = l.map (Value.int .u8)
theorem Fil.sl {T : TypeId} {w : World} {g n : Nat} {l : List Int} (h : Fil T w g n l) (k c : Nat) (hk : k ≤ l.length) (hc : k ≤ c) (hm : c ≤ maxLen) : Sl .u8 w (.slice (some ⟨g, 0, none⟩) k c) g 0 (l.take k) := by
  obtain ⟨cur, h1, h2, h3, h4⟩ := h
  refine ⟨_, c, by rw [List.length_take, Nat.min_eq_left hk], by rw [List.length_take, Nat.min_eq_left hk]; exact hc, hm, fun _ => rfl, fun i x hx => ?_⟩
  rw [List.getElem?_take] at hx
  split at hx
  · rename_i hlt
    have e : (cur.toList.take l.length)[i]? = some (.int .u8 x) := by rw [h4, List.getElem?_map, hx]; rfl
    rw [List.getElem?_take, if_pos (by omega)] at e
    rw [Nat.zero_add]
    unfold World.cell?
    simp only [h1]
    simpa using e
  · cases hx
theorem Fil.copy {P : Program} {T : TypeId} {w : World} {g n : Nat} {l : List Int} (h : Fil T w g n l) (dT sT ty elem : TypeId) (hu : P.underlying dT = some (.slice elem)) (hs : (P.info? elem).map (·.size) = some 1)
    (dLen dCap : Nat) (hd : dLen = n - l.length) (k : Nat) {sv : Value} {bs so : Nat} {cs : List Int} (hsl : Sl .u8 w sv bs so cs) (hk : (cs.take dLen).length = k) (hk0 : 0 < k) :
    ∃ w', (Builtin.copy_ #[dT, sT] ty #[.slice (some ⟨g, l.length, none⟩) dLen dCap, sv]).run P w = .ok (goInt k) w' ∧ Fil T w' g n (l ++ cs.take dLen) ∧ Kept w w' [g] := by
  obtain ⟨cur, h1, h2, h3, h4⟩ := h
  have hne : cs ≠ [] := by intro e; subst e; simp at hk; omega
  obtain ⟨c, rfl⟩ := hsl.at hne
  have hkd : k ≤ dLen := by rw [← hk, List.length_take]; omega
  have := run_copy_row (P := P) w dT sT ty elem g l.length dLen dCap ⟨bs, so, none⟩ cs.length c cur T ((cs.take dLen).map (Value.int .u8)) hu hs h1 (by simp [Nat.min_comm]) (by
      intro j u hj
      rw [List.getElem?_map] at hj
      cases hx : (cs.take dLen)[j]? with
      | none => rw [hx] at hj; simp at hj
      | some x =>
        rw [hx] at hj
        simp only [Option.map_some, Option.some.injEq] at hj
        subst hj
        rw [Addr.add_lit]
        rw [List.getElem?_take] at hx
        split at hx
        · exact hsl.cell hx
        · cases hx) (by rw [List.length_map, hk]; omega) (all_oneCell .u8 _)
  rw [List.length_map, hk] at this
  refine ⟨_, this, ⟨_, setRow_heap w g cur _ T (0, 0) h1, ?_, by rw [List.length_append, hk]; omega, ?_⟩, ⟨rfl, rfl, rfl, by simp [World.setRow], fun i hi hn => setRow_other w g i _ (by simpa using hn)⟩⟩
  · have hcl : cur.toList.length = cur.size := by simp
    simp only [List.size_toArray, List.length_append, List.length_take, List.length_map, List.length_drop, hcl]
    rw [List.length_take] at hk
    omega
  · have hcl : cur.toList.length = cur.size := by simp
    simp only [List.toList_toArray]
    rw [h4, ← List.map_append]
    apply List.take_left'
    simp
theorem step_copy_at {P : Program} {ops : Array Oper} {o : Oper} {a : Act} {w w' W0 : World} {K : Act → World → Prop} {Q : Exit → Act → World → Prop} {E : Prop} {v1 v2 v' : Value} (t t' ty : TypeId) (hr : (Builtin.copy_ #[t, t'] ty #[v1, v2]).run P W0 = .ok v' w') (s x : Operand) (hW : w = W0) (hgd : o.guard = none)
    (ho : o.op = .call { callee := .builtin .copy, args := #[s, x], argTypes := #[t, t'] }) (hty : o.type = ty) (hs : a.eval s = v1) (hx : a.eval x = v2)
    (h : K (a.put o.dst v') w') : if Region.wanted o (yielded ops a.tmps) = true then Oper.wp P o a w K Q else E := by
  subst hW
  subst hty
  have hw : Region.wanted o (yielded ops a.tmps) = true := by simp [Region.wanted, hgd]
  rw [if_pos hw]
  unfold Oper.wp
  simp [execOp, ho, resolve, invoke, builtin, hs, hx, hr, Result.andThen]
  exact h
theorem repeat_zero (w : World) (v : Value) : Calls Tryz.prog 79 #[v, .int .i64 0] w (fun e V => ∃ c, e = .returned (.slice c 0 0) ∧ Kept w V []) := by
  have HK := Lib.hid ((Kept.refl w []).alloc (.cells #[] 5))
  go_enter Tryz.func79, Tryz.ntmps79
  go_wp2_with fail
  go_ret
  exact ⟨_, rfl, (Kept.refl w []).alloc _⟩
set_option maxRecDepth 100000 in
set_option maxHeartbeats 1000000 in
theorem repeat_any (w : World) (v : Value) (bq off : Nat) (x : Int) (hs : Sl .u8 w v bq off [x]) (n : Nat) (hn : 1 ≤ n) (h8 : n ≤ 8192) :
    Calls Tryz.prog 79 #[v, .int .i64 n] w (fun e V => ∃ q, e = .returned (.slice (some ⟨q, 0, none⟩) n n) ∧ Sl .u8 V (.slice (some ⟨q, 0, none⟩) n n) q 0 (List.replicate n x) ∧ w.heap.size ≤ q ∧ Kept w V []) := by
  have HMul := Lib.hid (Any.bits_Mul Tryz.mulA 1 n (by omega) (by omega) w)
  have e1 : 1 * n / 18446744073709551616 = 0 := by omega
  have e2 : 1 * n % 18446744073709551616 = n := by omega
  rw [e1, e2] at HMul
  clear e1 e2
  obtain ⟨cs, hrunM, hle, hmax⟩ := Lib.run_makeNoZero (P := Tryz.prog) w #[3] 27 5 Tryz.underlying27 n (by omega)
  have hcall : (callFunc 111 #[.int .i64 (n : Int)]).run Tryz.prog w = .ok (.value (.slice (some ⟨w.heap.size, 0, none⟩) n cs.size)) ((w.alloc (.cells cs 5)).drewN 2) := by
    rw [run_callFunc_extern Tryz.func111 (by kernel_rfl) (by kernel_rfl) (by kernel_rfl) (e := Extern.BytealgMakeNoZero.makeNoZero #[3] #[27]) (by kernel_rfl), hrunM]
    rfl
  clear hrunM
  obtain ⟨w1, hw1⟩ : ∃ w1, w1 = (w.alloc (.cells cs 5)).drewN 2 := ⟨_, rfl⟩
  have k1 : Kept w w1 [] := by rw [hw1]; exact ((Kept.refl w []).alloc _).drewN 2
  have f1 : Fil 5 w1 w.heap.size n [] := ⟨cs, by rw [hw1]; exact heap_alloc_new w _, hle, Nat.zero_le _, rfl⟩
  obtain ⟨c, rfl⟩ := hs.at (by simp)
  obtain ⟨w2, hcp, f2, k2⟩ := f1.copy (P := Tryz.prog) 27 27 3 5 Tryz.underlying27 (by kernel_rfl) n n (by simp) 1 (hs.kept k1 (.inr (by simp))) (by rw [List.length_take]; simp; omega) (by omega)
  have ht : [x].take n = [x] := List.take_of_length_le (by simpa using hn)
  rw [ht, List.nil_append] at f2
  have F2 := Lib.hid f2
  have K2 := Lib.hid ((k1.mono (S2 := [w.heap.size]) (by simp)).trans k2 (by simp))
  have HCP := Lib.hid hcp
  have HMX := Lib.hid (show cs.size ≤ maxLen from hmax (by unfold maxLen; omega))
  have HN := Lib.hid (And.intro hn h8)
  have z0 : ((n : Int) == 0) = false := by simp; omega
  have i0 : (0 : Int) ≤ n := by omega
  have i1 : ¬ ((n : Int) > 8192) := by omega
  have i2 : (n : Int) ≤ cs.size := by omega
  have i3 : ¬ ((n : Int) > 9223372036854775807) := by omega
  have i4 : IntKind.u64.wrap (n : Int) = n := by rw [IntKind.wrap_u64]; omega
  have i5 : IntKind.i64.wrap (n : Int) = n := by rw [IntKind.wrap_i64]; omega
  clear hcp f2 k2 k1 f1 hmax hle ht hn h8 hs
  have i6 : decide ((n : Int) < 0) = false := by simp
  have i7 : decide ((9223372036854775807 : Int) < n) = false := by simpa using i3
  have i8 : decide ((8192 : Int) < n) = false := by simpa using i1
  obtain ⟨g, hg⟩ : ∃ g, w.heap.size = g := ⟨_, rfl⟩
  go_enter Tryz.func79, Tryz.ntmps79
  go_upto_region 17 with (go_at_call 110; refine HMul.out.mono ?_; rintro e w' ⟨rfl, hw⟩; rw [hw])
  rw [← hw1]
  clear hw1 hcall HMul
  rw [hg] at F2 K2 HCP
  (try rw [hg])
  have HGG := Lib.hid hg
  clear hg
  have hcp := HCP.out
  simp only [List.length_nil, List.length_cons, Nat.zero_add] at hcp
  go_wp2_with (at_builtin; refine Lib.wpList_copy_run _ rfl _ _ 27 27 rfl _ _ rfl rfl hcp ?_)
  clear hcp HCP
  go_loopg [10] (n - 1) (fun gg bp wr => ∃ k : Nat, 1 ≤ k ∧ k + gg = n ∧ bp = .int .i64 k ∧ Fil 5 wr g n (List.replicate k x) ∧ Kept w wr [g])
  case atStart => exact ⟨1, by omega, by have := HN.out; omega, rfl, F2.out, K2.out⟩
  case round =>
    obtain ⟨k, hk1, hkg, rfl, hf, hkk⟩ := hrel
    by_cases hlt : k < n
    · obtain ⟨k2, hk2⟩ : ∃ k2, k2 = min (n - k) k := ⟨_, rfl⟩
      have hkn : k ≤ n := by omega
      have hsl := hf.sl k n (by simp) hkn (by have := HN.out; unfold maxLen; omega)
      rw [List.take_of_length_le (by simp)] at hsl
      have htk : (List.replicate k x).take (n - k) = List.replicate k2 x := by rw [List.take_replicate, ← hk2]
      have hfd : Fil 5 wr.drew g n (List.replicate k x) := hf
      obtain ⟨w3, hcp, f3, k3⟩ := hfd.copy (P := Tryz.prog) 27 27 3 5 Tryz.underlying27 (by kernel_rfl) (n - k) (n - k) (by simp) k2 (hsl.kept (Kept.refl wr []).drew (.inr (by simp))) (by rw [htk]; simp) (by omega)
      rw [htk, List.replicate_append_replicate] at f3
      rw [List.length_replicate] at hcp
      have F3 := Lib.hid (And.intro f3 (And.intro (hkk.drew.trans k3 (by simp)) (And.intro hk1 (And.intro hkg hk2))))
      have j0 : (k : Int) < n := by omega
      have j1 : ¬ ((n : Int) < k) := by omega
      have j2 : (0 : Int) ≤ k := by omega
      have j3 : (k : Int) ≤ n := by omega
      have j5 : (n = k) = False := eq_false (by omega)
      have j4 : IntKind.i64.wrap ((k : Int) + k2) = (k : Int) + k2 := by have := HN.out; rw [IntKind.wrap_i64]; omega
      have hmin : ∀ W : World, (Builtin.min_ #[3, 3] 3 #[.int .i64 k, .int .i64 n]).run Tryz.prog W = .ok (.int .i64 k) W := fun W => by
        have := run_min_int2 (P := Tryz.prog) (w := W) #[3, 3] 3 .i64 .i64 k n
        rw [this, if_neg j1]
      have HHC := Lib.hid hcp
      clear hsl htk f3 k3 hf hfd hkk hk1 hkg hk2 hcp
      go_wp2_with fail
      go_region_law (first | (refine step_copy_at 27 27 3 HHC.out (.tmp 70) (.tmp 73) ?_ ?_ ?_ ?_ ?_ ?_ ?_; rfl; rfl; rfl; rfl; (simp [Act.eval, Act.put]); (simp [Act.eval, Act.put])))
      all_goals (
        go_wp2_with fail
        go_roundg (n - (k + k2))
        case measure => have := F3.out.2.2; omega
        case rel => exact ⟨k + k2, by have := F3.out.2.2; omega, by have := F3.out.2.2; omega, by go_num, F3.out.1, F3.out.2.1⟩)
    · have hkn : k = n := by omega
      subst hkn
      have hsl := hf.sl k k (by simp) (Nat.le_refl _) (by have := HN.out; unfold maxLen; omega)
      rw [List.take_of_length_le (by simp)] at hsl
      have HF := Lib.hid (And.intro hsl hkk)
      clear hsl hf hkk hk1 hkg hlt
      go_wp2_with fail
      go_ret
      exact ⟨g, rfl, HF.out.1, by rw [HGG.out]; exact Nat.le_refl _, (HF.out.2).mono (fun b hb => by simp at hb; subst hb; right; rw [HGG.out]; exact Nat.le_refl _)⟩
end Go.Proofs.YtcikhnkehglkgaaGreatDoor
