/- PROVED: the contract of disk.Unsynced. No conditions beyond those that each theorem states. -/
import Derived.Test.YtcbngmfbbdmlgaaDkC
import Derived.Test.YtcbngmfbbdmlgaaSh
import Derived.Maps.Ext
namespace Go.Proofs.Ytcbngmfbbdmlgaa
open Go.RowKit Go.Proofs.YtcbngmfbbdmlgaaLib Go.WideElems Go.Maps Go.Sort Go.Shelf
set_option linter.unusedSimpArgs false
set_option linter.unusedVariables false

theorem unsynced_mem (s : DiskS) (x : Int) : x ∈ s.unsynced ↔ ∃ i : Nat, i < s.cach.length ∧ (s.cach[i]?.join).isSome = true ∧ x = i := by
  unfold DiskS.unsynced
  rw [List.mem_map]
  constructor
  · rintro ⟨i, hi, rfl⟩
    rw [List.mem_filter, List.mem_range] at hi
    exact ⟨i, hi.1, hi.2, rfl⟩
  · rintro ⟨i, h1, h2, rfl⟩
    exact ⟨i, by rw [List.mem_filter, List.mem_range]; exact ⟨h1, h2⟩, rfl⟩
theorem unsynced_sorted (s : DiskS) : s.unsynced.Pairwise (fun a b => a < b) := by
  unfold DiskS.unsynced
  rw [List.pairwise_map]
  exact (List.Pairwise.filter _ (List.pairwise_lt_range)).imp (fun h => by simpa using h)
theorem lit_int {x y : Int} : (Lit.int .i64 x) = .int .i64 y ↔ x = y := ⟨fun h => by injection h, fun h => by rw [h]⟩
theorem sameKey_self {k : Lit} (h : WideAt.IsKeyLit k) : k.sameKey k = true := by
  cases k <;> simp [WideAt.IsKeyLit] at h <;> simp [Lit.sameKey]
theorem keys_unsynced {w : World} {F : List Nat} {vl : Value} {D : DataW Value} {s : DiskS} (hD : Canon D) (h : CachOf w F vl D s.cach) : (intKeys D).Perm s.unsynced := by
  obtain ⟨es, rfl, hp, hkl⟩ := hD
  have hp := apart_of_rising hp
  have hk : ∀ p, p ∈ es → ∃ i : Nat, i < s.cach.length ∧ p.1 = .int .i64 i ∧ (s.cach[i]?.join).isSome = true := by
    intro p hp
    have hh : Maps.has (DataW.map es) p.1 = true := by
      rw [Maps.has_eq, List.any_eq_true]
      exact ⟨p, hp, sameKey_self (hkl p hp)⟩
    obtain ⟨i, hi, e⟩ := h.key p.1 hh
    refine ⟨i, hi, e, ?_⟩
    cases hc : s.cach[i]?.join with
    | some x => rfl
    | none =>
      have := h.no i hi hc
      rw [e, this] at hh
      cases hh
  refine (List.perm_ext_iff_of_nodup ?_ ((unsynced_sorted s).imp (fun h => by omega))).2 ?_
  · unfold intKeys List.Nodup
    rw [List.pairwise_map]
    refine hp.imp_of_mem ?_
    intro p q hp hq hn e
    obtain ⟨i, _, ei, _⟩ := hk p hp
    obtain ⟨j, _, ej, _⟩ := hk q hq
    rw [ei, ej] at e hn
    exact hn (by rw [show (i : Int) = j from e])
  · intro a
    rw [unsynced_mem]
    unfold intKeys
    rw [List.mem_map]
    constructor
    · rintro ⟨p, hp, rfl⟩
      obtain ⟨i, hi, ei, hs⟩ := hk p hp
      exact ⟨i, hi, hs, by rw [ei]; rfl⟩
    · rintro ⟨i, hi, hs, rfl⟩
      obtain ⟨l, hl⟩ := Option.isSome_iff_exists.1 hs
      obtain ⟨v, h1, _⟩ := h.yes i l hl
      rw [Maps.has_eq, List.any_eq_true] at h1
      obtain ⟨p, hp, e⟩ := h1
      exact ⟨p, hp, by rw [WideAt.sameKey_eq e]; rfl⟩
theorem sorted_unsynced {s : DiskS} {ss : List Int} (h : ss.Perm s.unsynced) : ss.mergeSort (fun x y => decide (x ≤ y)) = s.unsynced := by
  refine List.Perm.eq_of_pairwise (le := fun a b : Int => decide (a ≤ b) = true) ?_ (List.pairwise_mergeSort (by intro a b c; simp; omega) (by intro a b; simp; omega) _) ((unsynced_sorted s).imp (fun h => by simp; omega)) ((List.mergeSort_perm _ _).trans h)
  intro a b _ _ h1 h2
  simp at h1 h2
  omega
theorem sortsA (m : Nat) : AnyZI.SortsIn Try.prog Try.sortedA_ren Fence.wide m :=
  ⟨fun blk off cap ss W hH hblk hsz => callsIn_wide.2 (AnyM.slices_Sort_int Try.sortA blk off cap ss W hH hblk hsz),
   fun p cap W => callsIn_wide.2 (AnyM.slices_Sort_int_none Try.sortA p cap W)⟩
set_option maxRecDepth 100000 in
set_option maxHeartbeats 2000000 in
theorem unsynced_any (w : World) (b : Nat) (F : List Nat) (s : DiskS) (h : DiskAt w b F s) :
    Calls Try.prog 14 #[.pointer (some ⟨b, 0, none⟩)] w (Post w [] fun v W => Own 3 .i64 W w.heap.size v s.unsynced) := by
  obtain ⟨vl, bc, bp, nc, Dc, np, Dp, hx⟩ := h
  have c2 := hx.blk.cell 2 rfl
  have hp := keys_unsynced (hx.cac.canon keyedI) hx.cof
  have hsz := hx.cac.size_le
  have hncl := hx.ncl
  have hwr := hx.ok.wr
  have hop := hx.ok.op
  have hbl := hx.cac.lt
  have hmax : Maps.size Dc ≤ maxLen := by unfold maxLen; omega
  have hbytes : Maps.size Dc * 8 ≤ 140737488355328 := by omega
  have hseq : SeqGives Fence.wide 2 Try.prog 40 #[.pointer (some ⟨w.heap.size, 0, none⟩)] encZ (fun ss => ss.Perm (intKeys Dc)) (Maps.size Dc) (w.alloc (.cells #[.map (some bc)] 57)) :=
    AnyZI.keys_gives (ρ := Try.keysA_ren) { Try.keysA with } Fence.wide _ trivial rfl (by omega) w.heap.size bc nc Dc _ (by simp) (by simp) (by
      obtain ⟨es, clock, hb, Ft, hs, hD⟩ := hx.cac
      exact ⟨es, clock, (Below.heap_alloc _ _ bc hbl).trans hb, Ft, hs, hD⟩)
  have cK : ∀ mb W, CallsIn Fence.wide 5 Try.prog 32 #[.map mb] W fun e w' => e = .returned (.func (.func 40) #[] #[.pointer (some ⟨W.heap.size, 0, none⟩)]) ∧ w' = W.alloc (.cells #[.map mb] 57) := fun mb W => AnyZI.keys_in Try.keysA Fence.wide 5 trivial rfl mb W
  have cS := AnyZI.sorted_in Try.sortedA Fence.wide 5 trivial trivial trivial trivial rfl (by omega) (sortsA _) (enters_of Try.func39 (by kernel_rfl) rfl) 40 #[.pointer (some ⟨w.heap.size, 0, none⟩)] trivial (enters_of Try.func40 (by kernel_rfl) rfl) _ _ hmax hbytes _ hseq
  change CallsIn _ _ Try.prog 31 _ _ _ at cS
  have hfK : Fence.wide.fn 32 := trivial
  have hfS : Fence.wide.fn 31 := trivial
  replace cS := Lib.hid cS
  replace hp := Lib.hid hp
  clear hseq hsz hncl hwr hop hmax hbytes hx
  refine (callsIn_wide (n := 6)).1 ?_
  refine callsIn_of_wp Try.func14 rfl trivial ?_ rfl
  simp only [Try.ntmps14, List.size_toArray, List.length_cons, List.length_nil, Nat.reduceAdd, Nat.reduceSub, Array.replicate_succ, Array.replicate_zero, List.push_toArray, List.append_toArray, List.nil_append, List.cons_append]
  gi_wp2_with (first
    | (gi_at_call 32; refine (cK _ _).mono ?_; rintro e w' ⟨rfl, rfl⟩)
    | (gi_at_call 31; refine cS.out.mono ?_; rintro e w' ⟨v, ss, rfl, hS, hrow, hnil, hb⟩))
  go_ret
  have e := sorted_unsynced (hS.trans hp.out)
  refine ⟨v, rfl, ?_, ((Kept.refl w []).alloc _).trans (Kept.of_below (S := []) hb) (by simp)⟩
  rw [e] at hrow
  have el : s.unsynced.length = ss.length := by rw [← e, List.length_mergeSort]
  unfold Own
  rw [el]
  exact ownsRow_base_a hrow (by simp)
end Go.Proofs.Ytcbngmfbbdmlgaa
