/- PROVED: the places that wait, in order. No conditions beyond those that each theorem states. -/
import Derived.Test.YtdpiaibjpaalhaaDoorEpN
import Derived.Test.YtdpiaibjpaalhaaDoorSh
import Derived.Maps.Ext
namespace Go.Proofs.YtdpiaibjpaalhaaDoor
open Go.RowKit Go.Proofs.YtdpiaibjpaalhaaDoorLib Go.WideElems Go.Maps Go.Sort Go.Shelf
set_option linter.unusedSimpArgs false
set_option linter.unusedVariables false

def placesOf (L : List (Nat × Int)) (n : Nat) : List Int := ((List.range n).filter (fun i => (L.lookup i).isSome)).map (fun i : Nat => (i : Int))
theorem places_mem (L : List (Nat × Int)) (n : Nat) (x : Int) : x ∈ placesOf L n ↔ ∃ i : Nat, i < n ∧ (L.lookup i).isSome = true ∧ x = i := by
  unfold placesOf
  rw [List.mem_map]
  constructor
  · rintro ⟨i, hi, rfl⟩
    rw [List.mem_filter, List.mem_range] at hi
    exact ⟨i, hi.1, hi.2, rfl⟩
  · rintro ⟨i, h1, h2, rfl⟩
    exact ⟨i, by rw [List.mem_filter, List.mem_range]; exact ⟨h1, h2⟩, rfl⟩
theorem places_sorted (L : List (Nat × Int)) (n : Nat) : (placesOf L n).Pairwise (fun a b => a < b) := by
  unfold placesOf
  rw [List.pairwise_map]
  exact (List.Pairwise.filter _ (List.pairwise_lt_range)).imp (fun h => by simpa using h)
theorem places_nil (n : Nat) : placesOf [] n = [] := by simp [placesOf]
theorem sameKey_self {k : Lit} (h : WideAt.IsKeyLit k) : k.sameKey k = true := by
  cases k <;> simp [WideAt.IsKeyLit] at h <;> simp [Lit.sameKey]
theorem keys_places {D : DataW Value} {L : List (Nat × Int)} {n : Nat} (hD : Canon D) (h : MapsTo D L) (hn : ∀ p, p ∈ L → p.1 < n) : (intKeys D).Perm (placesOf L n) := by
  obtain ⟨es, rfl, hp, hkl⟩ := hD
  have hp := apart_of_rising hp
  have hk : ∀ p, p ∈ es → ∃ i : Nat, i < n ∧ p.1 = .int .i64 i ∧ (L.lookup i).isSome = true := by
    intro p hp
    have hh : Maps.has (DataW.map es) p.1 = true := by
      rw [Maps.has_eq, List.any_eq_true]
      exact ⟨p, hp, sameKey_self (hkl p hp)⟩
    obtain ⟨i, e⟩ := h.key p.1 hh
    rw [e, h.has i] at hh
    obtain ⟨v, hv⟩ := Option.isSome_iff_exists.1 hh
    exact ⟨i, hn _ (mem_of_lookup hv), e, hh⟩
  refine (List.perm_ext_iff_of_nodup ?_ ((places_sorted L n).imp (fun h => by omega))).2 ?_
  · unfold intKeys List.Nodup
    rw [List.pairwise_map]
    refine hp.imp_of_mem ?_
    intro p q hp hq hn e
    obtain ⟨i, _, ei, _⟩ := hk p hp
    obtain ⟨j, _, ej, _⟩ := hk q hq
    rw [ei, ej] at e hn
    exact hn (by rw [show (i : Int) = j from e])
  · intro a
    rw [places_mem]
    unfold intKeys
    rw [List.mem_map]
    constructor
    · rintro ⟨p, hp, rfl⟩
      obtain ⟨i, hi, ei, hs⟩ := hk p hp
      exact ⟨i, hi, hs, by rw [ei]; rfl⟩
    · rintro ⟨i, hi, hs, rfl⟩
      rw [← h.has i, Maps.has_eq, List.any_eq_true] at hs
      obtain ⟨p, hp, e⟩ := hs
      exact ⟨p, hp, by rw [WideAt.sameKey_eq e]; rfl⟩
theorem sorted_places {L : List (Nat × Int)} {n : Nat} {ss : List Int} (h : ss.Perm (placesOf L n)) : ss.mergeSort (fun x y => decide (x ≤ y)) = placesOf L n := by
  refine List.Perm.eq_of_pairwise (le := fun a b : Int => decide (a ≤ b) = true) ?_ (List.pairwise_mergeSort (by intro a b c; simp; omega) (by intro a b; simp; omega) _) ((places_sorted L n).imp (fun h => by simp; omega)) ((List.mergeSort_perm _ _).trans h)
  intro a b _ _ h1 h2
  simp at h1 h2
  omega
theorem sortsA (m : Nat) : AnyZI.SortsIn Tryd.prog Tryd.sortedA_ren Fence.wide m :=
  ⟨fun blk off cap ss W hH hblk hsz => callsIn_wide.2 (AnyM.slices_Sort_int Tryd.sortA blk off cap ss W hH hblk hsz),
   fun p cap W => callsIn_wide.2 (AnyM.slices_Sort_int_none Tryd.sortA p cap W)⟩
abbrev keysW (w : World) (v : Value) : World := w.alloc (.cells #[v] 69)
theorem keys_any (w : World) (mb : Option Nat) :
    Calls Tryd.prog 52 #[.map mb] w (fun e W => e = .returned (.func (.func 66) #[] #[.pointer (some ⟨w.heap.size, 0, none⟩)]) ∧ W = keysW w (.map mb)) :=
  (callsIn_wide (n := 5)).1 (AnyZI.keys_in Tryd.keysA Fence.wide 5 trivial rfl mb w)
theorem sorted_any (w : World) (F : List Nat) (v : Value) (L : List (Nat × Int)) (n : Nat) (h : MapV w F v L) (hn : ∀ p, p ∈ L → p.1 < n) (hl : L.length ≤ 1000000000) :
    Calls Tryd.prog 51 #[.func (.func 66) #[] #[.pointer (some ⟨w.heap.size, 0, none⟩)]] (keysW w v) (Post (keysW w v) [] fun r W => Own 3 .i64 W (w.heap.size + 1) r (placesOf L n)) := by
  rcases h with ⟨rfl, rfl⟩ | ⟨m, c, D, rfl, hm, hc, hD, hF⟩
  · have hseq : SeqGives Fence.wide 2 Tryd.prog 66 #[.pointer (some ⟨w.heap.size, 0, none⟩)] encZ (fun ss : List Int => ss = []) 0 (keysW w (.map none)) :=
      AnyZI.keys_gives_nil (ρ := Tryd.keysA_ren) { Tryd.keysA with } Fence.wide _ trivial rfl w.heap.size _ (by simp) (by simp)
    have cS := AnyZI.sorted_in Tryd.sortedA Fence.wide 5 trivial trivial trivial trivial rfl (by omega) (sortsA _) (enters_of Tryd.func65 (by kernel_rfl) rfl) 66 #[.pointer (some ⟨w.heap.size, 0, none⟩)] trivial (enters_of Tryd.func66 (by kernel_rfl) rfl) _ 0 (Nat.zero_le _) (by omega) _ hseq
    change CallsIn _ _ Tryd.prog 51 _ _ _ at cS
    refine ((callsIn_wide (n := 5)).1 cS).mono ?_
    rintro e w' ⟨v, ss, rfl, rfl, hrow, hnil, hb⟩
    refine ⟨v, rfl, ?_, Kept.of_below (S := []) hb⟩
    rw [places_nil]
    rw [List.mergeSort_nil] at hrow
    unfold Own
    exact ownsRow_base_a hrow (by show w.heap.size + 1 ≤ (w.alloc _).heap.size; rw [World.size_alloc]; exact Nat.le_refl _)
  · have hp := keys_places (hm.canon keyedI) hD hn
    have hsz := hm.size_le
    have hbl := hm.lt
    have hmax : Maps.size D ≤ maxLen := by unfold maxLen; omega
    have hbytes : Maps.size D * 8 ≤ 140737488355328 := by omega
    have hseq : SeqGives Fence.wide 2 Tryd.prog 66 #[.pointer (some ⟨w.heap.size, 0, none⟩)] encZ (fun ss => ss.Perm (intKeys D)) (Maps.size D) (keysW w (.map (some m))) :=
      AnyZI.keys_gives (ρ := Tryd.keysA_ren) { Tryd.keysA with } Fence.wide _ trivial rfl (by omega) w.heap.size m c D _ (by simp) (by simp) (by
        obtain ⟨es, clock, hb, Ft, hs, hD⟩ := hm
        exact ⟨es, clock, (Below.heap_alloc _ _ m hbl).trans hb, Ft, hs, hD⟩)
    have cS := AnyZI.sorted_in Tryd.sortedA Fence.wide 5 trivial trivial trivial trivial rfl (by omega) (sortsA _) (enters_of Tryd.func65 (by kernel_rfl) rfl) 66 #[.pointer (some ⟨w.heap.size, 0, none⟩)] trivial (enters_of Tryd.func66 (by kernel_rfl) rfl) _ _ hmax hbytes _ hseq
    change CallsIn _ _ Tryd.prog 51 _ _ _ at cS
    refine ((callsIn_wide (n := 5)).1 cS).mono ?_
    rintro e w' ⟨v, ss, rfl, hS, hrow, hnil, hb⟩
    have e := sorted_places (hS.trans hp)
    refine ⟨v, rfl, ?_, Kept.of_below (S := []) hb⟩
    rw [e] at hrow
    have el : (placesOf L n).length = ss.length := by rw [← e, List.length_mergeSort]
    unfold Own
    rw [el]
    exact ownsRow_base_a hrow (by show w.heap.size + 1 ≤ (w.alloc _).heap.size; rw [World.size_alloc]; exact Nat.le_refl _)
end Go.Proofs.YtdpiaibjpaalhaaDoor
