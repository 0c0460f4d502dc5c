/- PROVED: the contracts of bytes.Join without a separator, and of image.Glue. No conditions beyond those that each theorem states. -/
import Derived.Test.YtlglbgemmljmlaaDoorSlI
import Derived.Test.YtlglbgemmljmlaaDoorSh
namespace Go.Proofs.YtlglbgemmljmlaaDoor
open Go.RowKit Go.Proofs.YtlglbgemmljmlaaDoorLib
set_option linter.unusedSimpArgs false
set_option linter.unusedVariables false

/-- what the slices of a row read as -/
def Parts (w : World) (L : List Value) (xs : List (List Int)) : Prop := L.length = xs.length ∧ ∀ (i : Nat) (u : Value) (x : List Int), L[i]? = some u → xs[i]? = some x → ∃ b o, Sl .u8 w u b o x
theorem byte_inj {x y : Int} (hx : 0 ≤ x ∧ x ≤ 255) (hy : 0 ≤ y ∧ y ≤ 255) (h : UInt8.ofNat x.toNat = UInt8.ofNat y.toNat) : x = y := by
  have := congrArg UInt8.toNat h
  simp at this
  omega
theorem bytesOf_inj (l m : List Int) (hl : Bts l) (hm : Bts m) (h : Lib.bytesOf l = Lib.bytesOf m) : l = m := by
  induction l generalizing m with
  | nil => cases m with
    | nil => rfl
    | cons b m => simp [Lib.bytesOf] at h
  | cons a l ih => cases m with
    | nil => simp [Lib.bytesOf] at h
    | cons b m =>
      simp only [Lib.bytesOf, List.map_cons, List.cons.injEq] at h
      have e1 := byte_inj (hl a (by simp)) (hm b (by simp)) h.1
      have e2 := ih m (fun x hx => hl x (by simp [hx])) (fun x hx => hm x (by simp [hx])) h.2
      rw [e1, e2]
theorem bytesOf_len (l : List Int) : (Lib.bytesOf l).length = l.length := by simp [Lib.bytesOf]
theorem bytesOf_get (l : List Int) (hl : Bts l) (i : Nat) (y : UInt8) (h : (Lib.bytesOf l)[i]? = some y) : l[i]? = some (y.toNat : Int) := by
  unfold Lib.bytesOf at h
  rw [List.getElem?_map] at h
  cases hx : l[i]? with
  | none => rw [hx] at h; simp at h
  | some x =>
    rw [hx] at h
    simp only [Option.map_some, Option.some.injEq] at h
    have := hl.get hx
    rw [← h]
    congr 1
    simp
    omega
theorem join_plain (xs : List (List Int)) : Lib.join (xs.map Lib.bytesOf) [] = Lib.bytesOf xs.flatten := by
  cases xs with
  | nil => rfl
  | cons a r =>
    rw [List.map_cons, Lib.join_cons]
    unfold Lib.joinTail
    simp only [List.nil_append, List.map_id', List.flatten_cons]
    unfold Lib.bytesOf
    rw [List.map_append, List.map_flatten]
theorem fresh_sl {B : Nat} {W : World} {v : Value} {X : List Int} (hX : Bts X) (h : Lib.FreshBytes B W v (Lib.bytesOf X)) : ∃ g, Sl .u8 W v g 0 X ∧ B ≤ g := by
  obtain ⟨g, cap, zs, rfl, hg, h1, h2, h3, h4, h5, h6, h7⟩ := h
  rw [bytesOf_len] at *
  have hz : zs.take X.length = X := bytesOf_inj _ _ (fun x hx => by have := h4 x (List.mem_of_mem_take hx); omega) hX h5
  refine ⟨g, ⟨_, cap, rfl, h1, h2, fun _ => rfl, fun i x hi => ?_⟩, hg⟩
  have hlt : i < X.length := (List.getElem?_eq_some_iff.1 hi).1
  rw [Nat.zero_add, h6 i (by omega)]
  have : zs[i]? = some x := by rw [← hz, List.getElem?_take, if_pos hlt] at hi; exact hi
  simp [List.getD, this]
theorem sl_holds {w : World} {v : Value} {b o : Nat} {l : List Int} (h : Sl .u8 w v b o l) (hl : Bts l) : Lib.HoldsBytes w v (Lib.bytesOf l) := by
  obtain ⟨A, c, rfl, h1, h2, h3, h4⟩ := h
  refine ⟨A, c, by rw [bytesOf_len], ?_, ?_⟩
  · rintro rfl
    by_cases e : l = []
    · rw [e]; rfl
    · have := h3 e; cases this
  · intro a ha i y hy
    have hg := bytesOf_get l hl i y hy
    have hne : l ≠ [] := by intro e; rw [e] at hg; simp at hg
    have e := h3 hne
    rw [ha] at e
    simp only [Option.some.injEq] at e
    subst e
    rw [Addr.add_lit]
    exact h4 i _ hg
theorem lens_flatten (xs : List (List Int)) : Lib.lens (xs.map Lib.bytesOf) = xs.flatten.length := by
  induction xs with
  | nil => rfl
  | cons a r ih => rw [List.map_cons, Lib.lens_cons, ih, bytesOf_len, List.flatten_cons, List.length_append]
theorem join_any (w : World) (base : Nat) (lv : Value) (L : List Value) (xs : List (List Int)) (hrow : SRow w base lv L) (hp : Parts w L xs) (hB : ∀ x, x ∈ xs → Bts x ∧ x ≠ []) (hlen : xs.flatten.length ≤ 1000000) (hn : xs.length ≤ 1000000) :
    Calls Tryd.prog 83 #[lv, .slice none 0 0] w (Post w [] fun r W => ∃ g, Sl .u8 W r g 0 xs.flatten ∧ w.heap.size ≤ g) := by
  have hflat : Bts xs.flatten := by
    intro x hx
    obtain ⟨a, ha, hx⟩ := List.mem_flatten.1 hx
    exact (hB a ha).1 x hx
  obtain ⟨hpl, hpp⟩ := hp
  by_cases h0 : xs.length = 0
  · have hx0 : xs = [] := List.eq_nil_of_length_eq_zero h0
    have hL0 : L.length = 0 := by omega
    obtain ⟨A, c, e, _, _⟩ := hrow.form
    rw [hL0] at e
    subst e
    subst hx0
    refine (Any.bytes_Join_none Tryd.joinA A c (.slice none 0 0) w).mono ?_
    rintro _ _ ⟨rfl, rfl⟩
    exact ⟨_, rfl, ⟨w.heap.size, ⟨_, 0, rfl, Nat.le_refl _, Nat.zero_le _, fun h => absurd rfl h, fun i x h => by simp at h⟩, Nat.le_refl _⟩, (Kept.refl w []).alloc _⟩
  obtain ⟨u0, hu0⟩ : ∃ u, L[0]? = some u := ⟨_, List.getElem?_eq_getElem (by omega)⟩
  obtain ⟨x0, hx0⟩ : ∃ x, xs[0]? = some x := ⟨_, List.getElem?_eq_getElem (by omega)⟩
  obtain ⟨g, c, rfl, hc0, hcl, hcm⟩ := hrow.cell hu0
  by_cases h1 : xs.length = 1
  · have hL1 : L.length = 1 := by omega
    obtain ⟨b, o, hs⟩ := hpp 0 u0 x0 hu0 hx0
    have hxs : xs = [x0] := by
      match xs, h1, hx0 with
      | [y], _, h => simp at h; rw [h]
    have hb0 := hB x0 (by rw [hxs]; simp)
    obtain ⟨c0, e⟩ := hs.at hb0.2
    subst e
    rw [hL1]
    have hfx : xs.flatten = x0 := by rw [hxs]; simp
    rw [hfx] at hlen hflat ⊢
    refine (Any.bytes_Join_one Tryd.joinA g 0 c ⟨b, o, none⟩ c0 (Lib.bytesOf x0) (.slice none 0 0) w (by rw [bytesOf_len]; exact hc0) (fun i y hy => by rw [Addr.add_lit]; exact hs.cell (bytesOf_get x0 hb0.1 i y hy)) (by rw [bytesOf_len]; exact List.length_pos_iff.2 hb0.2) (by rw [bytesOf_len]; omega)).mono ?_
    rintro _ W ⟨v', rfl, hf, hbl⟩
    obtain ⟨g', h2, h3⟩ := fresh_sl hb0.1 hf
    exact ⟨_, rfl, ⟨g', h2, h3⟩, Kept.of_below hbl⟩
  · refine (Any.bytes_Join_many Tryd.joinA g 0 L.length c L (xs.map Lib.bytesOf) (.slice none 0 0) [] w (by rw [List.length_map]; omega) (by omega) ⟨by rw [List.length_map]; exact hpl, fun i v hv => ?_, fun i v l hv hl => ?_⟩ hcl ⟨none, 0, rfl, fun _ => rfl, fun a ha => by cases ha⟩ (by omega) (by rw [lens_flatten]; simp only [List.length_nil, Nat.zero_mul, Nat.add_zero]; omega)).mono ?_
    · obtain ⟨g', c', e, hc, _, _⟩ := hrow.cell hv
      simp only [Value.slice.injEq, Option.some.injEq, Addr.mk.injEq, and_true] at e
      obtain ⟨rfl, _⟩ := e
      rw [Addr.add_lit, Nat.zero_add]
      exact hc
    · rw [List.getElem?_map] at hl
      cases hx : xs[i]? with
      | none => rw [hx] at hl; simp at hl
      | some x =>
        rw [hx] at hl
        simp only [Option.map_some, Option.some.injEq] at hl
        subst hl
        obtain ⟨b, o, hs⟩ := hpp i v x hv hx
        exact sl_holds hs (hB x (List.mem_of_getElem? hx)).1
    · rintro _ W ⟨v', rfl, hf, hbl⟩
      rw [join_plain] at hf
      obtain ⟨g', h2, h3⟩ := fresh_sl hflat hf
      exact ⟨_, rfl, ⟨g', h2, h3⟩, Kept.of_below hbl⟩
set_option maxHeartbeats 1000000 in
theorem glue_any (w : World) (base : Nat) (lv : Value) (L : List Value) (xs : List (List Int)) (hrow : SRow w base lv L) (hp : Parts w L xs) (hB : ∀ x, x ∈ xs → Bts x ∧ x ≠ []) (hlen : xs.flatten.length ≤ 1000000) (hn : xs.length ≤ 1000000) (many : Nat) (hm : many ≤ xs.flatten.length) :
    Calls Tryd.prog 69 #[lv, .int .i64 many] w (Post w [] fun r W => ∃ v g, r = .tuple #[v, .int .i64 0] ∧ Sl .u8 W v g 0 (xs.flatten.take many) ∧ w.heap.size ≤ g) := by
  have HJ := Lib.hid (join_any w base lv L xs hrow hp hB hlen hn)
  have m0 : (0 : Int) ≤ many := by omega
  have m1 : (many : Int) ≤ xs.flatten.length := by omega
  have m2 : (xs.flatten.length : Int) ≤ 1000000 := by omega
  have HM := Lib.hid hm
  generalize xs.flatten = X at *
  clear hrow hp hB hlen hn hm
  go_enter Tryd.func69, Tryd.ntmps69
  go_wp2_with fail
  refine HJ.out.mono ?_
  rintro _ W ⟨v, rfl, ⟨g, hs, hg⟩, k⟩
  have K := Lib.hid k
  have HG := Lib.hid hg
  have HS := Lib.hid hs
  obtain ⟨A, c, rfl, h1, h2, h3, h4⟩ := hs
  unfold maxLen at h2
  have c0 : (X.length : Int) ≤ c := by omega
  have c1 : (c : Int) ≤ 9223372036854775807 := by omega
  have hd : decide ((X.length : Int) < many) = false := by simp; omega
  have hmc : (many : Int) ≤ c := by omega
  clear k hg h3 h4 HJ h1
  go_wp2_with fail
  go_ret2
  refine ⟨_, rfl, ⟨_, g, rfl, ?_, HG.out⟩, K.out⟩
  have hm := HM.out
  by_cases hz : many = 0
  · subst hz
    exact ⟨A, c, by simp, by simp, by unfold maxLen; omega, fun h => absurd (List.take_zero) h, fun i x h => by simp at h⟩
  · obtain ⟨A', c', e, a1, a2, a3, a4⟩ := HS.out
    simp only [Value.slice.injEq] at e
    obtain ⟨rfl, _, rfl⟩ := e
    refine ⟨A, c, by rw [List.length_take, Nat.min_eq_left hm]; rfl, by rw [List.length_take]; omega, a2, fun _ => a3 (by intro e; rw [e] at hm; simp at hm; omega), fun i x h => ?_⟩
    rw [List.getElem?_take] at h
    split at h
    · exact a4 i x h
    · cases h
end Go.Proofs.YtlglbgemmljmlaaDoor
