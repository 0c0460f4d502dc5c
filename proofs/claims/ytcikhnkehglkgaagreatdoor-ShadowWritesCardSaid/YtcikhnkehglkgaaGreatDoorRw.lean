/- PROVED: Lemmas on rows of structs: cells that read as a list, laid one behind the other. No conditions beyond those that each theorem states. -/
import Derived.Test.YtcikhnkehglkgaaGreatDoorBy
namespace Go.Proofs.YtcikhnkehglkgaaGreatDoorLib
open Go.RowKit
set_option linter.unusedSimpArgs false
set_option linter.unusedVariables false

/-- cells that read as the list l, size cells each -/
def RowOf {α : Type} (K : World → List Value → α → Prop) (size : Nat) (w : World) (cells : List Value) (l : List α) : Prop :=
  cells.length = l.length * size ∧ ∀ i x, l[i]? = some x → ∃ cs, cs.length = size ∧ K w cs x ∧ ∀ j u, cs[j]? = some u → cells[i * size + j]? = some u
theorem RowOf.nil {α : Type} (K : World → List Value → α → Prop) (size : Nat) (w : World) : RowOf K size w [] [] := ⟨by simp, fun i x h => by simp at h⟩
theorem RowOf.one {α : Type} {K : World → List Value → α → Prop} {size : Nat} {w : World} {cs : List Value} {x : α} (hl : cs.length = size) (hK : K w cs x) : RowOf K size w cs [x] := by
  refine ⟨by simp [hl], fun i y h => ?_⟩
  match i with
  | 0 =>
    simp at h; subst h
    exact ⟨cs, hl, hK, fun j u hj => by simpa using hj⟩
  | i + 1 => simp at h
theorem RowOf.append {α : Type} {K : World → List Value → α → Prop} {size : Nat} {w : World} {xs ys : List Value} {l m : List α} (h : RowOf K size w xs l) (k : RowOf K size w ys m) : RowOf K size w (xs ++ ys) (l ++ m) := by
  obtain ⟨h1, h2⟩ := h
  obtain ⟨k1, k2⟩ := k
  refine ⟨by simp [h1, k1, Nat.add_mul], fun i x hx => ?_⟩
  rw [List.getElem?_append] at hx
  split at hx
  · rename_i hi
    obtain ⟨cs, a, b, c⟩ := h2 i x hx
    refine ⟨cs, a, b, fun j u hj => ?_⟩
    have hjl : j < size := by rw [← a]; exact (List.getElem?_eq_some_iff.1 hj).1
    have : i * size + j < xs.length := by
      rw [h1]
      have := Nat.mul_le_mul_right size (Nat.succ_le_of_lt hi)
      rw [Nat.succ_mul] at this
      omega
    rw [List.getElem?_append_left this]
    exact c j u hj
  · rename_i hi
    obtain ⟨cs, a, b, c⟩ := k2 _ x hx
    refine ⟨cs, a, b, fun j u hj => ?_⟩
    have e : i * size + j = xs.length + ((i - l.length) * size + j) := by
      rw [h1, ← Nat.add_assoc, ← Nat.add_mul]
      congr 2
      omega
    rw [e, List.getElem?_append_right (by omega), Nat.add_sub_cancel_left]
    exact c j u hj
theorem RowOf.mono {α : Type} {K : World → List Value → α → Prop} {size : Nat} {w w1 : World} {xs : List Value} {l : List α} (h : RowOf K size w xs l) (hK : ∀ cs x, K w cs x → K w1 cs x) : RowOf K size w1 xs l :=
  ⟨h.1, fun i x hi => let ⟨cs, a, b, c⟩ := h.2 i x hi; ⟨cs, a, hK _ _ b, c⟩⟩
/-- the cells of a slice -/
theorem SliceAt.row {α : Type} {K : World → List Value → α → Prop} {size : Nat} {w : World} {B : Nat} {v : Value} {l : List α} (h : SliceAt K size w B v l) (hs : 0 < size) (h1 : ∀ cs x, K w cs x → ∀ u ∈ cs, u.oneCell' = true) :
    ∃ cells, RowOf K size w cells l ∧ (∀ u ∈ cells, u.oneCell' = true) ∧ ∀ ad n c, v = .slice (some ad) n c → ∀ j u, cells[j]? = some u → w.cell? (ad.add j) = some u := by
  obtain ⟨A, c, rfl, _, _, h3⟩ := h
  rcases h3 with rfl | ⟨b, off, rfl, _, hx⟩
  · exact ⟨[], RowOf.nil _ _ _, by simp, fun _ _ _ _ j u hj => by simp at hj⟩
  · have hcell : ∀ j, j < l.length * size → ∃ u, w.cell? ⟨b, off + j, none⟩ = some u ∧ u.oneCell' = true := by
      intro j hj
      have hi : j / size < l.length := (Nat.div_lt_iff_lt_mul hs).2 hj
      obtain ⟨cs, a1, a2, a3⟩ := hx (j / size) _ (List.getElem?_eq_getElem hi)
      have hm : j % size < cs.length := by rw [a1]; exact Nat.mod_lt _ hs
      have := a3 (j % size) _ (List.getElem?_eq_getElem hm)
      rw [Nat.mul_comm, Nat.div_add_mod] at this
      exact ⟨_, this, h1 _ _ a2 _ (List.getElem_mem hm)⟩
    refine ⟨(List.range (l.length * size)).map fun j => (w.cell? ⟨b, off + j, none⟩).getD (.bool false), ⟨by simp, fun i x hi => ?_⟩, ?_, ?_⟩
    · obtain ⟨cs, a1, a2, a3⟩ := hx i x hi
      refine ⟨cs, a1, a2, fun j u hj => ?_⟩
      have hil := (List.getElem?_eq_some_iff.1 hi).1
      have hjl : j < size := by rw [← a1]; exact (List.getElem?_eq_some_iff.1 hj).1
      have hlt : i * size + j < l.length * size := by
        have := Nat.mul_le_mul_right size (Nat.succ_le_of_lt hil)
        rw [Nat.succ_mul] at this
        omega
      rw [List.getElem?_map, List.getElem?_range hlt]
      simp only [Option.map_some]
      rw [a3 j u hj]; rfl
    · intro u hu
      obtain ⟨j, hj, rfl⟩ := List.mem_map.1 hu
      obtain ⟨u, h, h'⟩ := hcell j (List.mem_range.1 hj)
      rw [h]; exact h'
    · intro ad n c' e j u hj
      simp only [Value.slice.injEq, Option.some.injEq] at e
      obtain ⟨rfl, _, _⟩ := e
      rw [List.getElem?_map] at hj
      by_cases hlt : j < l.length * size
      · rw [List.getElem?_range hlt] at hj
        simp only [Option.map_some, Option.some.injEq] at hj
        obtain ⟨u', h, _⟩ := hcell j hlt
        rw [h] at hj
        rw [Addr.add_lit, h]
        exact congrArg some hj
      · rw [List.getElem?_eq_none (by simpa using hlt)] at hj
        simp at hj
/-- a row of the call's own reads as a slice -/
theorem SliceAt.of_row {α : Type} {K : World → List Value → α → Prop} {size : Nat} {w : World} {base : Nat} {T : TypeId} {v : Value} {cells : List Value} {l : List α} (h : w.ownsRow base T size v l.length cells) (hr : RowOf K size w cells l) : SliceAt K size w w.heap.size v l := by
  obtain ⟨h1, ⟨rfl, h0⟩ | ⟨g, cap, cur, rfl, hg, hc, h2, h3, h4, h5⟩⟩ := h
  · obtain rfl := List.eq_nil_of_length_eq_zero h0
    exact ⟨none, 0, rfl, Nat.le_refl _, Nat.zero_le _, .inl rfl⟩
  · refine ⟨_, cap, rfl, h2, h3, .inr ⟨g, 0, rfl, (Array.getElem?_eq_some_iff.1 hc).1, fun i x hi => ?_⟩⟩
    obtain ⟨cs, a, b, c⟩ := hr.2 i x hi
    refine ⟨cs, a, b, fun j u hj => ?_⟩
    have := c j u hj
    rw [← h5, List.getElem?_take] at this
    split at this
    · simp only [World.cell?, Nat.zero_add, hc]
      simpa using this
    · cases this
/-- an append whose run is known -/
theorem wpList_append_run {P : Program} {w : World} {ops : Array Oper} {rest : List Oper} {o : Oper} {a : Act} {Q : Exit → Act → World → Prop} (hgd : o.guard = none) (s x : Operand) (t : TypeId)
    (ho : o.op = .call { callee := .builtin .append, args := #[s, x], argTypes := #[t, t] }) {v1 v2 v' : Value} {w' : World} (hs : a.eval s = v1) (hx : a.eval x = v2) (hr : (Builtin.append_ #[t, t] o.type #[v1, v2]).run P w = .ok v' w')
    (h : wpList P ops Q rest (a.put o.dst v') w') : wpList P ops Q (o :: rest) a w := by
  refine wpList_plain hgd fun K hK => ?_
  unfold Oper.wp
  simp [execOp, ho, resolve, invoke, builtin, hs, hx, hr, Result.andThen]
  exact hK _ _ h
/-- numbers appended to a row of the call's own -/
theorem own_append {P : Program} {t T : TypeId} {k : IntKind} {by' : Nat} (ht : P.underlying t = some (.slice T)) {i : TypeInfo} (hi : P.info? T = some i) (hz : i.zero = some (.int k 0)) (hs : i.size = 1) (hb : i.bytes = by') {w : World} {base : Nat} {v sv : Value} {l m : List Int} {bs so : Nat}
    (h : Own T k w base v l) (hsl : Sl k w sv bs so m) (hn : (l.length + m.length) * by' ≤ 140737488355328) (hm : l.length + m.length ≤ maxLen) (hbase : base ≤ w.heap.size) (ty : TypeId) :
    ∃ v' w', (Builtin.append_ #[t, t] ty #[v, sv]).run P w = .ok v' w' ∧ Own T k w' base v' (l ++ m) ∧ Kept w w' v.ownBlock.toList := by
  obtain ⟨A, c, rfl, q1, q2, q3, q4⟩ := hsl
  cases A with
  | none =>
    have hm0 : m = [] := by
      by_cases e : m = []
      · exact e
      · have := q3 e; cases this
    subst hm0
    refine ⟨v, w, ?_, by rw [List.append_nil]; exact h, Kept.refl _ _⟩
    obtain ⟨_, ⟨rfl, _⟩ | ⟨g, cap, cur, rfl, _, _, hnc, _⟩⟩ := h
    · simp [Builtin.append_, run_underlying ht, sizeOf, typeInfo, hi, Builtin.lenOf, Builtin.firstCells]
    · simp [Builtin.append_, run_underlying ht, sizeOf, typeInfo, hi, Builtin.lenOf, Builtin.firstCells, hnc, storeCells]
  | some a =>
    obtain ⟨v', w', hrun, hown, hg, _⟩ := run_append_own (P := P) w base t ty T i (.int k 0) 1 by' ht hi hz hs hb rfl (by decide) v l.length _ h a m.length c (m.map (Value.int k)) (by simp) (fun j u hj => by
      rw [List.getElem?_map] at hj
      cases hx : m[j]? with
      | none => rw [hx] at hj; simp at hj
      | some x =>
        rw [hx] at hj
        simp only [Option.map_some, Option.some.injEq] at hj
        subst hj
        have hne : m ≠ [] := by intro e; subst e; simp at hx
        have ha := q3 hne
        simp only [Option.some.injEq] at ha
        subst ha
        rw [Addr.add_lit]
        exact q4 j x hx) (all_oneCell k m) hm hn hbase
    refine ⟨v', w', hrun, ?_, Kept.grown hg _ (fun g hg => by simp [hg])⟩
    unfold Own
    rw [List.length_append, List.map_append]
    exact hown
end Go.Proofs.YtcikhnkehglkgaaGreatDoorLib
