/- PROVED: Lemmas on how the arguments of a statement read in memory. No conditions beyond those that each theorem states. -/
import Derived.Test.YtcikhnkehglkgaaGreatDoorLib
import Derived.Deep.Slices
import Derived.ChangeArms
import Derived.DataReads
import Derived.SizedLaws
namespace Go.Proofs.YtcikhnkehglkgaaGreatDoorLib
open Go.RowKit Go.Deep
set_option linter.unusedSimpArgs false
set_option linter.unusedVariables false

theorem add_pl (b o j : Nat) : (⟨b, o, none⟩ : Addr).add j = ⟨b, o + j, none⟩ := by unfold Addr.add; split <;> simp_all
section
variable {H : Type} {enc : TypeId × Value → H} {P : Program} {W : World} {α : Type}
/-- cells that read as a value of type t, in memory that was there -/
def Rds (enc : TypeId × Value → H) (P : Program) (W : World) (t : TypeId) (cs : List Value) : Prop := ∃ n x, DataW.trod enc P W 0 (fun _ => true) true n t cs = some x
theorem Rds.of_trod {t : TypeId} {v : Value} {d : DataW H} {p : List MemPlace} (h : DataW.Trod enc P W 0 (fun _ => true) true t v d p) : Rds enc P W t v.cells.toList := by
  obtain ⟨n, hn⟩ := h; exact ⟨n, _, hn⟩
theorem Rds.int {t : TypeId} {k : IntKind} (ht : P.underlying t = some (.int k)) {cs : List Value} (h : Rds enc P W t cs) : ∃ n, cs = [.int k n] ∧ (Lit.int k n).wf = true := by
  obtain ⟨m, x, hm⟩ := h
  obtain ⟨n, e, _, wf⟩ := DataW.trod_int ht hm
  exact ⟨n, e, wf⟩
theorem Rds.bool {t : TypeId} (ht : P.underlying t = some .bool) {cs : List Value} (h : Rds enc P W t cs) : ∃ b, cs = [.bool b] := by
  obtain ⟨m, x, hm⟩ := h
  obtain ⟨b, e, _⟩ := DataW.trod_bool ht hm
  exact ⟨b, e⟩
theorem Rds.string {t : TypeId} (ht : P.underlying t = some .string) {cs : List Value} (h : Rds enc P W t cs) : ∃ s : ByteArray, cs = [.string s] ∧ s.size ≤ maxLen := by
  obtain ⟨m, x, hm⟩ := h
  obtain ⟨s, e, _, hs⟩ := DataW.trod_string ht hm
  exact ⟨s, e, hs⟩
theorem Rds.struct {t : TypeId} {fs : Array Field} (ht : P.underlying t = some (.struct fs)) {cs : List Value} (h : Rds enc P W t cs) :
    cs.length = P.cellsOf t ∧ ∀ (i : Nat) (f : Field), fs[i]? = some f → Rds enc P W f.type ((cs.drop f.offset).take (P.cellsOf f.type)) := by
  obtain ⟨m, x, hm⟩ := h
  obtain ⟨xs, n, _, _, hl, hxl, hf⟩ := DataW.trod_struct ht hm
  refine ⟨hl, fun i f hi => ?_⟩
  have h1 := hf i f hi
  have hlt : i < xs.length := by rw [hxl]; exact (Array.getElem?_eq_some_iff.1 hi).1
  rw [List.getElem?_eq_getElem hlt] at h1
  exact ⟨n, _, h1⟩
theorem Rds.slice {K : World → List Value → α → Prop} {t e : TypeId} {size : Nat} (ht : P.underlying t = some (.slice e)) (hc : P.cellsOf e = size) (hK : ∀ cs, Rds enc P W e cs → ∃ a, cs.length = size ∧ K W cs a) (h0 : 0 < size)
    {cs : List Value} (h : Rds enc P W t cs) : ∃ v xs, cs = [v] ∧ SliceAt K size W W.heap.size v xs := by
  obtain ⟨m, x, hm⟩ := h
  rcases open_slice ht hm with ⟨rfl, _⟩ | ⟨a, len, cap, q, n, D, Pl, rfl, hb, hl, hmx, hq, _, hx⟩
  · exact ⟨_, [], rfl, none, 0, rfl, Nat.le_refl _, Nat.zero_le _, .inl rfl⟩
  · simp at hq
    subst hq
    have each : ∀ i, i < len → ∃ r : List Value × Option α, ∃ y, r.2 = some y ∧ r.1.length = size ∧ K W r.1 y ∧ ∀ j u, r.1[j]? = some u → W.cell? (a.add (i * size + j)) = some u := by
      intro i hi
      obtain ⟨cs', h1, h2⟩ := hx i (by omega)
      obtain ⟨_, hlen, hcell⟩ := World.cells?_some h1
      obtain ⟨y, hy1, hy2⟩ := hK cs' ⟨_, _, h2⟩
      refine ⟨(cs', some y), y, rfl, hy1, hy2, fun j u hj => ?_⟩
      have hj' : j < size := by have := (List.getElem?_eq_some_iff.1 hj).1; simp only at this; omega
      have := hcell j (by omega)
      rw [add_add, hc] at this
      rw [this]; exact hj
    obtain ⟨f, hf⟩ := choose_lt (α := List Value × Option α) each
    by_cases hz : len = 0
    · subst hz; exact ⟨_, [], rfl, some a, q, rfl, Nat.zero_le _, hmx, .inl rfl⟩
    have hsp : ∃ b off, a = ⟨b, off, none⟩ ∧ b < W.heap.size := by
      obtain ⟨y, _, hl0, _, hc0⟩ := hf 0 (by omega)
      obtain ⟨u, hu⟩ : ∃ u, (f 0).1[0]? = some u := ⟨_, List.getElem?_eq_getElem (by omega)⟩
      have h1 := hc0 0 u hu
      have e0 : a.add (0 * size + 0) = a := by simp [Addr.add]
      rw [e0] at h1
      obtain ⟨b, off, sp⟩ := a
      cases sp with
      | none => exact ⟨b, off, rfl, World.block_lt_of_cell? W _ h1⟩
      | some z =>
        exfalso
        simp only [World.cell?] at h1
        split at h1
        · simp at h1
        · cases h1
    obtain ⟨b, off, rfl, hbb⟩ := hsp
    have hall : ∀ i, i < len → ∃ y, (f i).2 = some y := fun i hi => let ⟨y, h, _⟩ := hf i hi; ⟨y, h⟩
    have hfm : ∀ n, n ≤ len → ((List.range n).filterMap (fun i => (f i).2)).length = n ∧ ∀ i, i < n → ((List.range n).filterMap (fun i => (f i).2))[i]? = (f i).2 := by
      intro n
      induction n with
      | zero => intro _; exact ⟨rfl, fun i hi => absurd hi (Nat.not_lt_zero _)⟩
      | succ n ih =>
        intro hn
        obtain ⟨ih1, ih2⟩ := ih (by omega)
        obtain ⟨y, hy⟩ := hall n (by omega)
        rw [List.range_succ, List.filterMap_append]
        simp only [List.filterMap_cons, List.filterMap_nil, hy]
        refine ⟨by simp [ih1], fun i hi => ?_⟩
        by_cases hin : i < n
        · rw [List.getElem?_append_left (by omega)]; exact ih2 i hin
        · obtain rfl : i = n := by omega
          rw [List.getElem?_append_right (by omega), ih1, hy]; simp
    refine ⟨_, (List.range len).filterMap (fun i => (f i).2), rfl, some ⟨b, off, none⟩, q, ?_, ?_, hmx, .inr ⟨b, off, rfl, hbb, ?_⟩⟩
    · rw [(hfm len (Nat.le_refl _)).1]
    · rw [(hfm len (Nat.le_refl _)).1]; exact hl
    · intro i y hi
      have hil : i < len := by
        have := (List.getElem?_eq_some_iff.1 hi).1
        rw [(hfm len (Nat.le_refl _)).1] at this; exact this
      obtain ⟨y', e, h1, h2, h3⟩ := hf i hil
      rw [(hfm len (Nat.le_refl _)).2 i hil, e] at hi
      cases hi
      refine ⟨_, h1, h2, fun j u hj => ?_⟩
      have := h3 j u hj
      rw [add_pl] at this; exact this
/-- a slice that was handed in takes no more memory than the form lets in -/
theorem trod_sized {t e : TypeId} {v : Value} {d : DataW H} {p : List MemPlace} {ts : List TypeId} {ds : List (DataW H)} {a : Option Addr} {n c j : Nat} (ht : P.underlying t = some (.slice e)) (h : DataW.Trod enc P W 0 (fun _ => true) true t v d p) (hv : v = .slice a n c)
    (hs : (DataW.weightsEach P ts ds).all (· ≤ reachBytes) = true) (hts : ts[j]? = some t) (hds : ds[j]? = some d) : n * P.bytesOf e ≤ reachBytes := by
  obtain ⟨m, hm⟩ := h
  subst hv
  rcases open_slice ht hm with ⟨e1, _⟩ | ⟨a', len, cap, q, n', D, Pl, e1, hb, hl, hmx, hq, e2, hx⟩
  · simp [Value.cells] at e1
    rw [e1.2.1]; simp
  · simp [Value.cells] at e1
    simp only [Prod.mk.injEq] at e2
    rw [e2.1] at hds
    have := sized_slice hs hts hds ht
    simp only [List.length_map, List.length_range] at this
    rw [e1.2.1]
    exact Nat.le_trans (Nat.mul_le_mul_right _ (Nat.le_add_right _ _)) this
theorem wf_u8 {x : Int} (h : (Lit.int .u8 x).wf = true) : 0 ≤ x ∧ x ≤ 255 := by
  simpa [Lit.wf, IntKind.min, IntKind.max, IntKind.signed, IntKind.bits] using h
theorem wf_u16 {x : Int} (h : (Lit.int .u16 x).wf = true) : 0 ≤ x ∧ x ≤ 65535 := by
  simpa [Lit.wf, IntKind.min, IntKind.max, IntKind.signed, IntKind.bits] using h
theorem wf_u64 {x : Int} (h : (Lit.int .u64 x).wf = true) : 0 ≤ x ∧ x ≤ 18446744073709551615 := by
  simpa [Lit.wf, IntKind.min, IntKind.max, IntKind.signed, IntKind.bits] using h
theorem wf_i64 {x : Int} (h : (Lit.int .i64 x).wf = true) : -9223372036854775808 ≤ x ∧ x ≤ 9223372036854775807 := by
  simpa [Lit.wf, IntKind.min, IntKind.max, IntKind.signed, IntKind.bits] using h
end
end Go.Proofs.YtcikhnkehglkgaaGreatDoorLib
