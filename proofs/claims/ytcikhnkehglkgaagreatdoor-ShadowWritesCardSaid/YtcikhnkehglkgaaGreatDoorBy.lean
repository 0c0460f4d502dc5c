/- PROVED: Lemmas on rows of numbers in memory: read, owned, kept. No conditions beyond those that each theorem states. -/
import Derived.Test.YtcikhnkehglkgaaGreatDoorLib
import Derived.Laws.AppendOwn
import Derived.Laws.CopyOwn
import Derived.Deep.AppendSrc
import Derived.Maps.OwnSet
import Derived.Laws.OwnMore
namespace Go.Proofs.YtcikhnkehglkgaaGreatDoorLib
open Go.RowKit
set_option linter.unusedSimpArgs false
set_option linter.unusedVariables false

/-- numbers that are bytes -/
def Bts (l : List Int) : Prop := ∀ x, x ∈ l → 0 ≤ x ∧ x ≤ 255
theorem Bts.nil : Bts [] := fun _ h => by cases h
theorem Bts.get {l : List Int} (h : Bts l) {i : Nat} {x : Int} (hx : l[i]? = some x) : 0 ≤ x ∧ x ≤ 255 := h x (List.mem_of_getElem? hx)
theorem Bts.append {l m : List Int} (h : Bts l) (k : Bts m) : Bts (l ++ m) := fun x hx => (List.mem_append.1 hx).elim (h x) (k x)
theorem Bts.take {l : List Int} (h : Bts l) (n : Nat) : Bts (l.take n) := fun x hx => h x (List.mem_of_mem_take hx)
theorem Bts.drop {l : List Int} (h : Bts l) (n : Nat) : Bts (l.drop n) := fun x hx => h x (List.mem_of_mem_drop hx)
theorem Bts.replicate0 (n : Nat) : Bts (List.replicate n 0) := fun x hx => by rw [List.mem_replicate] at hx; omega
theorem Bts.set {l : List Int} (h : Bts l) (i : Nat) {x : Int} (hx : 0 ≤ x ∧ x ≤ 255) : Bts (l.set i x) := fun y hy => by
  rcases List.mem_or_eq_of_mem_set hy with h1 | h1
  · exact h y h1
  · exact h1 ▸ hx

/-- a slice that reads as the numbers l, from a place of block b on (of no block, if l is empty) -/
def Sl (k : IntKind) (w : World) (v : Value) (b off : Nat) (l : List Int) : Prop :=
  ∃ (A : Option Addr) (c : Nat), v = .slice A l.length c ∧ l.length ≤ c ∧ c ≤ maxLen ∧ (l ≠ [] → A = some ⟨b, off, none⟩) ∧ ∀ (i : Nat) (x : Int), l[i]? = some x → w.cell? ⟨b, off + i, none⟩ = some (.int k x)
theorem Sl.nil (k : IntKind) (w : World) (b off : Nat) : Sl k w (.slice none 0 0) b off [] := ⟨none, 0, rfl, Nat.le_refl _, Nat.zero_le _, fun h => absurd rfl h, fun i x h => by simp at h⟩
theorem Sl.len {k : IntKind} {w : World} {v : Value} {b off : Nat} {l : List Int} (h : Sl k w v b off l) : l.length ≤ maxLen := by obtain ⟨A, c, _, h1, h2, _⟩ := h; omega
theorem Sl.cell {k : IntKind} {w : World} {v : Value} {b off : Nat} {l : List Int} (h : Sl k w v b off l) {i : Nat} {x : Int} (hx : l[i]? = some x) : w.cell? ⟨b, off + i, none⟩ = some (.int k x) := by obtain ⟨A, c, _, _, _, _, h⟩ := h; exact h i x hx
theorem Sl.lt {k : IntKind} {w : World} {v : Value} {b off : Nat} {l : List Int} (h : Sl k w v b off l) (hl : l ≠ []) : b < w.heap.size := by
  match l, hl with
  | x :: l, _ => exact World.block_lt_of_cell? w _ (h.cell (i := 0) rfl)
theorem Sl.kept {k : IntKind} {w w1 : World} {v : Value} {b off : Nat} {l : List Int} {S : List Nat} (h : Sl k w v b off l) (hk : Kept w w1 S) (hb : l = [] ∨ b ∉ S) : Sl k w1 v b off l := by
  obtain ⟨A, c, h1, h2, h3, h4, h5⟩ := h
  refine ⟨A, c, h1, h2, h3, h4, fun i x hi => ?_⟩
  rcases hb with rfl | hb
  · simp at hi
  · exact hk.cell (h5 i x hi) hb
theorem Sl.drew {k : IntKind} {w : World} {v : Value} {b off : Nat} {l : List Int} (h : Sl k w v b off l) : Sl k w.drew v b off l := h
theorem Sl.drewN {k : IntKind} {w : World} {v : Value} {b off : Nat} {l : List Int} (h : Sl k w v b off l) (n : Nat) : Sl k (w.drewN n) v b off l := h
theorem Sl.of_at {w : World} {B : Nat} {v : Value} {l : List Int} (h : SliceAt Byte1 1 w B v l) : ∃ b off, Sl .u8 w v b off l ∧ Bts l ∧ (l = [] ∨ b < B) := by
  obtain ⟨A, c, h1, h2, h3, h4⟩ := h
  rcases h4 with rfl | ⟨b, off, rfl, hb, hx⟩
  · exact ⟨0, 0, ⟨A, c, h1, h2, h3, fun h => absurd rfl h, fun i x h => by simp at h⟩, Bts.nil, .inl rfl⟩
  · refine ⟨b, off, ⟨_, c, h1, h2, h3, fun _ => rfl, fun i x hi => ?_⟩, fun x hx2 => ?_, .inr hb⟩
    · obtain ⟨cs, hl, ⟨rfl, _⟩, hc⟩ := hx i x hi
      have := hc 0 _ rfl
      simpa using this
    · obtain ⟨i, hi⟩ := List.mem_iff_getElem?.1 hx2
      obtain ⟨cs, hl, ⟨rfl, h1, h2⟩, hc⟩ := hx i x hi
      exact ⟨h1, h2⟩
/-- a part of it -/
theorem Sl.part {k : IntKind} {w : World} {v : Value} {b off : Nat} {l : List Int} (h : Sl k w v b off l) (i n c : Nat) (hi : i + n ≤ l.length) (hc : n ≤ c) (hm : c ≤ maxLen) (hn : 0 < n) : Sl k w (.slice (some ⟨b, off + i, none⟩) n c) b (off + i) ((l.drop i).take n) := by
  have e : ((l.drop i).take n).length = n := by simp; omega
  refine ⟨_, c, by rw [e], by omega, hm, fun _ => rfl, fun j x hj => ?_⟩
  rw [List.getElem?_take] at hj
  split at hj
  · rw [List.getElem?_drop] at hj
    have := h.cell hj
    rw [← Nat.add_assoc] at this
    exact this
  · cases hj

/-- a row of the call's own -/
def Own (T : TypeId) (k : IntKind) (w : World) (base : Nat) (v : Value) (l : List Int) : Prop := w.ownsRow base T 1 v l.length (l.map (Value.int k))
def Apart (v : Value) (S : List Nat) : Prop := ∀ g, v.ownBlock = some g → g ∉ S
theorem Own.mono {T : TypeId} {k : IntKind} {w : World} {base base' : Nat} {v : Value} {l : List Int} (h : Own T k w base v l) (hb : base' ≤ base) : Own T k w base' v l := by
  obtain ⟨h1, h2⟩ := h
  refine ⟨h1, h2.imp id ?_⟩
  rintro ⟨g, cap, cur, e, hg, r⟩
  exact ⟨g, cap, cur, e, Nat.le_trans hb hg, r⟩
theorem Own.lt {T : TypeId} {k : IntKind} {w : World} {base : Nat} {v : Value} {l : List Int} (h : Own T k w base v l) : ∀ g, v.ownBlock = some g → base ≤ g ∧ g < w.heap.size := by
  obtain ⟨h1, ⟨rfl, _⟩ | ⟨g, cap, cur, rfl, hg, r, _⟩⟩ := h
  · intro g h; simp [Value.ownBlock] at h
  · intro g' h
    simp [Value.ownBlock] at h
    subst h
    exact ⟨hg, (Array.getElem?_eq_some_iff.1 r).1⟩
theorem Own.kept {T : TypeId} {k : IntKind} {w w1 : World} {base : Nat} {v : Value} {l : List Int} {S : List Nat} (h : Own T k w base v l) (hk : Kept w w1 S) (hS : Apart v S) : Own T k w1 base v l := by
  obtain ⟨h1, h2⟩ := h
  refine ⟨h1, h2.imp id ?_⟩
  rintro ⟨g, cap, cur, rfl, hg, hc, r⟩
  refine ⟨g, cap, cur, rfl, hg, ?_, r⟩
  rw [hk.block g ((Array.getElem?_eq_some_iff.1 hc).1) (hS g rfl)]
  exact hc
theorem Own.drew {T : TypeId} {k : IntKind} {w : World} {base : Nat} {v : Value} {l : List Int} (h : Own T k w base v l) : Own T k w.drew base v l := h
theorem Own.drewN {T : TypeId} {k : IntKind} {w : World} {base : Nat} {v : Value} {l : List Int} (h : Own T k w base v l) (n : Nat) : Own T k (w.drewN n) base v l := h
theorem Own.nil (T : TypeId) (k : IntKind) (w : World) (base : Nat) : Own T k w base (.slice none 0 0) [] := World.ownsRow_nil _ _ _ _
/-- it reads -/
theorem Own.sl {T : TypeId} {k : IntKind} {w : World} {base : Nat} {v : Value} {l : List Int} (h : Own T k w base v l) : ∃ b, Sl k w v b 0 l ∧ (l = [] ∨ (v.ownBlock = some b ∧ base ≤ b)) := by
  obtain ⟨h1, ⟨rfl, hl⟩ | ⟨g, cap, cur, rfl, hg, hc, h2, h3, h4, h5⟩⟩ := h
  · obtain rfl : l = [] := List.eq_nil_of_length_eq_zero hl
    exact ⟨0, Sl.nil _ _ _ _, .inl rfl⟩
  · refine ⟨g, ⟨_, cap, rfl, h2, h3, fun _ => rfl, fun i x hi => ?_⟩, .inr ⟨rfl, hg⟩⟩
    have hlt : i < l.length := (List.getElem?_eq_some_iff.1 hi).1
    rw [Nat.mul_one] at h4 h5
    have e : cur[i]? = some (.int k x) := by
      have : (cur.toList.take l.length)[i]? = some (.int k x) := by rw [h5, List.getElem?_map, hi]; rfl
      rw [List.getElem?_take, if_pos hlt] at this
      simpa using this
    simp [World.cell?, hc, e]
theorem Own.len {T : TypeId} {k : IntKind} {w : World} {base : Nat} {v : Value} {l : List Int} (h : Own T k w base v l) : l.length ≤ maxLen := let ⟨_, h, _⟩ := h.sl; h.len
theorem Own.free {T : TypeId} {k : IntKind} {w : World} {base : Nat} {v : Value} {l : List Int} (h : Own T k w base v l) {b : Nat} (hb : v.ownBlock = some b) (i : Nat) : w.frozen? ⟨b, i, none⟩ = false := by
  obtain ⟨h1, ⟨rfl, _⟩ | ⟨g, cap, cur, rfl, hg, hc, _⟩⟩ := h
  · simp [Value.ownBlock] at hb
  · simp [Value.ownBlock] at hb
    subst hb
    simp [World.frozen?, hc]
/-- a store into it -/
theorem Own.set {T : TypeId} {k : IntKind} {w : World} {base : Nat} {v : Value} {l : List Int} (h : Own T k w base v l) {b : Nat} (hb : v.ownBlock = some b) (i : Nat) (x : Int) (hi : i < l.length) : Own T k (w.setCell ⟨b, i, none⟩ (.int k x)) base v (l.set i x) := by
  obtain ⟨h1, ⟨rfl, _⟩ | ⟨g, cap, cur, rfl, hg, hc, h2, h3, h4, h5⟩⟩ := h
  · simp [Value.ownBlock] at hb
  · simp [Value.ownBlock] at hb
    subst hb
    rw [Nat.mul_one] at h4 h5
    refine ⟨by simp, .inr ⟨g, cap, cur.setIfInBounds i (.int k x), by simp, hg, ?_, by simpa using h2, h3, by simpa using h4, ?_⟩⟩
    · simp [World.setCell, Array.getElem?_modify, hc]
    · simp only [List.length_set, Nat.mul_one, Array.toList_setIfInBounds]
      rw [List.take_set, h5, List.map_set]
theorem Own.far {T : TypeId} {k : IntKind} {w : World} {base : Nat} {v : Value} {l : List Int} (h : Own T k w base v l) {p : Addr} (hp : v.ownBlock ≠ some p.block) (u : Value) : Own T k (w.setCell p u) base v l := by
  obtain ⟨h1, h2⟩ := h
  refine ⟨h1, h2.imp id ?_⟩
  rintro ⟨g, cap, cur, rfl, hg, hc, r⟩
  refine ⟨g, cap, cur, rfl, hg, ?_, r⟩
  rw [Below.heap_setCell _ _ _ _ (by intro e; exact hp (by simp [Value.ownBlock, e]))]
  exact hc
theorem Own.alloc {T : TypeId} {k : IntKind} {w : World} {base : Nat} {v : Value} {l : List Int} (h : Own T k w base v l) (o : Obj) : Own T k (w.alloc o) base v l :=
  h.kept (S := []) ((Kept.refl w []).alloc o) (fun _ _ => by simp)
theorem Kept.grown {w w1 : World} {r : Option Nat} (h : w.grownBy w1 r) (S : List Nat) (hr : ∀ g, r = some g → g ∈ S ∨ w.heap.size ≤ g) : Kept w w1 S :=
  ⟨h.os, h.tape, h.output, h.size, fun k hk hn => h.block k hk (by intro e; rcases hr k e.symm with h | h; exact hn h; omega)⟩
/-- cells laid over a part of a row -/
theorem Own.over {T : TypeId} {k : IntKind} {w : World} {base : Nat} {v : Value} {l : List Int} (h : Own T k w base v l) {g : Nat} (hb : v.ownBlock = some g) (off : Nat) (cs : List Int) (hf : off + cs.length ≤ l.length) :
    ∃ cur, w.heap[g]? = some (.cells cur T (0, 0)) ∧ off + cs.length ≤ cur.size ∧ Own T k (w.setRow g (cur.toList.take off ++ cs.map (Value.int k) ++ cur.toList.drop (off + cs.length)).toArray) base v (splice l off cs) ∧ ∀ u, Kept w (w.setRow g u) [g] := by
  obtain ⟨h1, ⟨rfl, _⟩ | ⟨g', cap, cur, rfl, hg, hc, h2, h3, h4, h5⟩⟩ := h
  · simp [Value.ownBlock] at hb
  · simp [Value.ownBlock] at hb
    subst hb
    rw [Nat.mul_one] at h4 h5
    have hlen : l.length ≤ cur.toList.length := by simp; omega
    refine ⟨cur, hc, by omega, ⟨by simp, .inr ⟨g', cap, _, by rw [length_splice _ _ _ hf], hg, setRow_heap w g' cur _ T _ hc, by rw [length_splice _ _ _ hf]; exact h2, h3, by simp; omega, ?_⟩⟩,
      fun u => ⟨rfl, rfl, rfl, by simp, fun i hi hn => setRow_other w g' i u (by simpa using hn)⟩⟩
    rw [length_splice _ _ _ hf, Nat.mul_one]
    simp only [List.toList_toArray]
    unfold splice
    rw [List.map_append, List.map_append, List.map_take, List.map_drop, ← h5]
    apply List.ext_getElem?
    intro i
    simp only [List.getElem?_take, List.getElem?_append, List.getElem?_drop, List.length_append, List.length_take, List.length_map]
    have e1 : min off cur.toList.length = off := by omega
    have e2 : min off (min l.length cur.toList.length) = off := by omega
    rw [e1, e2]
    by_cases hi : i < l.length
    · rw [if_pos hi]
      by_cases ho : i < off
      · rw [if_pos (show i < off + cs.length by omega), if_pos ho, if_pos ho, if_pos ho, if_pos hi]
        simp [ho]
      · by_cases hp : i < off + cs.length
        · rw [if_pos hp, if_neg ho, if_neg ho, if_pos (by omega)]
        · rw [if_neg hp, if_neg ho, if_neg (by omega), if_pos (by omega)]
          congr 1
          omega
    · rw [if_neg hi, if_neg (by omega), if_neg (by omega), if_neg (by omega)]
theorem all_oneCell (k : IntKind) (cs : List Int) : ∀ v ∈ cs.map (Value.int k), v.oneCell' = true := fun v hv => by
  obtain ⟨x, _, rfl⟩ := List.mem_map.1 hv
  rfl
theorem Sl.at {k : IntKind} {w : World} {v : Value} {b off : Nat} {l : List Int} (h : Sl k w v b off l) (hl : l ≠ []) : ∃ c, v = .slice (some ⟨b, off, none⟩) l.length c := by
  obtain ⟨A, c, rfl, _, _, h, _⟩ := h
  exact ⟨c, by rw [h hl]⟩
theorem Sl.form {k : IntKind} {w : World} {v : Value} {b off : Nat} {l : List Int} (h : Sl k w v b off l) : ∃ A c, v = .slice A l.length c := by
  obtain ⟨A, c, rfl, _⟩ := h
  exact ⟨A, c, rfl⟩
/-- copy into a row, from what reads as numbers -/
theorem Own.copy {P : Program} {T : TypeId} {k : IntKind} {w : World} {base : Nat} {v : Value} {l : List Int} (h : Own T k w base v l) {g : Nat} (hb : v.ownBlock = some g) (dT sT ty elem : TypeId) (hu : P.underlying dT = some (.slice elem)) (hs : (P.info? elem).map (·.size) = some 1)
    (off dLen dCap : Nat) {sv : Value} {bs so : Nat} {cs : List Int} (hsl : Sl k w sv bs so cs) (hf : off + (cs.take dLen).length ≤ l.length) :
    ∃ w', (Builtin.copy_ #[dT, sT] ty #[.slice (some ⟨g, off, none⟩) dLen dCap, sv]).run P w = .ok (goInt (cs.take dLen).length) w' ∧ Own T k w' base v (splice l off (cs.take dLen)) ∧ Kept w w' [g] := by
  by_cases h0 : cs.take dLen = []
  · obtain ⟨A, c, rfl⟩ := hsl.form
    refine ⟨w, ?_, ?_, Kept.refl _ _⟩
    · rw [h0]
      refine run_copy_none w dT sT ty elem _ _ dLen dCap cs.length c hu hs ?_
      have h2 := congrArg List.length h0
      rw [List.length_take, List.length_nil] at h2
      show min _ _ = 0
      omega
    · rw [h0]; simpa [splice] using h
  · have hne : cs ≠ [] := by intro e; subst e; simp at h0
    obtain ⟨c, rfl⟩ := hsl.at hne
    obtain ⟨cur, hc, hsz, ho, hk⟩ := h.over hb off (cs.take dLen) hf
    refine ⟨_, ?_, ho, hk _⟩
    have := run_copy_row (P := P) w dT sT ty elem g off dLen dCap ⟨bs, so, none⟩ cs.length c cur T ((cs.take dLen).map (Value.int k)) hu hs hc (by simp [Nat.min_comm]) (by
      intro j u hj
      rw [List.getElem?_map] at hj
      cases hx : (cs.take dLen)[j]? with
      | none => rw [hx] at hj; simp at hj
      | some x =>
        rw [hx] at hj
        simp only [Option.map_some, Option.some.injEq] at hj
        subst hj
        rw [Addr.add_lit]
        rw [List.getElem?_take] at hx
        split at hx
        · exact hsl.cell hx
        · cases hx) (by simpa using hsz) (all_oneCell k _)
    simpa using this
/-- clear of a part of a row -/
theorem Own.clear {P : Program} {T : TypeId} {k : IntKind} {w : World} {base : Nat} {v : Value} {l : List Int} (h : Own T k w base v l) {g : Nat} (hb : v.ownBlock = some g) (dT ty elem : TypeId) (hu : P.underlying dT = some (.slice elem)) (hz : ∀ w, (zeroValue elem).run P w = .ok (.int k 0) w)
    (off n c : Nat) (hn : 0 < n) (hf : off + n ≤ l.length) :
    ∃ w', (Builtin.clear_ #[dT] ty #[.slice (some ⟨g, off, none⟩) n c]).run P w = .ok (.tuple #[]) w' ∧ Own T k w' base v (splice l off (List.replicate n 0)) ∧ Kept w w' [g] := by
  obtain ⟨cur, hc, hsz, ho, hk⟩ := h.over hb off (List.replicate n 0) (by simpa using hf)
  refine ⟨_, ?_, ho, hk _⟩
  have e : (Builtin.zeroCells (Value.cells (.int k 0)) n).toList = (List.replicate n 0).map (Value.int k) := by
    apply List.ext_getElem?
    intro i
    simp only [Builtin.zeroCells, Value.cells, Array.toList_map, Array.toList_range, List.getElem?_map, List.getElem?_replicate, Array.size_singleton, Nat.mul_one, Nat.mod_one]
    by_cases hi : i < n
    · rw [if_pos hi, List.getElem?_range hi]; rfl
    · rw [if_neg hi, List.getElem?_eq_none (by simpa using hi)]; rfl
  have hst := run_storeCells_at P g off T ((List.replicate n 0).map (Value.int k)) 0 cur w hc (by simpa using hsz) (all_oneCell k _)
  obtain ⟨m, rfl⟩ : ∃ m, n = m + 1 := ⟨n - 1, by omega⟩
  simp only [Builtin.clear_]
  simp only [List.length_replicate] at hst ⊢
  simp [run_underlying hu, hz, e, -List.map_replicate]
  rw [hst]
  simp
/-- a row of noughts that was just made -/
theorem make_own {P : Program} {t T : TypeId} {k : IntKind} (ht : P.underlying t = some (.slice T)) {i : TypeInfo} (hi : P.info? T = some i) (hz : i.zero = some (.int k 0)) (hs : i.size = 1) (hb : i.bytes ≤ 8) (n : Nat) (hn : n ≤ 17592186044416) (w : World) :
    ∃ w', (Instr.makeSlice t (.int .i64 n) (.int .i64 n)).run P w = .ok (.slice (some ⟨w.heap.size, 0, none⟩) n n) w' ∧ Own T k w' w.heap.size (.slice (some ⟨w.heap.size, 0, none⟩) n n) (List.replicate n 0) ∧ Kept w w' [] := by
  have h8 : i.bytes * n ≤ 281474976710656 := Nat.le_trans (Nat.mul_le_mul hb hn) (by decide)
  obtain ⟨w', hr, ho, hg⟩ := run_make_full (P := P) w w.heap.size t T i (.int k 0) 1 ht hi hz hs .i64 .i64 n h8 (by unfold maxLen; omega) (Nat.le_refl _)
  refine ⟨w', hr, ?_, Kept.grown hg [] (by simp)⟩
  rw [show Value.cells (.int k 0) = #[.int k 0] from rfl, toList_madeCells_one, Nat.mul_one] at ho
  unfold Own
  rw [List.length_replicate, List.map_replicate]
  exact ho
theorem Sl.of_blk {k : IntKind} {w : World} {b T : Nat} (l : List Int) {L : List Value} (h : Blk w b T L) (e : L = l.map (Value.int k)) (c : Nat) (hc : l.length ≤ c) (hm : c ≤ maxLen) : Sl k w (.slice (some ⟨b, 0, none⟩) l.length c) b 0 l :=
  ⟨_, c, rfl, hc, hm, fun _ => rfl, fun i x hx => h.cell (0 + i) (by rw [e, Nat.zero_add, List.getElem?_map, hx]; rfl)⟩
end Go.Proofs.YtcikhnkehglkgaaGreatDoorLib
