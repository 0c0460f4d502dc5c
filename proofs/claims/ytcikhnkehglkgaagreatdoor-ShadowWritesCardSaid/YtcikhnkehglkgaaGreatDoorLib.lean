/- PROVED: Lemmas on memory: which blocks a call may have turned, and how a block, or a slice, reads. No conditions beyond those that each theorem states. -/
import Derived.WalkKit
import Derived.Below
import Derived.Tactics
import Derived.KernelRfl
import Derived.RegionTactic
import Derived.ChangeAlike
import Derived.Outline
import Derived.Deep.LoopGhost
import Derived.Deep.QuietTactic
import Derived.BigQuiet
import Derived.WideLaws
import Derived.StillTailTactics
import Derived.Lib.Hide
namespace Go.Proofs.YtcikhnkehglkgaaGreatDoorLib
open Go.RowKit

/-- the world has turned in the blocks of S alone, and in new ones -/
structure Kept (w w' : World) (S : List Nat) : Prop where
  os : w'.os = w.os
  tape : w'.tape = w.tape
  output : w'.output = w.output
  size : w.heap.size ≤ w'.heap.size
  block : ∀ k, k < w.heap.size → k ∉ S → w'.heap[k]? = w.heap[k]?

theorem Kept.refl (w : World) (S : List Nat) : Kept w w S := ⟨rfl, rfl, rfl, Nat.le_refl _, fun _ _ _ => rfl⟩
theorem Kept.trans {w w1 w2 : World} {S S2 : List Nat} (h : Kept w w1 S) (k : Kept w1 w2 S2) (hs : ∀ b, b ∈ S2 → b ∈ S ∨ w.heap.size ≤ b) : Kept w w2 S :=
  ⟨k.os.trans h.os, k.tape.trans h.tape, k.output.trans h.output, Nat.le_trans h.size k.size, fun i hi hn => by
    have h1 : i ∉ S2 := fun hm => by rcases hs i hm with h | h; exact hn h; omega
    have := h.size
    exact (k.block i (by omega) h1).trans (h.block i hi hn)⟩
theorem Kept.mono {w w1 : World} {S S2 : List Nat} (h : Kept w w1 S) (hs : ∀ b, b ∈ S → b ∈ S2 ∨ w.heap.size ≤ b) : Kept w w1 S2 :=
  ⟨h.os, h.tape, h.output, h.size, fun i hi hn => h.block i hi (fun hm => by rcases hs i hm with h | h; exact hn h; omega)⟩
theorem Kept.drewN {w w1 : World} {S : List Nat} (h : Kept w w1 S) (n : Nat) : Kept w (w1.drewN n) S := ⟨h.os, h.tape, h.output, h.size, h.block⟩
theorem Kept.drew {w w1 : World} {S : List Nat} (h : Kept w w1 S) : Kept w w1.drew S := ⟨h.os, h.tape, h.output, h.size, h.block⟩
theorem Kept.alloc {w w1 : World} {S : List Nat} (h : Kept w w1 S) (o : Obj) : Kept w (w1.alloc o) S :=
  h.trans (S2 := []) ⟨rfl, rfl, rfl, by simp, fun k hk _ => Below.heap_alloc _ _ _ (by omega)⟩ (fun _ h => by cases h)
theorem Kept.setCell {w w1 : World} {S : List Nat} (h : Kept w w1 S) {p : Addr} (hp : p.block ∈ S ∨ w.heap.size ≤ p.block) (u : Value) : Kept w (w1.setCell p u) S :=
  h.trans (S2 := [p.block]) ⟨rfl, rfl, rfl, by simp [World.setCell], fun k hk hn => Below.heap_setCell _ _ _ _ (by intro e; exact hn (by simp [e]))⟩ (fun b hb => by simp at hb; subst hb; exact hp)
theorem Kept.below {w w1 : World} {S : List Nat} (h : Kept w w1 S) (B : Nat) (hB : B ≤ w.heap.size) (hs : ∀ b, b ∈ S → B ≤ b) : Below B w w1 :=
  ⟨h.os, h.tape, h.output, h.size, fun k hk => h.block k (by omega) (fun hm => by have := hs k hm; omega)⟩
theorem Kept.cell {w w1 : World} {S : List Nat} (h : Kept w w1 S) {b o : Nat} {v : Value} (hc : w.cell? ⟨b, o, none⟩ = some v) (hn : b ∉ S) : w1.cell? ⟨b, o, none⟩ = some v :=
  (World.cell?_of_block (w := w) (h.block b (World.block_lt_of_cell? w _ hc) hn)).trans hc
theorem Kept.of_below {w w1 : World} {S : List Nat} (h : Below w.heap.size w w1) : Kept w w1 S := ⟨h.os, h.tape, h.output, h.size, fun k hk _ => h.block k hk⟩

/-- block b holds just these cells -/
def Blk (w : World) (b T : Nat) (L : List Value) : Prop := w.heap[b]? = some (.cells L.toArray T (0, 0))
theorem Blk.lt {w : World} {b T : Nat} {L : List Value} (h : Blk w b T L) : b < w.heap.size := (Array.getElem?_eq_some_iff.1 h).1
theorem Blk.cell {w : World} {b T : Nat} {L : List Value} (h : Blk w b T L) (o : Nat) {v : Value} (hv : L[o]? = some v) : w.cell? ⟨b, o, none⟩ = some v := by
  unfold Blk at h; simp [World.cell?, h, hv]
theorem Blk.free {w : World} {b T : Nat} {L : List Value} (h : Blk w b T L) (o : Nat) : w.frozen? ⟨b, o, none⟩ = false := by
  unfold Blk at h; simp [World.frozen?, h]
theorem Blk.set {w : World} {b T : Nat} {L : List Value} (h : Blk w b T L) (o : Nat) (v : Value) : Blk (w.setCell ⟨b, o, none⟩ v) b T (L.set o v) := by
  unfold Blk at h ⊢; simp [World.setCell, Array.getElem?_modify, h]
theorem Blk.far {w : World} {b T : Nat} {L : List Value} (h : Blk w b T L) {p : Addr} (hp : b ≠ p.block) (v : Value) : Blk (w.setCell p v) b T L := by
  unfold Blk at h ⊢; rw [Below.heap_setCell _ _ _ _ hp]; exact h
theorem Blk.alloc {w : World} {b T : Nat} {L : List Value} (h : Blk w b T L) (o : Obj) : Blk (w.alloc o) b T L := by
  have := h.lt
  unfold Blk at h ⊢; rw [Below.heap_alloc _ _ _ this]; exact h
theorem Blk.drew {w : World} {b T : Nat} {L : List Value} (h : Blk w b T L) : Blk w.drew b T L := h
theorem Blk.drewN {w : World} {b T : Nat} {L : List Value} (h : Blk w b T L) (n : Nat) : Blk (w.drewN n) b T L := h
theorem Blk.kept {w w1 : World} {b T : Nat} {L : List Value} {S : List Nat} (h : Blk w b T L) (k : Kept w w1 S) (hb : b ∉ S) : Blk w1 b T L := by
  have := h.lt
  unfold Blk at h ⊢; rw [k.block b this hb]; exact h
theorem Blk.new (w : World) (T : Nat) (L : List Value) : Blk (w.alloc (.cells L.toArray T (0, 0))) w.heap.size T L := by
  unfold Blk; show (w.heap.push _)[w.heap.size]? = _; simp
theorem Blk.to {w : World} {b T : Nat} {L L' : List Value} (h : Blk w b T L) (e : L = L') : Blk w b T L' := e ▸ h

/-- the call comes back with a value, the world turned in S alone -/
def Post (w : World) (S : List Nat) (R : Value → World → Prop) (e : Ending) (W : World) : Prop := ∃ v, e = .returned v ∧ R v W ∧ Kept w W S

/-- a slice that reads as xs: K tells an element's cells; its memory lies below B -/
def SliceAt {α : Type} (K : World → List Value → α → Prop) (size : Nat) (w : World) (B : Nat) (v : Value) (xs : List α) : Prop :=
  ∃ (A : Option Addr) (c : Nat), v = .slice A xs.length c ∧ xs.length ≤ c ∧ c ≤ maxLen ∧
    (xs = [] ∨ ∃ b off, A = some ⟨b, off, none⟩ ∧ b < B ∧ ∀ i x, xs[i]? = some x → ∃ cs, cs.length = size ∧ K w cs x ∧ ∀ j u, cs[j]? = some u → w.cell? ⟨b, off + (i * size + j), none⟩ = some u)
theorem SliceAt.kept {α : Type} {K : World → List Value → α → Prop} {size : Nat} {w w1 : World} {B : Nat} {v : Value} {xs : List α} {S : List Nat} (h : SliceAt K size w B v xs) (k : Kept w w1 S) (hB : B ≤ w.heap.size) (hS : ∀ b, b ∈ S → B ≤ b)
    (hK : ∀ cs x, K w cs x → K w1 cs x) : SliceAt K size w1 B v xs := by
  obtain ⟨A, c, rfl, h1, h2, h3⟩ := h
  refine ⟨A, c, rfl, h1, h2, ?_⟩
  rcases h3 with h3 | ⟨b, off, rfl, hb, hx⟩
  · exact .inl h3
  · refine .inr ⟨b, off, rfl, hb, fun i x hi => ?_⟩
    obtain ⟨cs, hl, hk, hc⟩ := hx i x hi
    refine ⟨cs, hl, hK _ _ hk, fun j u hj => ?_⟩
    rw [World.cell?_of_block (w := w) (k.block b (by omega) (fun hm => by have := hS b hm; omega))]
    exact hc j u hj
/-- cells that hold two bytes -/
def Bytes2 (_ : World) (cs : List Value) (o : Int × Int) : Prop := cs = [.int .u8 o.1, .int .u8 o.2] ∧ 0 ≤ o.1 ∧ o.1 ≤ 255 ∧ 0 ≤ o.2 ∧ o.2 ≤ 255
/-- a cell that holds a byte -/
def Byte1 (_ : World) (cs : List Value) (x : Int) : Prop := cs = [.int .u8 x] ∧ 0 ≤ x ∧ x ≤ 255
theorem SliceAt.len {α : Type} {K : World → List Value → α → Prop} {size : Nat} {w : World} {B : Nat} {v : Value} {xs : List α} (h : SliceAt K size w B v xs) : xs.length ≤ maxLen := by
  obtain ⟨A, c, _, h1, h2, _⟩ := h; omega

/-- a callee that leaves the world alone, in a region that is walked quietly -/
theorem quiet_same {P : Program} {f : FuncId} {args : Array Value} {w : World} {n : Nat} {v : Value}
    (h : Calls P f args (w.drewN n) fun e w' => e = .returned v ∧ w.drewN n = w') : Calls P f args (w.drewN n) fun e w'' => e = .returned v ∧ ∃ m, w'' = w.drewN m :=
  h.mono fun _ _ ⟨he, hm⟩ => ⟨he, n, hm.symm⟩

end Go.Proofs.YtcikhnkehglkgaaGreatDoorLib
