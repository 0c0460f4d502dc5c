/- PROVED: lemmas on blocks, rows and maps in this program's memory. No conditions beyond those that each theorem states. -/
import Derived.Test.YtcbngmfbbdmlgaaProg
import Derived.Test.YtcbngmfbbdmlgaaBy
import Derived.Maps.OwnSet
import Derived.Maps.Ext
import Derived.Maps.RangeWalk
import Derived.ChangeMaps5
import Derived.Laws.EntriesVeiled
namespace Go.Proofs.Ytcbngmfbbdmlgaa
open Go.RowKit Go.Proofs.YtcbngmfbbdmlgaaLib Go.WideElems Go.Maps Go.ChangeMaps
set_option linter.unusedSimpArgs false
set_option linter.unusedVariables false

abbrev pt (b : Nat) : Value := .pointer (some ⟨b, 0, none⟩)
abbrev Row8 (w : World) (v : Value) (l : List Int) : Prop := Own 5 .u8 w 0 v l
theorem map_kept {R : Value → Option (DataW Value × List MemPlace)} {w w1 : World} {k b n : Nat} {D : DataW Value} {S : List Nat} (h : w.ownsMap Try.prog k R b n D) (hk : Kept w w1 S) (hb : b ∉ S) : w1.ownsMap Try.prog k R b n D := by
  obtain ⟨es, clock, h1, h2⟩ := h
  refine ⟨es, clock, ?_, h2⟩
  rw [hk.block b ((Array.getElem?_eq_some_iff.1 h1).1) hb]
  exact h1
theorem Own.ne_cells {w : World} {base : Nat} {v : Value} {l : List Int} {T : TypeId} {k : IntKind} (h : Own T k w base v l) {b T' : Nat} {L : List Value} (hb : Blk w b T' L) (hT : T ≠ T') : v.ownBlock ≠ some b := by
  intro e
  obtain ⟨h1, ⟨rfl, _⟩ | ⟨g, cap, cur, rfl, hg, hc, _⟩⟩ := h
  · simp [Value.ownBlock] at e
  · simp [Value.ownBlock] at e
    subst e
    unfold Blk at hb
    rw [hb] at hc
    simp at hc
    exact hT hc.2.symm
theorem Own.ne_map {w : World} {base : Nat} {v : Value} {l : List Int} {T : TypeId} {k : IntKind} (h : Own T k w base v l) {R : Value → Option (DataW Value × List MemPlace)} {t b n : Nat} {D : DataW Value} (hb : w.ownsMap Try.prog t R b n D) : v.ownBlock ≠ some b := by
  intro e
  obtain ⟨h1, ⟨rfl, _⟩ | ⟨g, cap, cur, rfl, hg, hc, _⟩⟩ := h
  · simp [Value.ownBlock] at e
  · simp [Value.ownBlock] at e
    subst e
    obtain ⟨es, clock, h2, _⟩ := hb
    rw [h2] at hc
    cases hc
theorem Blk.ne_map {w : World} {b T : Nat} {L : List Value} (h : Blk w b T L) {R : Value → Option (DataW Value × List MemPlace)} {t b' n : Nat} {D : DataW Value} (hb : w.ownsMap Try.prog t R b' n D) : b ≠ b' := by
  intro e
  subst e
  obtain ⟨es, clock, h2, _⟩ := hb
  unfold Blk at h
  rw [h] at h2
  cases h2
theorem Blk.ne {w : World} {b T b' T' : Nat} {L L' : List Value} (h : Blk w b T L) (h' : Blk w b' T' L') (hT : T ≠ T') : b ≠ b' := by
  intro e
  subst e
  unfold Blk at h h'
  rw [h] at h'
  simp at h'
  exact hT h'.2
theorem Blk.top (w : World) (b : Nat) (hb : w.heap.size = b) (T : Nat) (L : List Value) : Blk (w.alloc (.cells L.toArray T (0, 0))) b T L := hb ▸ Blk.new w T L
theorem kept_turned {w w1 w2 : World} {S : List Nat} {b : Nat} (h : Kept w w1 S) (ht : w1.mapTurned w2 b) (hb : b ∈ S ∨ w.heap.size ≤ b) : Kept w w2 S :=
  h.trans (S2 := [b]) (by
    obtain ⟨es, clock, es', clock', h1, rfl⟩ := ht
    exact ⟨rfl, rfl, rfl, by simp [setBlock], fun k hk hn => heap_setBlock_other h1 _ (by simpa using hn)⟩) (fun g hg => by simp at hg; subst hg; exact hb)
theorem wfi {x : Int} (h0 : -9223372036854775808 ≤ x) (h1 : x ≤ 9223372036854775807) : (Lit.int .i64 x).wf = true := by
  simp [Lit.wf, IntKind.min, IntKind.max, IntKind.signed, IntKind.bits]; omega
theorem wf8 {x : Int} (h0 : 0 ≤ x) (h1 : x ≤ 255) : (Lit.int .u8 x).wf = true := by
  simp [Lit.wf, IntKind.min, IntKind.max, IntKind.signed, IntKind.bits]; omega
theorem keyi {x : Int} (h0 : -9223372036854775808 ≤ x) (h1 : x ≤ 9223372036854775807) : keyOf Try.prog 3 (.int .i64 x) = some (.int .i64 x) := Maps.keyOf_int_mk Try.underlying3 (wfi h0 h1)
theorem keyedI : Maps.Keyed Try.prog 3 := Maps.int_keyed Try.underlying3
theorem keyi_is (x : Int) : WideAt.IsKeyLit (.int .i64 x) := by simp [WideAt.IsKeyLit]
theorem mkf (fn : Fn) (first cap : Array Value) (w : World) : (Instr.makeFunc fn first cap).run Try.prog w = .ok (.func fn first cap) w := rfl
theorem info8 : (Try.prog.info? 5).map (fun i => (i.zero, i.size, i.bytes)) = some (some (.int .u8 0), 1, 1) := by kernel_rfl
end Go.Proofs.Ytcbngmfbbdmlgaa
