/- PROVED: lemmas on blocks, rows and maps in this program's memory; the contract of slices.Clone at bytes. No conditions beyond those that each theorem states. -/
import Derived.Test.YtcikhnkehglkgaaGreatDoorProg
import Derived.Test.YtcikhnkehglkgaaGreatDoorBy
import Derived.Maps.OwnSet
import Derived.Maps.Ext
import Derived.Maps.RangeWalk
import Derived.ChangeMaps5
import Derived.Laws.EntriesVeiled
import Derived.Lib.SliceRun
import Derived.Lib.Walk
import Derived.OwnWalk
namespace Go.Proofs.YtcikhnkehglkgaaGreatDoor
open Go.RowKit Go.Proofs.YtcikhnkehglkgaaGreatDoorLib Go.WideElems Go.Maps Go.ChangeMaps
set_option linter.unusedSimpArgs false
set_option linter.unusedVariables false

abbrev pt (b : Nat) : Value := .pointer (some ⟨b, 0, none⟩)
abbrev Row8 (w : World) (v : Value) (l : List Int) : Prop := Own 5 .u8 w 0 v l
theorem map_kept {R : Value → Option (DataW Value × List MemPlace)} {w w1 : World} {k b n : Nat} {D : DataW Value} {S : List Nat} (h : w.ownsMap Tryz.prog k R b n D) (hk : Kept w w1 S) (hb : b ∉ S) : w1.ownsMap Tryz.prog k R b n D := by
  obtain ⟨es, clock, h1, h2⟩ := h
  refine ⟨es, clock, ?_, h2⟩
  rw [hk.block b ((Array.getElem?_eq_some_iff.1 h1).1) hb]
  exact h1
theorem Own.ne_cells {w : World} {base : Nat} {v : Value} {l : List Int} {T : TypeId} {k : IntKind} (h : Own T k w base v l) {b T' : Nat} {L : List Value} (hb : Blk w b T' L) (hT : T ≠ T') : v.ownBlock ≠ some b := by
  intro e
  obtain ⟨h1, ⟨rfl, _⟩ | ⟨g, cap, cur, rfl, hg, hc, _⟩⟩ := h
  · simp [Value.ownBlock] at e
  · simp [Value.ownBlock] at e
    subst e
    unfold Blk at hb
    rw [hb] at hc
    simp at hc
    exact hT hc.2.symm
theorem Own.ne_map {w : World} {base : Nat} {v : Value} {l : List Int} {T : TypeId} {k : IntKind} (h : Own T k w base v l) {R : Value → Option (DataW Value × List MemPlace)} {t b n : Nat} {D : DataW Value} (hb : w.ownsMap Tryz.prog t R b n D) : v.ownBlock ≠ some b := by
  intro e
  obtain ⟨h1, ⟨rfl, _⟩ | ⟨g, cap, cur, rfl, hg, hc, _⟩⟩ := h
  · simp [Value.ownBlock] at e
  · simp [Value.ownBlock] at e
    subst e
    obtain ⟨es, clock, h2, _⟩ := hb
    rw [h2] at hc
    cases hc
theorem Blk.ne_map {w : World} {b T : Nat} {L : List Value} (h : Blk w b T L) {R : Value → Option (DataW Value × List MemPlace)} {t b' n : Nat} {D : DataW Value} (hb : w.ownsMap Tryz.prog t R b' n D) : b ≠ b' := by
  intro e
  subst e
  obtain ⟨es, clock, h2, _⟩ := hb
  unfold Blk at h
  rw [h] at h2
  cases h2
theorem Blk.ne {w : World} {b T b' T' : Nat} {L L' : List Value} (h : Blk w b T L) (h' : Blk w b' T' L') (hT : T ≠ T') : b ≠ b' := by
  intro e
  subst e
  unfold Blk at h h'
  rw [h] at h'
  simp at h'
  exact hT h'.2
theorem Blk.top (w : World) (b : Nat) (hb : w.heap.size = b) (T : Nat) (L : List Value) : Blk (w.alloc (.cells L.toArray T (0, 0))) b T L := hb ▸ Blk.new w T L
theorem kept_turned {w w1 w2 : World} {S : List Nat} {b : Nat} (h : Kept w w1 S) (ht : w1.mapTurned w2 b) (hb : b ∈ S ∨ w.heap.size ≤ b) : Kept w w2 S :=
  h.trans (S2 := [b]) (by
    obtain ⟨es, clock, es', clock', h1, rfl⟩ := ht
    exact ⟨rfl, rfl, rfl, by simp [setBlock], fun k hk hn => heap_setBlock_other h1 _ (by simpa using hn)⟩) (fun g hg => by simp at hg; subst hg; exact hb)
theorem wfi {x : Int} (h0 : -9223372036854775808 ≤ x) (h1 : x ≤ 9223372036854775807) : (Lit.int .i64 x).wf = true := by
  simp [Lit.wf, IntKind.min, IntKind.max, IntKind.signed, IntKind.bits]; omega
theorem wf8 {x : Int} (h0 : 0 ≤ x) (h1 : x ≤ 255) : (Lit.int .u8 x).wf = true := by
  simp [Lit.wf, IntKind.min, IntKind.max, IntKind.signed, IntKind.bits]; omega
theorem keyi {x : Int} (h0 : -9223372036854775808 ≤ x) (h1 : x ≤ 9223372036854775807) : keyOf Tryz.prog 3 (.int .i64 x) = some (.int .i64 x) := Maps.keyOf_int_mk Tryz.underlying3 (wfi h0 h1)
theorem keyedI : Maps.Keyed Tryz.prog 3 := Maps.int_keyed Tryz.underlying3
theorem keyi_is (x : Int) : WideAt.IsKeyLit (.int .i64 x) := by simp [WideAt.IsKeyLit]
theorem mkf (fn : Fn) (first cap : Array Value) (w : World) : (Instr.makeFunc fn first cap).run Tryz.prog w = .ok (.func fn first cap) w := rfl
theorem info8 : (Tryz.prog.info? 5).map (fun i => (i.zero, i.size, i.bytes)) = some (some (.int .u8 0), 1, 1) := by kernel_rfl
end Go.Proofs.YtcikhnkehglkgaaGreatDoor
namespace Go.Proofs.YtcikhnkehglkgaaGreatDoor
open Go.RowKit Go.Proofs.YtcikhnkehglkgaaGreatDoorLib
set_option linter.unusedSimpArgs false
set_option linter.unusedVariables false

theorem eqn8 (w : World) (a : Option Addr) (n c n' c' : Nat) : (binOp .eql 27 (.slice a n c) (.slice none n' c')).run Tryz.prog w = .ok (.bool a.isNone) w := Lib.run_eql_slice_nil w _ _ a n c n' c' Tryz.underlying27
set_option maxHeartbeats 2000000 in
set_option maxRecDepth 100000 in
/-- slices.Clone: a row of its own -/
theorem clone_any (w : World) (v : Value) (b off : Nat) (l : List Int) (h : Sl .u8 w v b off l) (hl : l.length ≤ 140737488351232) :
    Calls Tryz.prog 56 #[v] w (Post w [] fun r W => Own 5 .u8 W w.heap.size r l) := by
  have HS := Lib.hid h
  have HL := Lib.hid hl
  obtain ⟨A, c, rfl, h1, h2, h3, h4⟩ := h
  obtain ⟨i0, hi, hz0, hz1, hz2⟩ := info_parts info8
  have q22 := eqn8
  have u22 : ∀ w, Sem.run Tryz.prog (underlying 27) w = .ok (TypeDesc.slice 5) w := run_underlying Tryz.underlying27
  replace h3 := Lib.hid h3
  replace hi := Lib.hid hi
  replace hz0 := Lib.hid hz0
  replace hz1 := Lib.hid hz1
  replace hz2 := Lib.hid hz2
  clear h4 h2 h1 hl
  cases A with
  | none =>
    have hl0 : l = [] := by
      by_cases hz : l = []
      · exact hz
      · have := h3.out hz; cases this
    subst hl0
    go_enter Tryz.func56, Tryz.ntmps56
    go_wp2
    go_ret
    exact ⟨_, rfl, Own.nil _ _ _ _, Kept.refl _ _⟩
  | some a =>
    go_enter Tryz.func56, Tryz.ntmps56
    go_wp2_with (at_builtin; refine wpList_append_own _ rfl _ _ 27 rfl w.heap.size 5 i0 (.int .u8 0) 1 1 Tryz.underlying27 hi.out hz0.out hz1.out hz2.out rfl (by decide) _ _ _ rfl (World.ownsRow_made w #[] 0 (Nat.le_refl _) (Nat.zero_le _) rfl) a l.length c (l.map (Value.int .u8)) rfl ?qc1 ?qc2 ?qc3 ?qc4 ?qc5 ?qc6 ?_)
    case qc1 => simp
    case qc2 =>
      intro j u hj
      rw [List.getElem?_map] at hj
      cases hx : l[j]? with
      | none => rw [hx] at hj; simp at hj
      | some x =>
        rw [hx] at hj
        simp only [Option.map_some, Option.some.injEq] at hj
        subst hj
        have hne : l ≠ [] := by intro e; subst e; simp at hx
        have ha := h3.out hne
        simp only [Option.some.injEq] at ha
        subst ha
        rw [Addr.add_lit]
        exact Lib.cell?_alloc_some _ (HS.out.cell hx)
    case qc3 => intro u hu; obtain ⟨x, _, rfl⟩ := List.mem_map.1 hu; rfl
    case qc4 => have := HL.out; unfold maxLen; omega
    case qc5 => have := HL.out; omega
    case qc6 => simp
    intro v' w1 hown hgrow hnil
    have HG := Lib.hid hgrow
    have HO := Lib.hid hown
    clear hown hgrow hnil
    go_wp2
    go_ret
    refine ⟨v', rfl, by simpa [Own] using HO.out, ?_⟩
    refine ((Kept.refl w []).alloc _).trans (Kept.grown HG.out [w.heap.size] ?_) (by simp)
    intro g hg
    simp [Value.ownBlock] at hg
    simp [hg]
end Go.Proofs.YtcikhnkehglkgaaGreatDoor
