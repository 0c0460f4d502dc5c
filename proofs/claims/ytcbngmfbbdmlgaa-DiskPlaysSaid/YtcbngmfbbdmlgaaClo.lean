/- PROVED: the contract of slices.Clone at bytes. No conditions beyond those that each theorem states. -/
import Derived.Test.YtcbngmfbbdmlgaaCom
import Derived.Lib.SliceRun
import Derived.Lib.Walk
import Derived.OwnWalk
namespace Go.Proofs.Ytcbngmfbbdmlgaa
open Go.RowKit Go.Proofs.YtcbngmfbbdmlgaaLib
set_option linter.unusedSimpArgs false
set_option linter.unusedVariables false

theorem eqn8 (w : World) (a : Option Addr) (n c n' c' : Nat) : (binOp .eql 31 (.slice a n c) (.slice none n' c')).run Try.prog w = .ok (.bool a.isNone) w := Lib.run_eql_slice_nil w _ _ a n c n' c' Try.underlying31
set_option maxHeartbeats 2000000 in
set_option maxRecDepth 100000 in
/-- slices.Clone: a row of its own -/
theorem clone_any (w : World) (v : Value) (b off : Nat) (l : List Int) (h : Sl .u8 w v b off l) (hl : l.length ≤ 140737488351232) :
    Calls Try.prog 33 #[v] w (Post w [] fun r W => Own 5 .u8 W w.heap.size r l) := by
  have HS := Lib.hid h
  have HL := Lib.hid hl
  obtain ⟨A, c, rfl, h1, h2, h3, h4⟩ := h
  obtain ⟨i0, hi, hz0, hz1, hz2⟩ := info_parts info8
  have q22 := eqn8
  have u22 : ∀ w, Sem.run Try.prog (underlying 31) w = .ok (TypeDesc.slice 5) w := run_underlying Try.underlying31
  replace h3 := Lib.hid h3
  replace hi := Lib.hid hi
  replace hz0 := Lib.hid hz0
  replace hz1 := Lib.hid hz1
  replace hz2 := Lib.hid hz2
  clear h4 h2 h1 hl
  cases A with
  | none =>
    have hl0 : l = [] := by
      by_cases hz : l = []
      · exact hz
      · have := h3.out hz; cases this
    subst hl0
    go_enter Try.func33, Try.ntmps33
    go_wp2
    go_ret
    exact ⟨_, rfl, Own.nil _ _ _ _, Kept.refl _ _⟩
  | some a =>
    go_enter Try.func33, Try.ntmps33
    go_wp2_with (at_builtin; refine wpList_append_own _ rfl _ _ 31 rfl w.heap.size 5 i0 (.int .u8 0) 1 1 Try.underlying31 hi.out hz0.out hz1.out hz2.out rfl (by decide) _ _ _ rfl (World.ownsRow_made w #[] 0 (Nat.le_refl _) (Nat.zero_le _) rfl) a l.length c (l.map (Value.int .u8)) rfl ?qc1 ?qc2 ?qc3 ?qc4 ?qc5 ?qc6 ?_)
    case qc1 => simp
    case qc2 =>
      intro j u hj
      rw [List.getElem?_map] at hj
      cases hx : l[j]? with
      | none => rw [hx] at hj; simp at hj
      | some x =>
        rw [hx] at hj
        simp only [Option.map_some, Option.some.injEq] at hj
        subst hj
        have hne : l ≠ [] := by intro e; subst e; simp at hx
        have ha := h3.out hne
        simp only [Option.some.injEq] at ha
        subst ha
        rw [Addr.add_lit]
        exact Lib.cell?_alloc_some _ (HS.out.cell hx)
    case qc3 => intro u hu; obtain ⟨x, _, rfl⟩ := List.mem_map.1 hu; rfl
    case qc4 => have := HL.out; unfold maxLen; omega
    case qc5 => have := HL.out; omega
    case qc6 => simp
    intro v' w1 hown hgrow hnil
    have HG := Lib.hid hgrow
    have HO := Lib.hid hown
    clear hown hgrow hnil
    go_wp2
    go_ret
    refine ⟨v', rfl, by simpa [Own] using HO.out, ?_⟩
    refine ((Kept.refl w []).alloc _).trans (Kept.grown HG.out [w.heap.size] ?_) (by simp)
    intro g hg
    simp [Value.ownBlock] at hg
    simp [hg]
end Go.Proofs.Ytcbngmfbbdmlgaa
