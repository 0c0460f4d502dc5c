/- PROVED: operations appended to a row of the call's own. No conditions beyond those that each theorem states. -/
import Derived.Test.YtihfbceafehcjaaDkN
import Derived.Test.YtihfbceafehcjaaRw
namespace Go.Proofs.Ytihfbceafehcjaa
open Go.RowKit Go.Proofs.YtihfbceafehcjaaLib Go.WideElems Go.Maps
set_option linter.unusedSimpArgs false
set_option linter.unusedVariables false

theorem infoOp : (Try.prog.info? 47).map (fun i => (i.zero, i.size, i.bytes)) = some (some (.agg #[.int .u8 0, .int .i64 0, .slice none 0 0, .slice none 0 0]), 4, 64) := by kernel_rfl
theorem OpK.one {B : Nat} {w : World} {cs : List Value} {o : DkOp} (h : OpK B w cs o) : ∀ u ∈ cs, u.oneCell' = true := by
  obtain ⟨bv, tv, rfl, h1, h2, _⟩ := h
  obtain ⟨_, _, rfl, _⟩ := h1
  obtain ⟨_, _, rfl, _⟩ := h2
  intro u hu
  simp at hu
  rcases hu with rfl | rfl | rfl | rfl <;> rfl
/-- append([]Op{}, l...): a row of its own with l's cells -/
theorem ops_append1 (w : World) (B B1 : Nat) (v : Value) (l : List DkOp) (h : SliceAt (OpK B) 4 w B1 v l) (hB : B ≤ w.heap.size) (hB1 : B1 ≤ w.heap.size) (hl : l.length * 64 ≤ 140737488351232) :
    ∃ v' w' cells, (Builtin.append_ #[40, 40] 40 #[.slice (some ⟨w.heap.size, 0, none⟩) 0 0, v]).run Try.prog (w.alloc (.cells #[] 47)) = .ok v' w' ∧
      w'.ownsRow w.heap.size 47 4 v' l.length cells ∧ RowOf (OpK B) 4 w' cells l ∧ Kept w w' [] := by
  obtain ⟨i0, hi, hz0, hz1, hz2⟩ := info_parts infoOp
  have hk : Kept w (w.alloc (.cells #[] 47)) [] := (Kept.refl _ _).alloc _
  have ho := World.ownsRow_made (base := w.heap.size) (e := 47) (size := 4) w #[] 0 (Nat.le_refl _) (Nat.zero_le _) rfl
  obtain ⟨cells, hr, h1, hc⟩ := SliceAt.row h (by decide) (fun cs x => OpK.one)
  obtain ⟨A, c, rfl, q1, q2⟩ := SliceAt.form h
  cases A with
  | none =>
    have hl0 : l = [] := by
      obtain ⟨A, c', e, _, _, h3⟩ := h
      rcases h3 with h3 | ⟨b, off, rfl, _⟩
      · exact h3
      · simp at e
    subst hl0
    refine ⟨_, _, [], ?_, ho, RowOf.nil _ _ _, hk⟩
    simp [Builtin.append_, run_underlying Try.underlying40, sizeOf, typeInfo, hi, Builtin.lenOf, Builtin.firstCells, storeCells]
  | some a =>
    obtain ⟨v', w', hrun, hown, hg, hn⟩ := run_append_own (P := Try.prog) (w.alloc (.cells #[] 47)) w.heap.size 40 40 47 i0 _ 4 64 Try.underlying40 hi hz0 hz1 hz2 rfl (by decide) _ 0 [] ho a l.length c cells hr.1 (fun j u hj => Lib.cell?_alloc_some _ (hc a _ _ rfl j u hj)) h1 (by unfold maxLen; omega) (by omega) (by simp)
    rw [Nat.zero_add, List.nil_append] at hown
    have hk2 : Kept w w' [] := hk.trans (Kept.grown hg [w.heap.size] (by intro g hg; simp [Value.ownBlock] at hg; simp [hg])) (by simp)
    exact ⟨v', w', cells, hrun, hown, hr.mono (fun cs x hx => hx.kept hk2 hB (by simp)), hk2⟩
/-- append(that, Op{Tears: t}) -/
theorem ops_append2 (w : World) (B base : Nat) (v : Value) (l : List DkOp) (cells : List Value) (h : w.ownsRow base 47 4 v l.length cells) (hr : RowOf (OpK B) 4 w cells l) (hB : B ≤ w.heap.size) (hBb : B ≤ base) (hbase : base ≤ w.heap.size) (hl : (l.length + 1) * 64 ≤ 140737488355328)
    (cs : List Value) (o : DkOp) (ho : OpK B w cs o) (hn : cs.length = 4) :
    ∃ v' w', (Builtin.append_ #[40, 40] 40 #[v, .slice (some ⟨w.heap.size, 0, none⟩) 1 1]).run Try.prog (w.alloc (.cells cs.toArray 47)) = .ok v' w' ∧
      SliceAt (OpK B) 4 w' w'.heap.size v' (l ++ [o]) ∧ Kept w w' v.ownBlock.toList := by
  obtain ⟨i0, hi, hz0, hz1, hz2⟩ := info_parts infoOp
  have hk : Kept w (w.alloc (.cells cs.toArray 47)) v.ownBlock.toList := (Kept.refl _ _).alloc _
  have hb := Blk.new w 47 cs
  have hown2 : (w.alloc (.cells cs.toArray 47)).ownsRow base 47 4 v l.length cells := h.alloc _
  obtain ⟨v', w', hrun, hown, hg, hn'⟩ := run_append_own (P := Try.prog) (w.alloc (.cells cs.toArray 47)) base 40 40 47 i0 _ 4 64 Try.underlying40 hi hz0 hz1 hz2 rfl (by decide) v l.length cells hown2 ⟨w.heap.size, 0, none⟩ 1 1 cs (by omega)
    (fun j u hj => by rw [Addr.add_lit]; exact hb.cell (0 + j) (by rw [Nat.zero_add]; exact hj)) ho.one (by unfold maxLen; omega) hl (by simp; omega)
  have hk2 : Kept w w' v.ownBlock.toList := hk.trans (Kept.grown hg v.ownBlock.toList (by intro g hg; simp [hg])) (fun g hg => .inl hg)
  have hBk : ∀ g, g ∈ v.ownBlock.toList → B ≤ g := by
    intro g hg
    simp only [Option.mem_toList] at hg
    exact Nat.le_trans hBb (h.lt g hg).1
  refine ⟨v', w', hrun, ?_, hk2⟩
  have := SliceAt.of_row (K := OpK B) (l := l ++ [o]) (by simpa using hown) ((hr.append (RowOf.one hn ho)).mono (fun cs x hx => hx.kept hk2 hB hBk))
  exact this
end Go.Proofs.Ytihfbceafehcjaa
