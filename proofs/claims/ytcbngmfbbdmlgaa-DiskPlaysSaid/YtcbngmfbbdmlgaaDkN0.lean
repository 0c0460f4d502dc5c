/- PROVED: plain lemmas on runs of operations. No conditions beyond those that each theorem states. -/
import Derived.Test.YtcbngmfbbdmlgaaDkM
namespace Go.Proofs.YtcbngmfbbdmlgaaLib
set_option linter.unusedSimpArgs false
set_option linter.unusedVariables false
def DiskS.run (s : DiskS) (l : List DkOp) : DiskS := l.foldl (fun s o => (s.step o).1) s
theorem DiskS.run_snoc (s : DiskS) (l : List DkOp) (o : DkOp) : s.run (l ++ [o]) = ((s.run l).step o).1 := by simp [DiskS.run]
theorem DiskS.run_take (s : DiskS) (l : List DkOp) (k : Nat) (hk : k < l.length) : s.run (l.take (k + 1)) = ((s.run (l.take k)).step l[k]).1 := by
  rw [List.take_add_one, List.getElem?_eq_getElem hk, ← DiskS.run_snoc]; rfl
theorem DiskS.step_le (s : DiskS) (o : DkOp) : (s.step o).1.ops ≤ s.ops + 1 ∧ (s.step o).1.marks ≤ s.marks + 1 := by
  unfold DiskS.step
  split
  · unfold DiskS.write
    split
    · exact ⟨Nat.le_refl _, Nat.le_succ _⟩
    split
    · exact ⟨Nat.le_refl _, Nat.le_succ _⟩
    split
    · exact ⟨Nat.le_refl _, Nat.le_succ _⟩
    split <;> exact ⟨Nat.le_refl _, Nat.le_succ _⟩
  split
  · exact ⟨Nat.le_refl _, Nat.le_succ _⟩
  split
  · unfold DiskS.sync
    split <;> exact ⟨Nat.le_refl _, Nat.le_succ _⟩
  split
  · exact ⟨Nat.le_succ _, Nat.le_succ _⟩
  split
  · dsimp only
    split
    · exact ⟨Nat.le_succ _, Nat.le_refl _⟩
    · exact ⟨Nat.le_succ _, Nat.le_succ _⟩
  · exact ⟨Nat.le_succ _, Nat.le_succ _⟩
theorem DiskS.run_le (s : DiskS) (l : List DkOp) : (s.run l).ops ≤ s.ops + l.length ∧ (s.run l).marks ≤ s.marks + l.length := by
  induction l generalizing s with
  | nil => exact ⟨Nat.le_refl _, Nat.le_refl _⟩
  | cons o l ih =>
    have h1 := ih (s.step o).1
    have h2 := s.step_le o
    rw [List.length_cons]
    constructor
    · have : (s.run (o :: l)).ops = ((s.step o).1.run l).ops := rfl
      omega
    · have : (s.run (o :: l)).marks = ((s.step o).1.run l).marks := rfl
      omega
theorem DiskS.swept_shape (s : DiskS) (g : Nat → Int × List Int) : (s.swept g).last.length = s.last.length ∧ (s.swept g).size = s.size ∧ (s.swept g).cach.length = s.cach.length := ⟨length_partLast _ _ _ _, rfl, length_partCach _ _⟩
theorem DiskS.step_shape (s : DiskS) (hn : s.cach.length = s.last.length) (o : DkOp) : (s.step o).1.last.length = s.last.length ∧ (s.step o).1.size = s.size ∧ (s.step o).1.cach.length = s.cach.length := by
  unfold DiskS.step
  split
  · unfold DiskS.write
    split
    · exact ⟨rfl, rfl, rfl⟩
    split
    · exact ⟨rfl, rfl, rfl⟩
    split
    · exact ⟨rfl, rfl, rfl⟩
    split
    · exact ⟨rfl, rfl, rfl⟩
    · exact ⟨rfl, rfl, by simp⟩
  split
  · exact ⟨rfl, rfl, rfl⟩
  split
  · unfold DiskS.sync
    split
    · exact ⟨rfl, rfl, rfl⟩
    · exact s.tick.swept_shape _
  split
  · exact s.swept_shape _
  split
  · dsimp only
    split <;> exact ⟨rfl, rfl, rfl⟩
  · exact ⟨rfl, rfl, rfl⟩
theorem DiskS.run_shape (s : DiskS) (l : List DkOp) (hn : s.cach.length = s.last.length) : (s.run l).last.length = s.last.length ∧ (s.run l).size = s.size ∧ (s.run l).cach.length = s.cach.length := by
  induction l generalizing s with
  | nil => exact ⟨rfl, rfl, rfl⟩
  | cons o l ih =>
    have h1 := s.step_shape hn o
    have h2 := ih (s.step o).1 (by rw [h1.2.2, h1.1, hn])
    exact ⟨h2.1.trans h1.1, h2.2.1.trans h1.2.1, h2.2.2.trans h1.2.2⟩
end Go.Proofs.YtcbngmfbbdmlgaaLib
namespace Go.Proofs.Ytcbngmfbbdmlgaa
open Go.RowKit Go.Proofs.YtcbngmfbbdmlgaaLib Go.WideElems Go.Maps
set_option linter.unusedSimpArgs false
set_option linter.unusedVariables false

theorem K_ops {B : Nat} {w w1 : World} {v : Value} {l : List DkOp} (h : SliceAt (OpK B) 4 w B v l) (hk : Kept w w1 []) (hB : B ≤ w.heap.size) : SliceAt (OpK B) 4 w1 B v l := h.kept hk hB (by simp) (fun cs x h => h.kept hk hB (by simp))
theorem OpAt.of {w : World} {B : Nat} {F : List Nat} {o : DkOp} {bv tv : Value} (hF : ∀ g, g ∈ F → B ≤ g) (hb : SliceAt Byte1 1 w B bv o.b) (ht : SliceAt (TearK B) 2 w B tv o.t) (hi : -9223372036854775808 ≤ o.i ∧ o.i ≤ 9223372036854775807) :
    OpAt w F (.agg #[.int .u8 o.kind, .int .i64 o.i, bv, tv]) o := ⟨bv, tv, rfl, BtsAt.of hb hF, TearsAt.of ht hF, hi⟩
end Go.Proofs.Ytcbngmfbbdmlgaa
