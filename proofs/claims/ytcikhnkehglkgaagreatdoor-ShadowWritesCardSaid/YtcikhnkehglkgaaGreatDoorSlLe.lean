/- PROVED: how far each step of a slot counts on. No conditions beyond those that each theorem states. -/
import Derived.Test.YtcikhnkehglkgaaGreatDoorSlU
namespace Go.Proofs.YtcikhnkehglkgaaGreatDoor
open Go.RowKit Go.Proofs.YtcikhnkehglkgaaGreatDoorLib Go.WideElems Go.Maps
set_option linter.unusedSimpArgs false
set_option linter.unusedVariables false

theorem write_marks (s : DiskS) (i : Int) (l : List Int) : (s.write i l).1.marks = s.marks := by
  unfold DiskS.write
  split
  · rfl
  split
  · rfl
  split
  · rfl
  split <;> rfl
theorem writesM_le (s : DiskS) (a : Nat) (xs : List (List Int)) : (writesM s a xs).1.marks = s.marks ∧ (writesM s a xs).1.ops ≤ s.ops + xs.length := by
  induction xs generalizing s a with
  | nil => exact ⟨rfl, Nat.le_refl _⟩
  | cons x xs ih =>
    rw [writesM]
    split
    · exact ⟨write_marks _ _ _, by rw [write_ops, List.length_cons]; omega⟩
    · have h := ih (s.write (a : Int) x).1 (a + 1)
      rw [write_marks, write_ops] at h
      exact ⟨h.1, by rw [List.length_cons]; omega⟩
theorem dataM_le {s : DiskS} (h1 : 1 ≤ s.size) (which e f g : Int) (l : List Int) : (dataM s which e f g l).1.marks = s.marks ∧ (dataM s which e f g l).1.ops ≤ s.ops + l.length := by
  unfold dataM
  split
  · exact ⟨rfl, by show s.ops ≤ _; omega⟩
  split
  · exact ⟨rfl, by show s.ops ≤ _; omega⟩
  · have h := writesM_le s (slotAt s which e f g + 1) (imgL l s.size)
    rw [imgL_len] at h
    have := secs_le l.length s.size h1
    exact ⟨h.1, by omega⟩
theorem sealM_le (s : DiskS) (which e f g seq : Int) (l : List Int) : (sealM s which e f g seq l).1.marks = s.marks ∧ (sealM s which e f g seq l).1.ops ≤ s.ops + 1 := by
  unfold sealM
  split
  · exact ⟨rfl, by show s.ops ≤ _; omega⟩
  split
  · exact ⟨rfl, by show s.ops ≤ _; omega⟩
  · exact ⟨write_marks _ _ _, by rw [write_ops]; exact Nat.le_refl _⟩
theorem wipeM_le (s : DiskS) (which e f g : Int) : (wipeM s which e f g).1.marks = s.marks ∧ (wipeM s which e f g).1.ops ≤ s.ops + 1 := by
  unfold wipeM
  split
  · exact ⟨rfl, by show s.ops ≤ _; omega⟩
  · exact ⟨write_marks _ _ _, by rw [write_ops]; exact Nat.le_refl _⟩
theorem readsM_le (s : DiskS) (a n : Nat) : (readsM s a n).1.marks = s.marks ∧ (readsM s a n).1.ops ≤ s.ops + n := by
  induction n generalizing s a with
  | zero => exact ⟨rfl, Nat.le_refl _⟩
  | succ n ih =>
    rw [readsM]
    split
    · exact ⟨rfl, by show s.ops + 1 ≤ _; omega⟩
    · have h := ih s.tick (a + 1)
      have e : s.tick.ops = s.ops + 1 := rfl
      exact ⟨h.1, by show (readsM s.tick (a + 1) n).1.ops ≤ _; omega⟩
theorem readM_le (s : DiskS) (which e f g : Int) : (readM s which e f g).1.marks = s.marks ∧ (readM s which e f g).1.ops ≤ s.ops + 100002 := by
  have e1 : s.tick.ops = s.ops + 1 := rfl
  have e2 : s.tick.marks = s.marks := rfl
  have h := readsM_le s.tick (which.toNat * spanN s.size e f g + 1) (spanN s.size e f g - 1)
  have h2 := spanN_le s.size e f g
  unfold readM
  split
  · exact ⟨rfl, by show s.ops ≤ _; omega⟩
  split
  · exact ⟨rfl, by show s.tick.ops ≤ _; omega⟩
  split
  · exact ⟨rfl, by show s.tick.ops ≤ _; omega⟩
  split
  · exact ⟨rfl, by show s.tick.ops ≤ _; omega⟩
  split
  · exact ⟨h.1, by show (readsM _ _ _).1.ops ≤ _; omega⟩
  split
  · exact ⟨h.1, by show (readsM _ _ _).1.ops ≤ _; omega⟩
  · exact ⟨h.1, by show (readsM _ _ _).1.ops ≤ _; omega⟩
theorem sync_le (s : DiskS) : s.sync.1.marks = s.marks ∧ s.sync.1.ops ≤ s.ops + 1 := by
  unfold DiskS.sync
  split <;> exact ⟨rfl, Nat.le_refl _⟩
/-- what a step leaves, by the disk's own blocks -/
def AftD (W : World) (b : Nat) (F : List Nat) (R : DiskS × Int) (e : Ending) (V : World) : Prop :=
  e = .returned (.int .i64 R.2) ∧ ∃ F', (∀ x, x ∈ F' → x ∈ F ∨ W.heap.size ≤ x) ∧ DiskAt V b F' R.1 ∧ Kept W V F
theorem After.d {W : World} {b : Nat} {F : List Nat} {R : DiskS × Int} {e : Ending} {V : World} (h : After (fun x => x ∈ F ∨ W.heap.size ≤ x) W b R e V) : AftD W b F R e V := by
  obtain ⟨h1, ⟨⟨F', h2, h3⟩, _⟩, S, h4, h5⟩ := h
  exact ⟨h1, F', h3, h2, h5.mono (fun x hx => h4 x hx)⟩
theorem St.of {W : World} {b : Nat} {F : List Nat} {s : DiskS} (h : DiskAt W b F s) : St (fun x => x ∈ F ∨ W.heap.size ≤ x) W b s := ⟨⟨F, h, fun x hx => .inl hx⟩, fun x hx => .inr hx⟩
theorem St.alloc_hold {A : Nat → Prop} {W : World} {b : Nat} {s : DiskS} (h : St A W b s) (o : Obj) : St (fun x => A x ∧ x ≠ W.heap.size) (W.alloc o) b s := by
  obtain ⟨⟨F, h1, h2⟩, h3⟩ := h
  exact ⟨⟨F, h1.kept ((Kept.refl W []).alloc o) (by simp), fun x hx => ⟨h2 x hx, by have := h1.lt x hx; omega⟩⟩, fun x hx => ⟨h3 x (by simp at hx; omega), by simp at hx; omega⟩⟩
theorem sync_st {A : Nat → Prop} {W : World} {b : Nat} {s : DiskS} (h : St A W b s) (ho : s.ops < 700000000) :
    Calls Tryz.prog 49 #[pt b] W (After A W b s.sync) := by
  obtain ⟨⟨F, h1, h2⟩, h3⟩ := h
  refine (sync_any W b F s h1 (by omega)).mono ?_
  rintro _ V ⟨_, rfl, ⟨rfl, hd⟩, k⟩
  exact ⟨rfl, ⟨⟨F, hd, h2⟩, fun x hx => h3 x (Nat.le_trans k.size hx)⟩, KeptA.of k h2⟩
end Go.Proofs.YtcikhnkehglkgaaGreatDoor
