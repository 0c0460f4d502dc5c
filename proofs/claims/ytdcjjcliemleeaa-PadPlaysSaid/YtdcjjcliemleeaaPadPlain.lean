/- PROVED: Plain lemmas on lists of operations of a pad. No conditions beyond those that each theorem states. -/
import Derived.Test.YtdcjjcliemleeaaLib
namespace Go.Proofs.YtdcjjcliemleeaaLib
set_option linter.unusedSimpArgs false

/-- what the last one that is meant tells -/
def lastOf {α β : Type} (p : α → Bool) (f : α → β) (d : β) (l : List α) : β := l.foldl (fun h o => if p o then f o else h) d
theorem lastOf_none {α β : Type} (p : α → Bool) (f : α → β) (d : β) (l : List α) (h : ∀ o, o ∈ l → p o = false) : lastOf p f d l = d := by
  induction l generalizing d with
  | nil => rfl
  | cons a l ih => simp only [lastOf, List.foldl_cons, h a (by simp), Bool.false_eq_true, if_false]; exact ih d (fun o ho => h o (by simp [ho]))
theorem lastOf_append {α β : Type} (p : α → Bool) (f : α → β) (d : β) (l m : List α) : lastOf p f d (l ++ m) = lastOf p f (lastOf p f d l) m := by simp [lastOf]
theorem lastOf_at {α β : Type} (p : α → Bool) (f : α → β) (d : β) (l : List α) (k : Nat) (o : α) (hk : l[k]? = some o) (ho : p o = true) (h : ∀ o, o ∈ l.drop (k + 1) → p o = false) : lastOf p f d l = f o := by
  have hlt : k < l.length := (List.getElem?_eq_some_iff.1 hk).1
  have e : l = l.take (k + 1) ++ l.drop (k + 1) := (List.take_append_drop _ _).symm
  rw [e, lastOf_append, lastOf_none _ _ _ _ h, List.take_add_one, hk, lastOf_append]
  simp [lastOf, ho]
theorem lastOf_snoc {α β : Type} (p : α → Bool) (f : α → β) (d : β) (l : List α) (o : α) : lastOf p f d (l ++ [o]) = if p o then f o else lastOf p f d l := by simp [lastOf]
theorem take_snoc {α : Type} {l : List α} {k : Nat} {o : α} (h : l[k]? = some o) : l.take (k + 1) = l.take k ++ [o] := by rw [List.take_add_one, h]; rfl

def highOf (l : List (Int × Int)) : Bool := lastOf (fun o => o.1 == 1) (fun o => o.2 % 2 == 1) false l
def pressedOf (l : List (Int × Int)) : Int := lastOf (fun o => o.1 == 0) (fun o => o.2) 0 l

/-- where the last strobe ended, looked for among the first k -/
def atUpto (l : List (Int × Int)) : Nat → Nat
  | 0 => 0
  | k + 1 => if highOf (l.take k) && !highOf (l.take (k + 1)) then k + 1 else atUpto l k
def reads (l : List (Int × Int)) : Nat := l.countP fun o => o.1 == 2
def readOf (l : List (Int × Int)) : Int :=
  if highOf l = true then pressedOf l % 2 else
  if 8 ≤ reads (l.drop (atUpto l l.length)) then 1 else
  (if 0 < atUpto l l.length then pressedOf (l.take (atUpto l l.length)) else 0) / 2 ^ reads (l.drop (atUpto l l.length)) % 2

theorem pressedOf_byte (l : List (Int × Int)) (h : ∀ o, o ∈ l → 0 ≤ o.1 ∧ o.1 ≤ 255 ∧ 0 ≤ o.2 ∧ o.2 ≤ 255) : 0 ≤ pressedOf l ∧ pressedOf l ≤ 255 := by
  have g : ∀ (l : List (Int × Int)) (d : Int), 0 ≤ d ∧ d ≤ 255 → (∀ o, o ∈ l → 0 ≤ o.1 ∧ o.1 ≤ 255 ∧ 0 ≤ o.2 ∧ o.2 ≤ 255) → 0 ≤ lastOf (fun o => o.1 == 0) (fun o => o.2) d l ∧ lastOf (fun o => o.1 == 0) (fun o => o.2) d l ≤ 255 := by
    intro l
    induction l with
    | nil => intro d hd _; exact hd
    | cons a l ih =>
      intro d hd h
      have ha := h a (by simp)
      simp only [lastOf, List.foldl_cons]
      refine ih _ ?_ (fun o ho => h o (by simp [ho]))
      split <;> omega
  exact g l 0 (by omega) h
theorem atUpto_le (l : List (Int × Int)) (k : Nat) : atUpto l k ≤ k := by
  induction k with
  | zero => exact Nat.le_refl _
  | succ k ih => rw [atUpto]; split <;> omega
theorem reads_le (l : List (Int × Int)) (a k : Nat) : reads ((l.take k).drop a) ≤ k := by
  have := List.countP_le_length (p := fun o : Int × Int => o.1 == 2) (l := (l.take k).drop a)
  simp only [List.length_drop, List.length_take] at this
  unfold reads; omega
theorem reads_next (l : List (Int × Int)) (a k : Nat) (o : Int × Int) (hk : a ≤ k) (h : l[k]? = some o) : reads ((l.take (k + 1)).drop a) = reads ((l.take k).drop a) + if (o.1 == 2) = true then 1 else 0 := by
  have hlt : k < l.length := (List.getElem?_eq_some_iff.1 h).1
  rw [take_snoc h, List.drop_append_of_le_length (by rw [List.length_take]; omega), reads, List.countP_append, reads, List.countP_cons, List.countP_nil]
  simp

theorem reads_next1 (l : List (Int × Int)) (a k : Nat) (o : Int × Int) (hk : a ≤ k) (h : l[k]? = some o) (hb : (o.1 == 2) = true) : reads ((l.take (k + 1)).drop a) = reads ((l.take k).drop a) + 1 := by
  rw [reads_next l a k o hk h, if_pos hb]
theorem reads_next0 (l : List (Int × Int)) (a k : Nat) (o : Int × Int) (hk : a ≤ k) (h : l[k]? = some o) (hb : (o.1 == 2) = false) : reads ((l.take (k + 1)).drop a) = reads ((l.take k).drop a) := by
  rw [reads_next l a k o hk h, if_neg (by simp [hb])]; rfl
theorem half_next (p : Int) (k : Nat) : p / 2 ^ (k + 1) = p / 2 ^ k / 2 := by
  rw [Int.pow_succ, ← Int.ediv_ediv_of_nonneg (Int.pow_nonneg (by omega))]
theorem half_byte (p : Int) (h : 0 ≤ p ∧ p ≤ 255) (k : Nat) : 0 ≤ p / 2 ^ k ∧ p / 2 ^ k ≤ 255 := by
  induction k with
  | zero => simpa using h
  | succ k ih => rw [half_next]; omega
end Go.Proofs.YtdcjjcliemleeaaLib
