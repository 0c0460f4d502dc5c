/- PROVED: A pad behind any operations is as the document has it. No conditions beyond those that each theorem states. -/
import Derived.Test.YtdcjjcliemleeaaPadLaw
import Derived.Test.YtdcjjcliemleeaaPadPlain
import Derived.Laws.BitsLemmas
namespace Go.Proofs.Ytdcjjcliemleeaa
open Go.RowKit Go.Proofs.YtdcjjcliemleeaaLib
set_option linter.unusedSimpArgs false
set_option linter.unusedVariables false

def OkOp (o : Int × Int) : Prop := 0 ≤ o.1 ∧ o.1 ≤ 255 ∧ 0 ≤ o.2 ∧ o.2 ≤ 255
theorem and1 (x : Int) (h : 0 ≤ x ∧ x ≤ 255) : bits BinOp.and IntKind.u8 x 1 = x % 2 := bits_mask .u8 8 (by decide) wraps_u8 1 (by decide) x h.1 (by omega)
theorem takes_get (p : Int) (h : 0 ≤ p ∧ p ≤ 255) (i : Nat) (hi : i < 8) : (PadS.takes p)[i]?.getD 0 = p / 2 ^ i % 2 := by
  simp only [PadS.takes, List.getElem?_map, List.getElem?_range hi, Option.map_some, Option.getD_some]
  exact and1 _ (half_byte p h i)

structure Sim (s : PadS) (m : List (Int × Int)) : Prop where
  hi : s.hi = highOf m
  p : s.p = pressedOf m
  low : s.hi = false → s.n = if 8 ≤ reads (m.drop (atUpto m m.length)) then 8 else (reads (m.drop (atUpto m m.length)) : Int)
  t : s.hi = false → ∀ i, i < 8 → s.t[i]?.getD 0 = (if 0 < atUpto m m.length then pressedOf (m.take (atUpto m m.length)) else 0) / 2 ^ i % 2

theorem atUpto_append (m : List (Int × Int)) (o : Int × Int) (k : Nat) (hk : k ≤ m.length) : atUpto (m ++ [o]) k = atUpto m k := by
  induction k with
  | zero => rfl
  | succ k ih =>
    rw [atUpto, atUpto, ih (by omega), List.take_append_of_le_length (by omega), List.take_append_of_le_length (by omega)]
theorem atUpto_snoc (m : List (Int × Int)) (o : Int × Int) : atUpto (m ++ [o]) (m ++ [o]).length = if highOf m && !highOf (m ++ [o]) then m.length + 1 else atUpto m m.length := by
  rw [List.length_append, List.length_singleton, atUpto, atUpto_append _ _ _ (Nat.le_refl _), List.take_left, List.take_of_length_le (by simp)]

theorem sim_new : Sim PadS.new [] := ⟨rfl, rfl, fun _ => rfl, fun _ i hi => by
  match i, hi with
  | 0, _ => rfl
  | 1, _ => rfl
  | 2, _ => rfl
  | 3, _ => rfl
  | 4, _ => rfl
  | 5, _ => rfl
  | 6, _ => rfl
  | 7, _ => rfl⟩

theorem sim_step (s : PadS) (m : List (Int × Int)) (o : Int × Int) (x : Int) (hm : ∀ o, o ∈ m → OkOp o) (ho : OkOp o) (h : Sim s m) : Sim (PadS.op (s, x) o).1 (m ++ [o]) := by
  have hlen := atUpto_le m m.length
  have hH : highOf (m ++ [o]) = if (o.1 == 1) = true then (o.2 % 2 == 1) else highOf m := by unfold highOf; rw [lastOf_snoc]
  have hP : pressedOf (m ++ [o]) = if (o.1 == 0) = true then o.2 else pressedOf m := by unfold pressedOf; rw [lastOf_snoc]
  have hA := atUpto_snoc m o
  have keepdrop : ∀ a, a ≤ m.length → reads ((m ++ [o]).drop a) = reads (m.drop a) + if (o.1 == 2) = true then 1 else 0 := by
    intro a ha
    rw [List.drop_append_of_le_length ha, reads, List.countP_append, reads, List.countP_cons, List.countP_nil]; simp
  by_cases q0 : o.1 = 0
  · have e : PadS.op (s, x) o = (s.press o.2, x) := by simp [PadS.op, q0]
    rw [e]
    have hH' : highOf (m ++ [o]) = highOf m := by rw [hH]; simp [q0]
    have hA' : atUpto (m ++ [o]) (m ++ [o]).length = atUpto m m.length := by rw [hA, hH']; simp
    refine ⟨by rw [hH']; exact h.hi, by rw [hP]; simp [q0, PadS.press], fun hl => ?_, fun hl i hi => ?_⟩
    · rw [hA', keepdrop _ hlen]; simpa [q0, PadS.press] using h.low hl
    · rw [hA', List.take_append_of_le_length hlen]; exact h.t hl i hi
  · by_cases q1 : o.1 = 1
    · have e : PadS.op (s, x) o = (s.write o.2, x) := by simp [PadS.op, q1]
      rw [e]
      have hv : (bits BinOp.and IntKind.u8 o.2 1 == 1) = (o.2 % 2 == 1) := by rw [and1 _ ⟨ho.2.2.1, ho.2.2.2⟩]
      have hH' : highOf (m ++ [o]) = (o.2 % 2 == 1) := by rw [hH]; simp [q1]
      have hP' : pressedOf (m ++ [o]) = pressedOf m := by rw [hP]; simp [q1]
      by_cases hf : (s.hi && !(o.2 % 2 == 1)) = true
      · obtain ⟨f1, f2⟩ : s.hi = true ∧ (o.2 % 2 == 1) = false := by simpa using hf
        have ew : s.write o.2 = { s with t := PadS.takes s.p, n := 0, hi := false } := by simp [PadS.write, hv, f1, f2]
        have hA' : atUpto (m ++ [o]) (m ++ [o]).length = m.length + 1 := by rw [hA, hH', ← h.hi, f1, f2]; rfl
        rw [ew]
        have hd : (m ++ [o]).drop (m.length + 1) = [] := by rw [List.drop_of_length_le (by simp)]
        refine ⟨by rw [hH', f2], by rw [hP']; exact h.p, fun _ => by rw [hA', hd]; rfl, fun _ i hi => ?_⟩
        rw [hA', List.take_of_length_le (by simp), if_pos (by omega), hP', ← h.p]
        exact takes_get s.p (by rw [h.p]; exact pressedOf_byte m hm) i hi
      · have ew : s.write o.2 = { s with hi := (o.2 % 2 == 1) } := by simp only [PadS.write, hv]; rw [if_neg hf]
        rw [ew]
        refine ⟨by rw [hH'], by rw [hP']; exact h.p, fun hl => ?_, fun hl i hi => ?_⟩
        · have hl' : (o.2 % 2 == 1) = false := hl
          have hs : s.hi = false := by rw [hl'] at hf; simpa using hf
          have hA' : atUpto (m ++ [o]) (m ++ [o]).length = atUpto m m.length := by rw [hA, ← h.hi, hs]; rfl
          rw [hA', keepdrop _ hlen]; simpa [q1] using h.low hs
        · have hl' : (o.2 % 2 == 1) = false := hl
          have hs : s.hi = false := by rw [hl'] at hf; simpa using hf
          have hA' : atUpto (m ++ [o]) (m ++ [o]).length = atUpto m m.length := by rw [hA, ← h.hi, hs]; rfl
          rw [hA', List.take_append_of_le_length hlen]; exact h.t hs i hi
    · have hH' : highOf (m ++ [o]) = highOf m := by rw [hH]; simp [q1]
      have hP' : pressedOf (m ++ [o]) = pressedOf m := by rw [hP]; simp [q0]
      have hA' : atUpto (m ++ [o]) (m ++ [o]).length = atUpto m m.length := by rw [hA, hH']; simp
      by_cases q2 : o.1 = 2
      · have e : PadS.op (s, x) o = (s.read.2, s.read.1) := by simp [PadS.op, q2]
        rw [e]
        have hb : reads ((m ++ [o]).drop (atUpto m m.length)) = reads (m.drop (atUpto m m.length)) + 1 := by rw [keepdrop _ hlen]; simp [q2]
        cases hs : s.hi with
        | true =>
          have er : s.read.2 = s := by simp [PadS.read, hs]
          rw [er]
          exact ⟨by rw [hH']; exact h.hi, by rw [hP']; exact h.p, (fun hl => by rw [hs] at hl; cases hl), (fun hl => by rw [hs] at hl; cases hl)⟩
        | false =>
          have hn := h.low hs
          by_cases h8 : s.n = 8
          · have er : s.read.2 = s := by simp [PadS.read, hs, h8]
            rw [er]
            refine ⟨by rw [hH']; exact h.hi, by rw [hP']; exact h.p, fun hl => ?_, fun hl i hi => ?_⟩
            · rw [hA', hb, h8]; rw [h8] at hn; split at hn <;> split <;> omega
            · rw [hA', List.take_append_of_le_length hlen]; exact h.t hl i hi
          · have er : s.read.2 = { s with n := s.n + 1 } := by simp [PadS.read, hs, h8]
            rw [er]
            refine ⟨by rw [hH']; exact h.hi, by rw [hP']; exact h.p, fun hl => ?_, fun hl i hi => ?_⟩
            · rw [hA', hb]; show s.n + 1 = _; split at hn <;> split <;> omega
            · rw [hA', List.take_append_of_le_length hlen]; exact h.t hl i hi
      · have e : PadS.op (s, x) o = (s, x) := by simp [PadS.op, q0, q1, q2]
        rw [e]
        refine ⟨by rw [hH']; exact h.hi, by rw [hP']; exact h.p, fun hl => ?_, fun hl i hi => ?_⟩
        · rw [hA', keepdrop _ hlen]; simpa [q2] using h.low hl
        · rw [hA', List.take_append_of_le_length hlen]; exact h.t hl i hi

theorem sim_read (s : PadS) (m : List (Int × Int)) (hm : ∀ o, o ∈ m → OkOp o) (h : Sim s m) : s.read.1 = readOf m := by
  have hp := pressedOf_byte m hm
  cases hs : s.hi with
  | true => simp only [PadS.read, hs, if_true, readOf, ← h.hi]; rw [h.p, and1 _ hp]
  | false =>
    have hn := h.low hs
    simp only [PadS.read, hs, Bool.false_eq_true, if_false, readOf, ← h.hi]
    by_cases h8 : 8 ≤ reads (m.drop (atUpto m m.length))
    · rw [if_pos h8] at hn ⊢; rw [if_pos hn]
    · rw [if_neg h8] at hn ⊢; rw [if_neg (by omega)]
      rw [hn, Int.toNat_natCast]
      exact h.t hs _ (by omega)

theorem sim_run (m : List (Int × Int)) (hm : ∀ o, o ∈ m → OkOp o) : ∀ k, k ≤ m.length → Sim (PadS.new.run (m.take k)).1 (m.take k) := by
  intro k
  induction k with
  | zero => intro _; exact sim_new
  | succ k ih =>
    intro hk
    obtain ⟨o, ho⟩ : ∃ o, m[k]? = some o := ⟨_, List.getElem?_eq_getElem (by omega)⟩
    have := sim_step (PadS.new.run (m.take k)).1 (m.take k) o (PadS.new.run (m.take k)).2 (fun o h => hm o (List.mem_of_mem_take h)) (hm o (List.mem_of_getElem? ho)) (ih (by omega))
    rw [run_snoc _ _ _ _ ho, take_snoc ho]
    exact this
end Go.Proofs.Ytdcjjcliemleeaa
