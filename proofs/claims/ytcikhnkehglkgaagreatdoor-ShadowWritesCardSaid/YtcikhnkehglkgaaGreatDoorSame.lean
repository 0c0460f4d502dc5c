/- PROVED: the contract of keepsakeref01.Same: are two rows of numbers one? No conditions beyond those that each theorem states. -/
import Derived.Test.YtcikhnkehglkgaaGreatDoorProg
import Derived.Test.YtcikhnkehglkgaaGreatDoorBy
namespace Go.Proofs.YtcikhnkehglkgaaGreatDoor
open Go.RowKit Go.Proofs.YtcikhnkehglkgaaGreatDoorLib
set_option linter.unusedSimpArgs false
set_option linter.unusedVariables false

theorem same_take (l m : List Int) (k : Nat) (x y : Int) (h : l.take k = m.take k) (hx : l[k]? = some x) (hy : m[k]? = some y) (e : x = y) : l.take (k + 1) = m.take (k + 1) := by
  rw [List.take_add_one, List.take_add_one, h, hx, hy, e]
set_option maxRecDepth 100000 in
set_option maxHeartbeats 4000000 in
theorem same_any (w : World) (v1 v2 : Value) (b1 o1 b2 o2 : Nat) (l m : List Int) (h1 : Sl .u8 w v1 b1 o1 l) (h2 : Sl .u8 w v2 b2 o2 m) :
    Calls Tryz.prog 20 #[v1, v2] w (Post w [] fun r W => r = .bool (decide (l = m))) := by
  have L1 := h1.len
  have L2 := h2.len
  unfold maxLen at L1 L2
  obtain ⟨A1, c1, e1⟩ := h1.form
  obtain ⟨A2, c2, e2⟩ := h2.form
  subst e1; subst e2
  have H1 := Lib.hid h1
  have H2 := Lib.hid h2
  clear h1 h2
  have l0 : (0 : Int) ≤ l.length := by omega
  have l1 : (l.length : Int) ≤ 9223372036854775807 := by omega
  have m0 : (0 : Int) ≤ m.length := by omega
  have m1 : (m.length : Int) ≤ 9223372036854775807 := by omega
  by_cases hl : l.length ≠ m.length
  · have t1 : ((l.length : Int) != (m.length : Int)) = true := by simp; omega
    have hne : l ≠ m := fun e => hl (by rw [e])
    have HL := Lib.hid hl
    have HN := Lib.hid hne
    clear hl hne
    go_enter Tryz.func20, Tryz.ntmps20
    go_wp2_with fail
    go_ret
    exact ⟨_, rfl, by simp [HN.out], Kept.refl _ _⟩
  have hl : l.length = m.length := by omega
  have t1 : ((l.length : Int) != (m.length : Int)) = false := by simp; omega
  have HL := Lib.hid hl
  clear hl
  go_enter Tryz.func20, Tryz.ntmps20
  go_wp2_with fail
  go_loopg [5] l.length (fun g i wr => ∃ k : Nat, k + g = l.length ∧ i = .int .i64 k ∧ l.take k = m.take k ∧ Kept w wr [])
  case atStart => exact ⟨0, by omega, rfl, by simp, Kept.refl _ _⟩
  case round =>
    obtain ⟨k, hk, rfl, ht, hkept⟩ := hrel
    have HK := Lib.hid hk
    have HT := Lib.hid ht
    have HKE := Lib.hid hkept
    clear hk ht hkept
    by_cases hlt : k < l.length
    · have hx := List.getElem?_eq_getElem hlt
      have hlm : k < m.length := by have := HL.out; omega
      have hy := List.getElem?_eq_getElem hlm
      generalize l[k] = x at hx
      generalize m[k] = y at hy
      have g1 := H1.out.at (by intro e; rw [e] at hlt; simp at hlt)
      have g2 := H2.out.at (by intro e; rw [e] at hlm; simp at hlm)
      obtain ⟨c1', g1⟩ := g1
      obtain ⟨c2', g2⟩ := g2
      simp only [Value.slice.injEq] at g1 g2
      obtain ⟨rfl, _, _⟩ := g1
      obtain ⟨rfl, _, _⟩ := g2
      have d1 := (H1.out.kept HKE.out (.inr (by simp))).cell hx
      have d2 := (H2.out.kept HKE.out (.inr (by simp))).cell hy
      have k0 : (0 : Int) ≤ k := by omega
      have k1 : (k : Int) < l.length := by omega
      have k2 : (k : Int) < m.length := by omega
      have HX := Lib.hid hx
      have HY := Lib.hid hy
      clear hx hy
      by_cases hxy : x = y
      · have t2 : (x != y) = false := by simp [hxy]
        have HXY := Lib.hid hxy
        clear hxy
        go_wp2_with fail
        go_region
        all_goals (
          go_wp2_with fail
          go_roundg (gk - 1)
          case measure => have := HK.out; omega
          case rel => exact ⟨k + 1, by have := HK.out; omega, by go_num, same_take _ _ _ _ _ HT.out HX.out HY.out HXY.out, HKE.out.drew⟩)
      · have t2 : (x != y) = true := by simp [hxy]
        have HXY := Lib.hid hxy
        clear hxy
        have hne : l ≠ m := fun e => HXY.out (by have h1 := HX.out; have h2 := HY.out; rw [e] at h1; rw [h1] at h2; simpa using h2)
        have HN := Lib.hid hne
        clear hne
        go_wp2_with fail
        go_region
        all_goals (
          go_wp2_with fail
          go_ret
          exact ⟨_, rfl, by simp [HN.out], HKE.out.drew⟩)
    · have hkn : k = l.length := by have := HK.out; omega
      have e : l = m := by
        have h1 := HT.out
        rw [List.take_of_length_le (by omega), List.take_of_length_le (by have := HL.out; omega)] at h1
        exact h1
      have HE := Lib.hid e
      clear e hlt
      subst hkn
      go_wp2_with fail
      go_ret
      exact ⟨_, rfl, by simp [HE.out], HKE.out⟩
end Go.Proofs.YtcikhnkehglkgaaGreatDoor
