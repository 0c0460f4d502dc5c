/- PROVED: the contract of keepsakelaw02.few. No conditions beyond those that each theorem states. -/
import Derived.Test.YtcbngmfbbdmlgaaDkK
namespace Go.Proofs.Ytcbngmfbbdmlgaa
open Go.RowKit Go.Proofs.YtcbngmfbbdmlgaaLib Go.WideElems Go.Maps
set_option linter.unusedSimpArgs false
set_option linter.unusedVariables false

/-- an operation of a slice, cell by cell -/
theorem ops_cells {w : World} {B B1 : Nat} {v : Value} {l : List DkOp} (h : SliceAt (OpK B) 4 w B1 v l) {k : Nat} (hk : k < l.length) :
    ∃ (b off : Nat) (c : Nat) (Ab At : Option Addr) (cb ct : Nat), v = .slice (some ⟨b, off, none⟩) l.length c ∧ w.cell? ⟨b, off + k * 4, none⟩ = some (.int .u8 l[k].kind) ∧ w.cell? ⟨b, off + k * 4 + 1, none⟩ = some (.int .i64 l[k].i) ∧
      w.cell? ⟨b, off + k * 4 + 2, none⟩ = some (.slice Ab l[k].b.length cb) ∧ w.cell? ⟨b, off + k * 4 + 3, none⟩ = some (.slice At l[k].t.length ct) ∧ SliceAt Byte1 1 w B (.slice Ab l[k].b.length cb) l[k].b ∧ SliceAt (TearK B) 2 w B (.slice At l[k].t.length ct) l[k].t ∧ (-9223372036854775808 ≤ l[k].i ∧ l[k].i ≤ 9223372036854775807) ∧ 0 ≤ l[k].kind ∧ l[k].kind ≤ 255 := by
  obtain ⟨A, c, rfl, h1, h2, h3⟩ := h
  rcases h3 with rfl | ⟨b, off, rfl, hb, hx⟩
  · simp at hk
  · obtain ⟨cs, hl, ⟨bv, tv, rfl, hb1, ht1, hi⟩, hc⟩ := hx k l[k] (List.getElem?_eq_getElem hk)
    obtain ⟨Ab, cb, rfl, _⟩ := id hb1
    obtain ⟨At, ct, rfl, _⟩ := id ht1
    exact ⟨b, off, c, Ab, At, cb, ct, rfl, hc 0 _ rfl, hc 1 _ rfl, hc 2 _ rfl, hc 3 _ rfl, hb1, ht1, hi⟩
theorem tears_cells {w : World} {B B1 : Nat} {v : Value} {l : List (Int × List Int)} (h : SliceAt (TearK B) 2 w B1 v l) {k : Nat} (hk : k < l.length) :
    ∃ (b off : Nat) (c : Nat) (Ab : Option Addr) (cb : Nat), v = .slice (some ⟨b, off, none⟩) l.length c ∧ w.cell? ⟨b, off + k * 2, none⟩ = some (.int .i64 l[k].1) ∧
      w.cell? ⟨b, off + k * 2 + 1, none⟩ = some (.slice Ab l[k].2.length cb) ∧ SliceAt Byte1 1 w B (.slice Ab l[k].2.length cb) l[k].2 := by
  obtain ⟨A, c, rfl, h1, h2, h3⟩ := h
  rcases h3 with rfl | ⟨b, off, rfl, hb, hx⟩
  · simp at hk
  · obtain ⟨cs, hl, ⟨bv, rfl, hb1⟩, hc⟩ := hx k l[k] (List.getElem?_eq_getElem hk)
    obtain ⟨Ab, cb, rfl, _⟩ := id hb1
    exact ⟨b, off, c, Ab, cb, rfl, hc 0 _ rfl, hc 1 _ rfl, hb1⟩
theorem SliceAt.form {α : Type} {K : World → List Value → α → Prop} {size : Nat} {w : World} {B : Nat} {v : Value} {xs : List α} (h : SliceAt K size w B v xs) : ∃ A c, v = .slice A xs.length c ∧ xs.length ≤ c ∧ c ≤ maxLen := let ⟨A, c, e, h1, h2, _⟩ := h; ⟨A, c, e, h1, h2⟩
set_option maxRecDepth 100000 in
set_option maxHeartbeats 8000000 in
theorem few_any (w : World) (B B1 : Nat) (v : Value) (l : List DkOp) (h : SliceAt (OpK B) 4 w B1 v l) :
    Calls Try.prog 5 #[v] w (Post w [] fun r W => ∃ x : Bool, r = .bool x ∧ (x = true → l.length ≤ 40)) := by
  obtain ⟨A, c, rfl, hc1, hc2⟩ := SliceAt.form h
  have H := Lib.hid h
  unfold maxLen at hc2
  have l0 : (0 : Int) ≤ l.length := by omega
  have l1 : (l.length : Int) ≤ 9223372036854775807 := by omega
  clear h
  go_enter Try.func5, Try.ntmps5
  go_wp2_with fail
  go_loopg [3] l.length (fun g i wr => ∃ k : Nat, k + g = l.length ∧ i = .int .i64 k ∧ Kept w wr [])
  case atStart => exact ⟨0, by omega, rfl, Kept.refl _ _⟩
  case round =>
    obtain ⟨k, hk, rfl, hkept⟩ := hrel
    have HK := Lib.hid hk
    have HKE := Lib.hid hkept
    clear hk hkept
    by_cases hlt : k < l.length
    · obtain ⟨b, off, c', Ab, At, cb, ct, e, _, _, d2, d3, _, ht, _⟩ := ops_cells H.out hlt
      simp only [Value.slice.injEq] at e
      obtain ⟨rfl, _, _⟩ := e
      have g2 := HKE.out.cell d2 (by simp)
      have g3 := HKE.out.cell d3 (by simp)
      obtain ⟨At', ct', e', q1, q2⟩ := SliceAt.form ht
      simp only [Value.slice.injEq] at e'
      obtain ⟨rfl, _, rfl⟩ := e'
      unfold maxLen at q2
      have t0 : (0 : Int) ≤ l[k].t.length := by omega
      have t1 : (l[k].t.length : Int) ≤ 9223372036854775807 := by omega
      have k0 : (0 : Int) ≤ k := by omega
      have k1 : (k : Int) < l.length := by omega
      have HT := Lib.hid ht
      generalize l[k] = o at *
      have D3 := Lib.hid d3
      clear d2 d3 ht
      by_cases h1 : 40 < o.b.length
      · have h1' : decide ((40 : Int) < (o.b.length : Int)) = true := by simp; omega
        go_wp2_with fail
        go_ret
        exact ⟨_, rfl, ⟨false, rfl, fun h => by cases h⟩, HKE.out⟩
      have h1' : decide ((40 : Int) < (o.b.length : Int)) = false := by simp; omega
      by_cases h2 : 40 < o.t.length
      · have h2' : decide ((40 : Int) < (o.t.length : Int)) = true := by simp; omega
        go_wp2_with fail
        go_ret
        exact ⟨_, rfl, ⟨false, rfl, fun h => by cases h⟩, HKE.out⟩
      have h2' : decide ((40 : Int) < (o.t.length : Int)) = false := by simp; omega
      clear h1 h2
      go_wp2_with fail
      obtain ⟨go, hgo⟩ : ∃ g, g = gk := ⟨_, rfl⟩
      have HGO := Lib.hid hgo
      clear hgo
      go_loopg [4] o.t.length (fun g i wx => ∃ j : Nat, j + g = o.t.length ∧ i = .int .i64 j ∧ Kept w wx [])
      case atStart => exact ⟨0, by omega, rfl, HKE.out⟩
      case round =>
        obtain ⟨j, hj, rfl, hkx⟩ := hrel
        have HJ := Lib.hid hj
        have HKX := Lib.hid hkx
        clear hj hkx
        have g3' := HKX.out.cell D3.out (by simp)
        by_cases hlj : j < o.t.length
        · obtain ⟨tb, toff, tc, Aq, cq, et, p0, p1, _⟩ := tears_cells HT.out hlj
          simp only [Value.slice.injEq] at et
          obtain ⟨rfl, _, _⟩ := et
          have p1' := HKX.out.cell p1 (by simp)
          have j0 : (0 : Int) ≤ j := by omega
          have j1 : (j : Int) < o.t.length := by omega
          generalize o.t[j] = t at *
          clear p0 p1 g3
          by_cases h3 : 40 < t.2.length
          · have h3' : decide ((40 : Int) < (t.2.length : Int)) = true := by simp; omega
            go_wp2_with fail
            go_ret
            exact ⟨_, rfl, ⟨false, rfl, fun h => by cases h⟩, HKX.out⟩
          have h3' : decide ((40 : Int) < (t.2.length : Int)) = false := by simp; omega
          clear h3
          go_wp2_with fail
          go_roundg (gk - 1)
          case measure => have := HJ.out; omega
          case rel => exact ⟨j + 1, by have := HJ.out; omega, by go_num, HKX.out⟩
        · go_wp2_with fail
          go_roundg (go - 1)
          case measure => have := HK.out; have := HGO.out; omega
          case rel => exact ⟨k + 1, by have := HK.out; have := HGO.out; omega, by go_num, HKX.out⟩
    · have hkn : k = l.length := by have := HK.out; omega
      clear hlt
      subst hkn
      go_wp2_with fail
      go_ret
      exact ⟨_, rfl, ⟨_, rfl, fun h => by simp at h; omega⟩, HKE.out⟩
end Go.Proofs.Ytcbngmfbbdmlgaa
