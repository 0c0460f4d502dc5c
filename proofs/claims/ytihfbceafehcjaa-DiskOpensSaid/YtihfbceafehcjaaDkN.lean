/- PROVED: the contract of keepsakelaw02.made. No conditions beyond those that each theorem states. -/
import Derived.Test.YtihfbceafehcjaaDkM
namespace Go.Proofs.YtihfbceafehcjaaLib
def DiskS.run (s : DiskS) (l : List DkOp) : DiskS := l.foldl (fun s o => (s.step o).1) s
theorem DiskS.run_snoc (s : DiskS) (l : List DkOp) (o : DkOp) : s.run (l ++ [o]) = ((s.run l).step o).1 := by simp [DiskS.run]
theorem DiskS.run_take (s : DiskS) (l : List DkOp) (k : Nat) (hk : k < l.length) : s.run (l.take (k + 1)) = ((s.run (l.take k)).step l[k]).1 := by
  rw [List.take_add_one, List.getElem?_eq_getElem hk, ← DiskS.run_snoc]; rfl
theorem DiskS.step_le (s : DiskS) (o : DkOp) : (s.step o).1.ops ≤ s.ops + 1 ∧ (s.step o).1.marks ≤ s.marks + 1 := by
  unfold DiskS.step
  split
  · unfold DiskS.write
    split
    · exact ⟨Nat.le_refl _, Nat.le_succ _⟩
    split
    · exact ⟨Nat.le_refl _, Nat.le_succ _⟩
    split
    · exact ⟨Nat.le_refl _, Nat.le_succ _⟩
    split <;> exact ⟨Nat.le_refl _, Nat.le_succ _⟩
  split
  · exact ⟨Nat.le_refl _, Nat.le_succ _⟩
  split
  · unfold DiskS.sync
    split <;> exact ⟨Nat.le_refl _, Nat.le_succ _⟩
  split
  · exact ⟨Nat.le_succ _, Nat.le_succ _⟩
  split
  · dsimp only
    split
    · exact ⟨Nat.le_succ _, Nat.le_refl _⟩
    · exact ⟨Nat.le_succ _, Nat.le_succ _⟩
  · exact ⟨Nat.le_succ _, Nat.le_succ _⟩
theorem DiskS.run_le (s : DiskS) (l : List DkOp) : (s.run l).ops ≤ s.ops + l.length ∧ (s.run l).marks ≤ s.marks + l.length := by
  induction l generalizing s with
  | nil => exact ⟨Nat.le_refl _, Nat.le_refl _⟩
  | cons o l ih =>
    have h1 := ih (s.step o).1
    have h2 := s.step_le o
    rw [List.length_cons]
    constructor
    · have : (s.run (o :: l)).ops = ((s.step o).1.run l).ops := rfl
      omega
    · have : (s.run (o :: l)).marks = ((s.step o).1.run l).marks := rfl
      omega
end Go.Proofs.YtihfbceafehcjaaLib
namespace Go.Proofs.Ytihfbceafehcjaa
open Go.RowKit Go.Proofs.YtihfbceafehcjaaLib Go.WideElems Go.Maps
set_option linter.unusedSimpArgs false
set_option linter.unusedVariables false

theorem OpAt.of {w : World} {B : Nat} {F : List Nat} {o : DkOp} {bv tv : Value} (hF : ∀ g, g ∈ F → B ≤ g) (hb : SliceAt Byte1 1 w B bv o.b) (ht : SliceAt (TearK B) 2 w B tv o.t) (hi : -9223372036854775808 ≤ o.i ∧ o.i ≤ 9223372036854775807) :
    OpAt w F (.agg #[.int .u8 o.kind, .int .i64 o.i, bv, tv]) o := ⟨bv, tv, rfl, BtsAt.of hb hF, TearsAt.of ht hF, hi⟩
set_option maxRecDepth 100000 in
set_option maxHeartbeats 8000000 in
theorem made_any (w : World) (B : Nat) (v : Value) (l : List DkOp) (h : SliceAt (OpK B) 4 w B v l) (hB : B ≤ w.heap.size) (hl : l.length ≤ 40) :
    Calls Try.prog 30 #[v] w (Post w [] fun r W => ∃ b F, r = .pointer (some ⟨b, 0, none⟩) ∧ DiskAt W b F ((DiskS.new 8 4).run l) ∧ ∀ g, g ∈ F → w.heap.size ≤ g) := by
  obtain ⟨A, c, rfl, hc1, hc2⟩ := SliceAt.form h
  have H := Lib.hid h
  have l0 : (0 : Int) ≤ l.length := by omega
  have l1 : (l.length : Int) ≤ 40 := by omega
  have HLL := Lib.hid hl
  clear h hc2 hl
  go_enter Try.func30, Try.ntmps30
  go_wp2_with fail
  refine (new_yes w 8 4 ⟨by decide, by decide, by decide, by decide⟩).mono ?_
  rintro _ w1 ⟨_, rfl, ⟨b, F0, rfl, hd, hF0⟩, k1⟩
  have HD := Lib.hid hd
  have HF0 := Lib.hid hF0
  have K1 := Lib.hid k1
  clear hd hF0 k1
  go_wp2_with fail
  go_loopg [5] l.length (fun g i wr => ∃ (k : Nat) (F : List Nat), k + g = l.length ∧ i = .int .i64 k ∧ DiskAt wr b F ((DiskS.new 8 4).run (l.take k)) ∧ (∀ g, g ∈ F → w.heap.size ≤ g) ∧ Kept w wr [])
  case atStart => exact ⟨0, F0, by omega, rfl, HD.out, HF0.out, K1.out⟩
  case round =>
    obtain ⟨k, F, hk, rfl, hd, hF, hkept⟩ := hrel
    have HK := Lib.hid hk
    have HKE := Lib.hid hkept
    have HD2 := Lib.hid hd
    have HF2 := Lib.hid hF
    clear hk hkept hd hF
    by_cases hlt : k < l.length
    · have hS := H.out.kept HKE.out hB (by simp) (fun cs x h => h.kept HKE.out hB (by simp))
      obtain ⟨ab, off, c', Ab, At, cb, ct, e, d0, d1, d2, d3, hb, ht, hi, hkd⟩ := ops_cells hS hlt
      simp only [Value.slice.injEq] at e
      obtain ⟨rfl, _, rfl⟩ := e
      have hop := OpAt.of (F := F) (fun g hg => Nat.le_trans hB (HF2.out g hg)) hb ht hi
      have HOP := Lib.hid hop
      have hrt := DiskS.run_take (DiskS.new 8 4) l k hlt
      have HRT := Lib.hid hrt
      have hle := DiskS.run_le (DiskS.new 8 4) (l.take k)
      rw [List.length_take] at hle
      have hle1 : ((DiskS.new 8 4).run (l.take k)).ops < 1000000000 := by
        have h1 := hle.1
        have h2 : (DiskS.new 8 4).ops = 0 := rfl
        have := HLL.out
        omega
      have hle2 : ((DiskS.new 8 4).run (l.take k)).marks < 1000000000 := by
        have h1 := hle.2
        have h2 : (DiskS.new 8 4).marks = 0 := rfl
        have := HLL.out
        omega
      have k0 : (0 : Int) ≤ k := by omega
      have k1 : (k : Int) < l.length := by omega
      generalize l[k] = o at *
      generalize (DiskS.new 8 4).run (l.take k) = s at *
      clear hS hb ht hi hop hrt hle
      go_wp2_with fail
      refine (do_any _ b F s HD2.out hle1 hle2 _ o HOP.out).mono ?_
      rintro _ w3 ⟨_, rfl, ⟨rv, rfl, _, F3, hF3, hd3⟩, k3⟩
      have hk3 := HKE.out.trans k3 (fun g hg => .inr (HF2.out g hg))
      have HK3 := Lib.hid hk3
      have HF3 : Hid (∀ g, g ∈ F3 → w.heap.size ≤ g) := Lib.hid (fun g hg => (hF3 g hg).elim (HF2.out g) (fun h => Nat.le_trans HKE.out.size h))
      have HD3 := Lib.hid hd3
      clear hd3 hF3 k3 hk3
      go_wp2_with fail
      go_roundg (gk - 1)
      case measure => have := HK.out; omega
      case rel => exact ⟨k + 1, F3, by have := HK.out; omega, by go_num, by rw [HRT.out]; exact HD3.out, HF3.out, HK3.out⟩
    · have hkn : k = l.length := by have := HK.out; omega
      clear hlt
      subst hkn
      go_wp2_with fail
      go_ret
      have e := HD2.out
      rw [List.take_length] at e
      exact ⟨_, rfl, ⟨b, F, rfl, e, HF2.out⟩, HKE.out⟩
end Go.Proofs.Ytihfbceafehcjaa
