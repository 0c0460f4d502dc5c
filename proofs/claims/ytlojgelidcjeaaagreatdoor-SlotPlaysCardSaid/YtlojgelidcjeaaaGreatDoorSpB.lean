/- PROVED: how the operations of keepsakelaw06 lie in memory, and its few; both disks beside one another, through slots. No conditions beyond those that each theorem states. -/
import Derived.Test.YtlojgelidcjeaaaGreatDoorTea
import Derived.Test.YtlojgelidcjeaaaGreatDoorSlRb
import Derived.Test.YtlojgelidcjeaaaGreatDoorRjE
import Derived.Test.YtlojgelidcjeaaaGreatDoorRfP
import Derived.Test.YtlojgelidcjeaaaGreatDoorInts
namespace Go.Proofs.YtlojgelidcjeaaaGreatDoorLib
/-- an operation on slots -/
structure SpOp where
  kind : Int
  which : Int
  seq : Int
  b : List Int
  n : Int
  t : List (Int × List Int)
end Go.Proofs.YtlojgelidcjeaaaGreatDoorLib
namespace Go.Proofs.YtlojgelidcjeaaaGreatDoor
open Go.RowKit Go.Proofs.YtlojgelidcjeaaaGreatDoorLib Go.WideElems Go.Maps
set_option linter.unusedSimpArgs false
set_option linter.unusedVariables false

/-- the cells of an operation -/
def SpK (B : Nat) (w : World) (cs : List Value) (o : SpOp) : Prop := ∃ bv tv, cs = [.int .u8 o.kind, .int .i64 o.which, .int .u64 o.seq, bv, .int .u8 o.n, tv] ∧ SliceAt Byte1 1 w B bv o.b ∧ SliceAt (TearK B) 2 w B tv o.t ∧ (0 ≤ o.kind ∧ o.kind ≤ 255) ∧ (-9223372036854775808 ≤ o.which ∧ o.which ≤ 9223372036854775807) ∧ (0 ≤ o.seq ∧ o.seq ≤ 18446744073709551615) ∧ 0 ≤ o.n ∧ o.n ≤ 255
theorem SpK.kept {B : Nat} {w w1 : World} {cs : List Value} {o : SpOp} {S : List Nat} (h : SpK B w cs o) (hk : Kept w w1 S) (hB : B ≤ w.heap.size) (hS : ∀ b, b ∈ S → B ≤ b) : SpK B w1 cs o := by
  obtain ⟨bv, tv, rfl, h1, h2, h3⟩ := h
  exact ⟨bv, tv, rfl, h1.kept hk hB hS (fun _ _ h => h), h2.kept hk hB hS (fun _ _ h => h.kept hk hB hS), h3⟩
/-- an operation of a slice, cell by cell -/
theorem sp_cells {w : World} {B B1 : Nat} {v : Value} {l : List SpOp} (h : SliceAt (SpK B) 6 w B1 v l) {k : Nat} (hk : k < l.length) :
    ∃ (b off : Nat) (c : Nat) (Ab At : Option Addr) (cb ct : Nat), v = .slice (some ⟨b, off, none⟩) l.length c ∧ b < B1 ∧ w.cell? ⟨b, off + k * 6, none⟩ = some (.int .u8 l[k].kind) ∧ w.cell? ⟨b, off + k * 6 + 1, none⟩ = some (.int .i64 l[k].which) ∧ w.cell? ⟨b, off + k * 6 + 2, none⟩ = some (.int .u64 l[k].seq) ∧
      w.cell? ⟨b, off + k * 6 + 3, none⟩ = some (.slice Ab l[k].b.length cb) ∧ w.cell? ⟨b, off + k * 6 + 4, none⟩ = some (.int .u8 l[k].n) ∧ w.cell? ⟨b, off + k * 6 + 5, none⟩ = some (.slice At l[k].t.length ct) ∧ SliceAt Byte1 1 w B (.slice Ab l[k].b.length cb) l[k].b ∧ SliceAt (TearK B) 2 w B (.slice At l[k].t.length ct) l[k].t ∧
      (0 ≤ l[k].kind ∧ l[k].kind ≤ 255) ∧ (-9223372036854775808 ≤ l[k].which ∧ l[k].which ≤ 9223372036854775807) ∧ (0 ≤ l[k].seq ∧ l[k].seq ≤ 18446744073709551615) ∧ 0 ≤ l[k].n ∧ l[k].n ≤ 255 := by
  obtain ⟨A, c, rfl, h1, h2, h3⟩ := h
  rcases h3 with rfl | ⟨b, off, rfl, hb, hx⟩
  · simp at hk
  · obtain ⟨cs, hl, ⟨bv, tv, rfl, hb1, ht1, hi⟩, hc⟩ := hx k l[k] (List.getElem?_eq_getElem hk)
    obtain ⟨Ab, cb, rfl, _⟩ := id hb1
    obtain ⟨At, ct, rfl, _⟩ := id ht1
    exact ⟨b, off, c, Ab, At, cb, ct, rfl, hb, hc 0 _ rfl, hc 1 _ rfl, hc 2 _ rfl, hc 3 _ rfl, hc 4 _ rfl, hc 5 _ rfl, hb1, ht1, hi⟩
theorem tears_cells {w : World} {B B1 : Nat} {v : Value} {l : List (Int × List Int)} (h : SliceAt (TearK B) 2 w B1 v l) {k : Nat} (hk : k < l.length) :
    ∃ (b off : Nat) (c : Nat) (Ab : Option Addr) (cb : Nat), v = .slice (some ⟨b, off, none⟩) l.length c ∧ w.cell? ⟨b, off + k * 2, none⟩ = some (.int .i64 l[k].1) ∧
      w.cell? ⟨b, off + k * 2 + 1, none⟩ = some (.slice Ab l[k].2.length cb) ∧ SliceAt Byte1 1 w B (.slice Ab l[k].2.length cb) l[k].2 := by
  obtain ⟨A, c, rfl, h1, h2, h3⟩ := h
  rcases h3 with rfl | ⟨b, off, rfl, hb, hx⟩
  · simp at hk
  · obtain ⟨cs, hl, ⟨bv, rfl, hb1⟩, hc⟩ := hx k l[k] (List.getElem?_eq_getElem hk)
    obtain ⟨Ab, cb, rfl, _⟩ := id hb1
    exact ⟨b, off, c, Ab, cb, rfl, hc 0 _ rfl, hc 1 _ rfl, hb1⟩
theorem SpSl.form {α : Type} {K : World → List Value → α → Prop} {size : Nat} {w : World} {B : Nat} {v : Value} {xs : List α} (h : SliceAt K size w B v xs) : ∃ A c, v = .slice A xs.length c ∧ xs.length ≤ c ∧ c ≤ maxLen := let ⟨A, c, e, h1, h2, _⟩ := h; ⟨A, c, e, h1, h2⟩
set_option maxRecDepth 100000 in
set_option maxHeartbeats 8000000 in
theorem spfew_any (w : World) (B B1 : Nat) (v : Value) (l : List SpOp) (h : SliceAt (SpK B) 6 w B1 v l) :
    Calls Tryz.prog 5 #[v] w (Post w [] fun r W => ∃ x : Bool, r = .bool x ∧ (x = true → l.length ≤ 12 ∧ ∀ o, o ∈ l → o.b.length ≤ 600)) := by
  obtain ⟨A, c, rfl, hc1, hc2⟩ := SpSl.form h
  have H := Lib.hid h
  unfold maxLen at hc2
  have l0 : (0 : Int) ≤ l.length := by omega
  have l1 : (l.length : Int) ≤ 9223372036854775807 := by omega
  clear h
  go_enter Tryz.func5, Tryz.ntmps5
  go_wp2_with fail
  go_loopg [3] l.length (fun g i wr => ∃ k : Nat, k + g = l.length ∧ i = .int .i64 k ∧ (∀ o, o ∈ l.take k → o.b.length ≤ 600) ∧ Kept w wr [])
  case atStart => exact ⟨0, by omega, rfl, by simp, Kept.refl _ _⟩
  case round =>
    obtain ⟨k, hk, rfl, hall, hkept⟩ := hrel
    have HALL := Lib.hid hall
    clear hall
    have HK := Lib.hid hk
    have HKE := Lib.hid hkept
    clear hk hkept
    by_cases hlt : k < l.length
    · obtain ⟨b, off, c', Ab, At, cb, ct, e, _, _, _, _, d2, _, d3, _, ht, _⟩ := sp_cells H.out hlt
      simp only [Value.slice.injEq] at e
      obtain ⟨rfl, _, _⟩ := e
      have g2 := HKE.out.cell d2 (by simp)
      have g3 := HKE.out.cell d3 (by simp)
      obtain ⟨At', ct', e', q1, q2⟩ := SpSl.form ht
      simp only [Value.slice.injEq] at e'
      obtain ⟨rfl, _, rfl⟩ := e'
      unfold maxLen at q2
      have t0 : (0 : Int) ≤ l[k].t.length := by omega
      have t1 : (l[k].t.length : Int) ≤ 9223372036854775807 := by omega
      have k0 : (0 : Int) ≤ k := by omega
      have k1 : (k : Int) < l.length := by omega
      have HT := Lib.hid ht
      have HTK : Hid (l.take (k + 1) = l.take k ++ [l[k]]) := Lib.hid (by rw [List.take_add_one, List.getElem?_eq_getElem hlt]; rfl)
      generalize l[k] = o at *
      have D3 := Lib.hid d3
      clear d2 d3 ht
      by_cases h1 : 600 < o.b.length
      · have h1' : decide ((600 : Int) < (o.b.length : Int)) = true := by simp; omega
        go_wp2_with fail
        go_ret
        exact ⟨_, rfl, ⟨false, rfl, fun h => by cases h⟩, HKE.out⟩
      have h1' : decide ((600 : Int) < (o.b.length : Int)) = false := by simp; omega
      by_cases h2 : 40 < o.t.length
      · have h2' : decide ((40 : Int) < (o.t.length : Int)) = true := by simp; omega
        go_wp2_with fail
        go_ret
        exact ⟨_, rfl, ⟨false, rfl, fun h => by cases h⟩, HKE.out⟩
      have h2' : decide ((40 : Int) < (o.t.length : Int)) = false := by simp; omega
      have HB6 : Hid (o.b.length ≤ 600) := Lib.hid (by omega)
      clear h1 h2
      go_wp2_with fail
      obtain ⟨go, hgo⟩ : ∃ g, g = gk := ⟨_, rfl⟩
      have HGO := Lib.hid hgo
      clear hgo
      go_loopg [4] o.t.length (fun g i wx => ∃ j : Nat, j + g = o.t.length ∧ i = .int .i64 j ∧ Kept w wx [])
      case atStart => exact ⟨0, by omega, rfl, HKE.out⟩
      case round =>
        obtain ⟨j, hj, rfl, hkx⟩ := hrel
        have HJ := Lib.hid hj
        have HKX := Lib.hid hkx
        clear hj hkx
        have g3' := HKX.out.cell D3.out (by simp)
        by_cases hlj : j < o.t.length
        · obtain ⟨tb, toff, tc, Aq, cq, et, p0, p1, _⟩ := tears_cells HT.out hlj
          simp only [Value.slice.injEq] at et
          obtain ⟨rfl, _, _⟩ := et
          have p1' := HKX.out.cell p1 (by simp)
          have j0 : (0 : Int) ≤ j := by omega
          have j1 : (j : Int) < o.t.length := by omega
          generalize o.t[j] = t at *
          clear p0 p1 g3
          by_cases h3 : 100 < t.2.length
          · have h3' : decide ((100 : Int) < (t.2.length : Int)) = true := by simp; omega
            go_wp2_with fail
            go_ret
            exact ⟨_, rfl, ⟨false, rfl, fun h => by cases h⟩, HKX.out⟩
          have h3' : decide ((100 : Int) < (t.2.length : Int)) = false := by simp; omega
          clear h3
          go_wp2_with fail
          go_roundg (gk - 1)
          case measure => have := HJ.out; omega
          case rel => exact ⟨j + 1, by have := HJ.out; omega, by go_num, HKX.out⟩
        · go_wp2_with fail
          go_roundg (go - 1)
          case measure => have := HK.out; have := HGO.out; omega
          case rel =>
            refine ⟨k + 1, by have := HK.out; have := HGO.out; omega, by go_num, ?_, HKX.out⟩
            intro p hp
            rw [HTK.out] at hp
            rcases List.mem_append.1 hp with h | h
            · exact HALL.out p h
            · simp at h; subst h; exact HB6.out
    · have hkn : k = l.length := by have := HK.out; omega
      clear hlt
      subst hkn
      go_wp2_with fail
      go_ret
      exact ⟨_, rfl, ⟨_, rfl, fun h => ⟨by simp at h; omega, by have := HALL.out; rw [List.take_length] at this; exact this⟩⟩, HKE.out⟩
end Go.Proofs.YtlojgelidcjeaaaGreatDoor
namespace Go.Proofs.YtlojgelidcjeaaaGreatDoor
open Go.RowKit Go.Proofs.YtlojgelidcjeaaaGreatDoorLib Go.WideElems Go.Maps
set_option linter.unusedSimpArgs false
set_option linter.unusedVariables false

theorem write_marks (s : DiskS) (i : Int) (l : List Int) : (s.write i l).1.marks = s.marks := by
  unfold DiskS.write
  split
  · rfl
  split
  · rfl
  split
  · rfl
  split <;> rfl
theorem writesM_le (s : DiskS) (a : Nat) (xs : List (List Int)) : (writesM s a xs).1.marks = s.marks ∧ (writesM s a xs).1.ops ≤ s.ops + xs.length := by
  induction xs generalizing s a with
  | nil => exact ⟨rfl, Nat.le_refl _⟩
  | cons x xs ih =>
    rw [writesM]
    split
    · exact ⟨write_marks _ _ _, by rw [write_ops, List.length_cons]; omega⟩
    · have h := ih (s.write (a : Int) x).1 (a + 1)
      rw [write_marks, write_ops] at h
      exact ⟨h.1, by rw [List.length_cons]; omega⟩
theorem dataM_le {s : DiskS} (h1 : 1 ≤ s.size) (which e f g : Int) (l : List Int) : (dataM s which e f g l).1.marks = s.marks ∧ (dataM s which e f g l).1.ops ≤ s.ops + l.length := by
  unfold dataM
  split
  · exact ⟨rfl, by show s.ops ≤ _; omega⟩
  split
  · exact ⟨rfl, by show s.ops ≤ _; omega⟩
  · have h := writesM_le s (slotAt s which e f g + 1) (imgL l s.size)
    rw [imgL_len] at h
    have := secs_le l.length s.size h1
    exact ⟨h.1, by omega⟩
theorem sealM_le (s : DiskS) (which e f g seq : Int) (l : List Int) : (sealM s which e f g seq l).1.marks = s.marks ∧ (sealM s which e f g seq l).1.ops ≤ s.ops + 1 := by
  unfold sealM
  split
  · exact ⟨rfl, by show s.ops ≤ _; omega⟩
  split
  · exact ⟨rfl, by show s.ops ≤ _; omega⟩
  · exact ⟨write_marks _ _ _, by rw [write_ops]; exact Nat.le_refl _⟩
theorem wipeM_le (s : DiskS) (which e f g : Int) : (wipeM s which e f g).1.marks = s.marks ∧ (wipeM s which e f g).1.ops ≤ s.ops + 1 := by
  unfold wipeM
  split
  · exact ⟨rfl, by show s.ops ≤ _; omega⟩
  · exact ⟨write_marks _ _ _, by rw [write_ops]; exact Nat.le_refl _⟩
theorem readsM_le (s : DiskS) (a n : Nat) : (readsM s a n).1.marks = s.marks ∧ (readsM s a n).1.ops ≤ s.ops + n := by
  induction n generalizing s a with
  | zero => exact ⟨rfl, Nat.le_refl _⟩
  | succ n ih =>
    rw [readsM]
    split
    · exact ⟨rfl, by show s.ops + 1 ≤ _; omega⟩
    · have h := ih s.tick (a + 1)
      have e : s.tick.ops = s.ops + 1 := rfl
      exact ⟨h.1, by show (readsM s.tick (a + 1) n).1.ops ≤ _; omega⟩
theorem readM_le (s : DiskS) (which e f g : Int) : (readM s which e f g).1.marks = s.marks ∧ (readM s which e f g).1.ops ≤ s.ops + 100002 := by
  have e1 : s.tick.ops = s.ops + 1 := rfl
  have e2 : s.tick.marks = s.marks := rfl
  have h := readsM_le s.tick (which.toNat * spanN s.size e f g + 1) (spanN s.size e f g - 1)
  have h2 := spanN_le s.size e f g
  unfold readM
  split
  · exact ⟨rfl, by show s.ops ≤ _; omega⟩
  split
  · exact ⟨rfl, by show s.tick.ops ≤ _; omega⟩
  split
  · exact ⟨rfl, by show s.tick.ops ≤ _; omega⟩
  split
  · exact ⟨rfl, by show s.tick.ops ≤ _; omega⟩
  split
  · exact ⟨h.1, by show (readsM _ _ _).1.ops ≤ _; omega⟩
  split
  · exact ⟨h.1, by show (readsM _ _ _).1.ops ≤ _; omega⟩
  · exact ⟨h.1, by show (readsM _ _ _).1.ops ≤ _; omega⟩
theorem sync_le (s : DiskS) : s.sync.1.marks = s.marks ∧ s.sync.1.ops ≤ s.ops + 1 := by
  unfold DiskS.sync
  split <;> exact ⟨rfl, Nat.le_refl _⟩
/-- what a step leaves, by the disk's own blocks -/
def AftD (W : World) (b : Nat) (F : List Nat) (R : DiskS × Int) (e : Ending) (V : World) : Prop :=
  e = .returned (.int .i64 R.2) ∧ ∃ F', (∀ x, x ∈ F' → x ∈ F ∨ W.heap.size ≤ x) ∧ DiskAt V b F' R.1 ∧ Kept W V F
theorem After.d {W : World} {b : Nat} {F : List Nat} {R : DiskS × Int} {e : Ending} {V : World} (h : After (fun x => x ∈ F ∨ W.heap.size ≤ x) W b R e V) : AftD W b F R e V := by
  obtain ⟨h1, ⟨⟨F', h2, h3⟩, _⟩, S, h4, h5⟩ := h
  exact ⟨h1, F', h3, h2, h5.mono (fun x hx => h4 x hx)⟩
theorem St.of {W : World} {b : Nat} {F : List Nat} {s : DiskS} (h : DiskAt W b F s) : St (fun x => x ∈ F ∨ W.heap.size ≤ x) W b s := ⟨⟨F, h, fun x hx => .inl hx⟩, fun x hx => .inr hx⟩
/-- both disks -/
structure SpH (w0 W : World) (b br : Nat) (F R X : List Nat) (s1 s2 : DiskS) : Prop where
  d : DiskAt W b F s1
  r : RDisk W br R X s2
  fx : ∀ g, g ∈ F → w0.heap.size ≤ g ∧ g ∈ X
  rf : ∀ g, g ∈ R → w0.heap.size ≤ g ∧ g ∉ F
  k : Kept w0 W []
theorem SpH.kept {w0 W V : World} {b br : Nat} {F R X : List Nat} {s1 s2 : DiskS} (h : SpH w0 W b br F R X s1 s2) (k : Kept W V []) : SpH w0 V b br F R X s1 s2 := ⟨h.d.kept k (by simp), h.r.kept k, h.fx, h.rf, h.k.trans k (by simp)⟩
theorem SpH.fst {w0 W V : World} {b br : Nat} {F R X F' : List Nat} {s1 s2 s1' : DiskS} (h : SpH w0 W b br F R X s1 s2) (k : Kept W V F) (hF' : ∀ g, g ∈ F' → g ∈ F ∨ W.heap.size ≤ g) (d : DiskAt V b F' s1') : SpH w0 V b br F' R (X ++ F') s1' s2 := by
  refine ⟨d, h.r.beside k (fun g hg => (h.fx g hg).2) (fun g hg hm => (h.rf g hm).2 hg) (fun g hg => ⟨(hF' g hg).imp (fun h1 => (h.fx g h1).2) id, d.lt g hg⟩), fun g hg => ⟨?_, List.mem_append.2 (.inr hg)⟩, fun g hg => ⟨(h.rf g hg).1, fun hm => ?_⟩, h.k.trans k (fun g hg => .inr (h.fx g hg).1)⟩
  · rcases hF' g hg with h1 | h1
    · exact (h.fx g h1).1
    · exact Nat.le_trans h.k.size h1
  · rcases hF' g hm with h1 | h1
    · exact (h.rf g hg).2 h1
    · have := h.r.lt g hg; omega
theorem SpH.snd {w0 W V : World} {b br : Nat} {F R X R' X' : List Nat} {s1 s2 s2' : DiskS} (h : SpH w0 W b br F R X s1 s2) (k : Kept W V R) (hR' : ∀ g, g ∈ R' → g ∈ R ∨ W.heap.size ≤ g) (hX : ∀ g, g ∈ X → g ∈ X') (d : RDisk V br R' X' s2') : SpH w0 V b br F R' X' s1 s2' := by
  refine ⟨h.d.kept k (fun g hg hm => (h.rf g hg).2 hm), d, fun g hg => ⟨(h.fx g hg).1, hX g (h.fx g hg).2⟩, fun g hg => ?_, h.k.trans k (fun g hg => .inr (h.rf g hg).1)⟩
  rcases hR' g hg with h1 | h1
  · exact h.rf g h1
  · exact ⟨Nat.le_trans h.k.size h1, fun hm => by have := h.d.lt g hm; omega⟩
/-- a block that is neither's -/
theorem SpH.nF {w0 W : World} {b br : Nat} {F R X : List Nat} {s1 s2 : DiskS} (h : SpH w0 W b br F R X s1 s2) {q : Nat} (hq : q < w0.heap.size) : q ∉ F ∧ q ∉ R := ⟨fun hm => by have := (h.fx q hm).1; omega, fun hm => by have := (h.rf q hm).1; omega⟩
end Go.Proofs.YtlojgelidcjeaaaGreatDoor
