/- PROVED: The contracts of package pad. No conditions beyond those that each theorem states. -/
import Derived.Test.YtdcjjcliemleeaaProg
import Derived.Test.YtdcjjcliemleeaaLib
namespace Go.Proofs.Ytdcjjcliemleeaa
open Go.RowKit Go.Proofs.YtdcjjcliemleeaaLib
set_option linter.unusedSimpArgs false
set_option linter.unusedVariables false

structure PadS where
  p : Int
  t : List Int
  n : Int
  hi : Bool
def PadS.cells (s : PadS) : List Value := .int .u8 s.p :: (s.t.map (Value.int .u8) ++ [.int .i64 s.n, .bool s.hi])
structure PadAt (w : World) (b : Nat) (s : PadS) : Prop where
  blk : Blk w b 40 s.cells
  len : s.t.length = 8
  n0 : 0 ≤ s.n
  n8 : s.n ≤ 8
theorem PadAt.c0 {w : World} {b : Nat} {s : PadS} (h : PadAt w b s) : w.cell? ⟨b, 0, none⟩ = some (.int .u8 s.p) := h.blk.cell 0 rfl
theorem PadAt.c9 {w : World} {b : Nat} {s : PadS} (h : PadAt w b s) : w.cell? ⟨b, 9, none⟩ = some (.int .i64 s.n) :=
  h.blk.cell 9 (by have := h.len; simp [PadS.cells, List.getElem?_append, this])
theorem PadAt.c10 {w : World} {b : Nat} {s : PadS} (h : PadAt w b s) : w.cell? ⟨b, 10, none⟩ = some (.bool s.hi) :=
  h.blk.cell 10 (by have := h.len; simp [PadS.cells, List.getElem?_append, this])
theorem PadAt.kept {w w1 : World} {b : Nat} {s : PadS} {S : List Nat} (h : PadAt w b s) (k : Kept w w1 S) (hb : b ∉ S) : PadAt w1 b s :=
  ⟨h.blk.kept k hb, h.len, h.n0, h.n8⟩

theorem PadAt.drewN {w : World} {b : Nat} {s : PadS} (h : PadAt w b s) (n : Nat) : PadAt (w.drewN n) b s := ⟨h.blk.drewN n, h.len, h.n0, h.n8⟩
theorem list8 {α : Type} (l : List α) (h : l.length = 8) : ∃ a0 a1 a2 a3 a4 a5 a6 a7, l = [a0, a1, a2, a3, a4, a5, a6, a7] := by
  match l, h with
  | [a0, a1, a2, a3, a4, a5, a6, a7], _ => exact ⟨_, _, _, _, _, _, _, _, rfl⟩
def PadS.press (s : PadS) (v : Int) : PadS := { s with p := v }
theorem press_any (w : World) (b : Nat) (v : Int) (s : PadS) (h : PadAt w b s) :
    Calls Try.prog 11 #[.pointer (some ⟨b, 0, none⟩), .int .u8 v] w (Post w [b] fun r W => r = .tuple #[] ∧ PadAt W b (s.press v)) := by
  have c0 := h.c0
  have f0 := h.blk.free 0
  go_enter Try.func11, Try.ntmps11
  go_wp2
  go_end0
  exact ⟨_, rfl, ⟨rfl, ⟨h.blk.set 0 _, h.len, h.n0, h.n8⟩⟩, (Kept.refl _ _).setCell (by simp) _⟩

def PadS.read (s : PadS) : Int × PadS :=
  if s.hi then (bits BinOp.and IntKind.u8 s.p 1, s) else if s.n = 8 then (1, s) else (s.t[s.n.toNat]?.getD 0, { s with n := s.n + 1 })
set_option maxHeartbeats 400000 in
theorem read_any (w : World) (b : Nat) (s : PadS) (h : PadAt w b s) :
    Calls Try.prog 10 #[.pointer (some ⟨b, 0, none⟩)] w (Post w [b] fun r W => r = .int .u8 s.read.1 ∧ PadAt W b s.read.2) := by
  have c0 := h.c0
  have c9 := h.c9
  have c10 := h.c10
  have f9 := h.blk.free 9
  by_cases hh : s.hi = true
  · go_enter Try.func10, Try.ntmps10
    go_wp2
    go_ret
    exact ⟨_, rfl, by simp [PadS.read, hh, h], Kept.refl _ _⟩
  have hh' : s.hi = false := by simpa using hh
  have n0 := h.n0
  have n8 := h.n8
  by_cases hn : s.n = 8
  · have hn' : (s.n == 8) = true := by simp [hn]
    have H := Lib.hid hn
    clear hn
    go_enter Try.func10, Try.ntmps10
    go_wp2
    go_ret
    exact ⟨_, rfl, by simp [PadS.read, hh, H.out, h], Kept.refl _ _⟩
  · have hn' : (s.n == 8) = false := by simp [hn]
    have H := Lib.hid hn
    have e0 : 0 ≤ s.n + 1 - 1 := by omega
    have e1 : s.n + 1 - 1 < 8 := by omega
    have hw := h.blk.set 9 (.int .i64 (s.n + 1))
    have d9 : (w.setCell ⟨b, 9, none⟩ (.int .i64 (s.n + 1))).cell? ⟨b, 9, none⟩ = some (.int .i64 (s.n + 1)) := hw.cell 9 (by have := h.len; simp [PadS.cells, this])
    have dt : (w.setCell ⟨b, 9, none⟩ (.int .i64 (s.n + 1))).cell? ⟨b, 1 + s.n.toNat, none⟩ = some (.int .u8 (s.t[s.n.toNat]?.getD 0)) := hw.cell (1 + s.n.toNat) (by
      have := h.len
      have h1 : s.n.toNat < 8 := by omega
      rw [Nat.add_comm]; simp [PadS.cells, this, List.getElem?_set, List.getElem?_append, h1])
    clear hn
    go_enter Try.func10, Try.ntmps10
    go_wp2
    go_quiet (fail)
    go_wp2
    go_ret
    refine ⟨_, rfl, ⟨by simp [PadS.read, hh, H.out], ?_⟩, ((Kept.refl _ _).setCell (by simp) _).drewN _⟩
    have he : s.read.2 = { s with n := s.n + 1 } := by simp [PadS.read, hh, H.out]
    rw [he]
    refine ⟨(hw.drewN _).to ?_, h.len, by show 0 ≤ s.n + 1; omega, by show s.n + 1 ≤ 8; have := H.out; omega⟩
    have := h.len
    simp [PadS.cells, this, List.set_append]

theorem lt_sum {k g n : Nat} (h : k + g = n + 1) (hk : k < n) : n - k < g := by omega
theorem sum_next {k n : Nat} (hk : k < n) : k + 1 + (n - k) = n + 1 := by omega
def PadS.takes (p : Int) : List Int := (List.range 8).map fun i => bits BinOp.and IntKind.u8 (p / 2 ^ i) 1
theorem set_take_drop {α : Type} (A B : List α) (k : Nat) (x : α) (hA : k < A.length) (hB : k < B.length) (hx : A[k]? = some x) : (A.take k ++ B.drop k).set k x = A.take (k + 1) ++ B.drop (k + 1) := by
  have e : (A.take k).length = k := by rw [List.length_take]; omega
  rw [List.set_append_right _ _ (by omega), e, Nat.sub_self, List.drop_eq_getElem_cons hB, List.set_cons_zero]
  rw [List.take_add_one, hx]; simp
theorem takes_step (p : Int) (t : List Int) (k : Nat) (hk : k < 8) (ht : t.length = 8) :
    ((PadS.takes p).take k ++ t.drop k).set k (bits BinOp.and IntKind.u8 (p / 2 ^ k) 1) = (PadS.takes p).take (k + 1) ++ t.drop (k + 1) := by
  have h1 : (PadS.takes p).length = 8 := by simp [PadS.takes]
  have h2 : (PadS.takes p)[k]? = some (bits BinOp.and IntKind.u8 (p / 2 ^ k) 1) := by simp [PadS.takes, hk]
  exact set_take_drop _ _ k _ (by omega) (by omega) h2
def PadS.write (s : PadS) (v : Int) : PadS :=
  let hi := bits BinOp.and IntKind.u8 v 1 == 1
  if s.hi && !hi then { s with t := PadS.takes s.p, n := 0, hi := hi } else { s with hi := hi }
set_option maxHeartbeats 400000 in
theorem write_any (w : World) (b : Nat) (v : Int) (s : PadS) (h : PadAt w b s) :
    Calls Try.prog 12 #[.pointer (some ⟨b, 0, none⟩), .int .u8 v] w (Post w [b] fun r W => r = .tuple #[] ∧ PadAt W b (s.write v)) := by
  have c10 := h.c10
  have f10 := h.blk.free 10
  have hs : s.cells.set 10 (.bool (bits BinOp.and IntKind.u8 v 1 == 1)) = { s with hi := bits BinOp.and IntKind.u8 v 1 == 1 }.cells := by
    have := h.len
    simp [PadS.cells, this, List.set_append]
  by_cases hh : s.hi = true
  · by_cases hv : (bits BinOp.and IntKind.u8 v 1 == 1) = true
    · have HV := Lib.hid hv
      go_enter Try.func12, Try.ntmps12
      go_wp2
      go_end0
      refine ⟨_, rfl, ⟨rfl, ?_⟩, (Kept.refl _ _).setCell (by simp) _⟩
      rw [show s.write v = { s with hi := bits BinOp.and IntKind.u8 v 1 == 1 } by simp [PadS.write, HV.out]]
      rw [HV.out] at hs ⊢
      exact ⟨(h.blk.set 10 _).to hs, h.len, h.n0, h.n8⟩
    · have hv' : (bits BinOp.and IntKind.u8 v 1 == 1) = false := by simpa using hv
      clear hv
      have HV := Lib.hid hv'
      have HHS := Lib.hid hs
      clear hs
      go_enter Try.func12, Try.ntmps12
      go_wp2
      have H0 := Lib.hid h
      clear c10 f10
      go_loopg [5, 17] 8 (fun g _ i wr => ∃ k : Nat, k + g = 8 ∧ i = .int .i64 k ∧ PadAt wr b { s with t := (PadS.takes s.p).take k ++ s.t.drop k } ∧ Kept w wr [b])
      case atStart => exact ⟨0, rfl, rfl, by simpa using h, Kept.refl _ _⟩
      case round =>
        obtain ⟨k, hk, rfl, hp, hkept⟩ := hrel
        have c0 := hp.c0
        by_cases hlt : k < 8
        · have hl8 : ((PadS.takes s.p).take k ++ s.t.drop k).length = 8 := hp.len
          have HK := Lib.hid hk
          clear hk
          have hcell : wr.cell? ⟨b, 1 + k, none⟩ = some (.int .u8 (((PadS.takes s.p).take k ++ s.t.drop k)[k]?.getD 0)) := hp.blk.cell (1 + k) (by
            rw [Nat.add_comm]; simp only [PadS.cells, List.getElem?_cons_succ]
            rw [List.getElem?_append_left (by rw [List.length_map, hl8]; exact hlt), List.getElem?_map, List.getElem?_eq_getElem (by rw [hl8]; exact hlt)]; rfl)
          have hfr := hp.blk.free (1 + k)
          have HL := Lib.hid hl8
          clear hl8
          go_wp2
          go_region
          go_wp2
          go_roundg (gk - 1)
          case measure => have := HK.out; omega
          case rel =>
            refine ⟨k + 1, by have := HK.out; omega, by go_num, ?_, (hkept.setCell (by simp) _).drew⟩
            have hl8 := HL.out
            refine ⟨((hp.blk.set (1 + k) _).drew).to ?_, ?_, hp.n0, hp.n8⟩
            · simp only [PadS.cells]
              rw [show 1 + k = k + 1 from by omega, List.set_cons_succ, List.set_append_left _ _ (by rw [List.length_map, hl8]; exact hlt), ← List.map_set]
              congr 3
              exact takes_step s.p s.t k hlt (by have := H0.out.len; omega)
            · have := H0.out.len
              simp [PadS.takes, this]; omega
        · have hk8 : k = 8 := by omega
          have c9 := hp.c9
          have c10 := hp.c10
          have f9 := hp.blk.free 9
          have f10 := hp.blk.free 10
          subst hk8
          go_wp2
          go_end0
          refine ⟨_, rfl, ⟨rfl, ?_⟩, (hkept.setCell (by simp) _).setCell (by simp) _⟩
          have hl := hp.len
          have hl0 := H0.out.len
          have et : List.take 8 (PadS.takes s.p) ++ List.drop 8 s.t = PadS.takes s.p := by
            rw [List.take_of_length_le (by simp [PadS.takes]), List.drop_of_length_le (by omega), List.append_nil]
          rw [et] at hp hl
          rw [show s.write v = { s with t := PadS.takes s.p, n := 0, hi := false } by simp [PadS.write, hh, HV.out]]
          refine ⟨((hp.blk.set 9 _).set 10 _).to ?_, hl, Int.le_refl 0, (by decide : (0:Int) ≤ 8)⟩
          simp [PadS.cells, hl, List.set_append]
  · have hh' : s.hi = false := by simpa using hh
    clear hh
    have HH := Lib.hid hh'
    have HHS := Lib.hid hs
    clear hs
    go_enter Try.func12, Try.ntmps12
    go_wp2
    go_end0
    refine ⟨_, rfl, ⟨rfl, ?_⟩, (Kept.refl _ _).setCell (by simp) _⟩
    rw [show s.write v = { s with hi := bits BinOp.and IntKind.u8 v 1 == 1 } by simp [PadS.write, HH.out]]
    exact ⟨(h.blk.set 10 _).to HHS.out, h.len, h.n0, h.n8⟩


def PadS.new : PadS := ⟨0, [0, 0, 0, 0, 0, 0, 0, 0], 0, false⟩
theorem new_any (w : World) : Calls Try.prog 8 #[] w (Post w [] fun r W => ∃ b, r = .pointer (some ⟨b, 0, none⟩) ∧ PadAt W b PadS.new ∧ w.heap.size ≤ b) := by
  go_enter Try.func8, Try.ntmps8
  go_wp2
  go_ret
  exact ⟨_, rfl, ⟨_, rfl, ⟨Blk.new w 40 PadS.new.cells, rfl, by decide, by decide⟩, Nat.le_refl _⟩, (Kept.refl _ _).alloc _⟩

theorem copy_any (w : World) (b : Nat) (s : PadS) (h : PadAt w b s) : Calls Try.prog 15 #[.pointer (some ⟨b, 0, none⟩)] w (Post w [] fun r W => ∃ b, r = .pointer (some ⟨b, 0, none⟩) ∧ PadAt W b s ∧ w.heap.size ≤ b) := by
  obtain ⟨p, t, n, hi⟩ := s
  obtain ⟨t0, t1, t2, t3, t4, t5, t6, t7, rfl⟩ := list8 t h.len
  have hb := h.blk
  have c0 := hb.cell 0 rfl
  have c1 := hb.cell 1 rfl
  have c2 := hb.cell 2 rfl
  have c3 := hb.cell 3 rfl
  have c4 := hb.cell 4 rfl
  have c5 := hb.cell 5 rfl
  have c6 := hb.cell 6 rfl
  have c7 := hb.cell 7 rfl
  have c8 := hb.cell 8 rfl
  have c9 := hb.cell 9 rfl
  have c10 := hb.cell 10 rfl
  go_enter Try.func15, Try.ntmps15
  go_wp2
  go_ret
  exact ⟨_, rfl, ⟨_, rfl, ⟨Blk.new w 40 (PadS.cells ⟨p, [t0, t1, t2, t3, t4, t5, t6, t7], n, hi⟩), rfl, h.n0, h.n8⟩, Nat.le_refl _⟩, (Kept.refl _ _).alloc _⟩

end Go.Proofs.Ytdcjjcliemleeaa
