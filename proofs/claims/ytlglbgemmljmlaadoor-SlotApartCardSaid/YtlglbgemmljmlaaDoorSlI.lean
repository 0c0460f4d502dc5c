/- PROVED: rows of slices, and the contract of image.Cut. No conditions beyond those that each theorem states. -/
import Derived.Test.YtlglbgemmljmlaaDoorSlG
import Derived.Test.YtlglbgemmljmlaaDoorCom
import Derived.Test.YtlglbgemmljmlaaDoorRw
import Derived.Maps.AppendAt
namespace Go.Proofs.YtlglbgemmljmlaaDoor
open Go.RowKit Go.Proofs.YtlglbgemmljmlaaDoorLib
set_option linter.unusedSimpArgs false
set_option linter.unusedVariables false

/-- a row of slices of bytes -/
abbrev SRow (w : World) (base : Nat) (v : Value) (L : List Value) : Prop := w.ownsRow base 27 1 v L.length L
theorem SRow.kept {w w1 : World} {base : Nat} {v : Value} {L : List Value} {S : List Nat} (h : SRow w base v L) (hk : Kept w w1 S) (hS : Apart v S) : SRow w1 base v L := by
  obtain ⟨h1, h2⟩ := h
  refine ⟨h1, h2.imp id ?_⟩
  rintro ⟨g, cap, cur, rfl, hg, hc, r⟩
  refine ⟨g, cap, cur, rfl, hg, ?_, r⟩
  rw [hk.block g ((Array.getElem?_eq_some_iff.1 hc).1) (hS g rfl)]
  exact hc
theorem SRow.lt {w : World} {base : Nat} {v : Value} {L : List Value} (h : SRow w base v L) : ∀ g, v.ownBlock = some g → base ≤ g ∧ g < w.heap.size := World.ownsRow.lt h
theorem SRow.cell {w : World} {base : Nat} {v : Value} {L : List Value} (h : SRow w base v L) {i : Nat} {u : Value} (hu : L[i]? = some u) : ∃ g c, v = .slice (some ⟨g, 0, none⟩) L.length c ∧ w.cell? ⟨g, i, none⟩ = some u ∧ L.length ≤ c ∧ c ≤ maxLen := by
  have hi := (List.getElem?_eq_some_iff.1 hu).1
  obtain ⟨h1, ⟨rfl, h0⟩ | ⟨g, cap, cur, rfl, hg, hc, h2, h3, h4, h5⟩⟩ := h
  · omega
  · refine ⟨g, cap, rfl, ?_, h2, h3⟩
    rw [Nat.mul_one] at h5
    rw [← h5, List.getElem?_take, if_pos hi] at hu
    simp only [World.cell?, hc]
    simpa using hu
theorem SRow.form {w : World} {base : Nat} {v : Value} {L : List Value} (h : SRow w base v L) : ∃ A c, v = .slice A L.length c ∧ L.length ≤ c ∧ c ≤ maxLen := by
  obtain ⟨h1, ⟨rfl, h0⟩ | ⟨g, cap, cur, rfl, hg, hc, h2, h3, h4, h5⟩⟩ := h
  · exact ⟨none, 0, by rw [h0], by omega, Nat.zero_le _⟩
  · exact ⟨_, cap, rfl, h2, h3⟩
theorem info8s : (Tryd.prog.info? 27).map (fun i => (i.zero, i.size, i.bytes)) = some (some (.slice none 0 0), 1, 24) := by kernel_rfl
/-- a slice appended to a row of slices -/
theorem srow_append {W : World} {base : Nat} {v u : Value} {L : List Value} (h : SRow W base v L) {q T : Nat} (hq : Blk W q T [u]) (h1 : u.oneCell' = true) (hn : L.length ≤ 1000000) (hb : base ≤ W.heap.size) :
    ∃ v' w', (Builtin.append_ #[69, 69] 69 #[v, .slice (some ⟨q, 0, none⟩) 1 1]).run Tryd.prog W = .ok v' w' ∧ SRow w' base v' (L ++ [u]) ∧ Kept W w' v.ownBlock.toList ∧ ∀ g, v'.ownBlock = some g → v.ownBlock = some g ∨ g = W.heap.size := by
  obtain ⟨i0, hi, hz0, hz1, hz2⟩ := info_parts info8s
  obtain ⟨v', w', hrun, hown, hg, hn', hloc⟩ := run_append_own_at (P := Tryd.prog) W base 69 69 27 i0 _ 1 24 Tryd.underlying69 hi hz0 hz1 hz2 rfl (by decide) v L.length L h ⟨q, 0, none⟩ 1 1 [u] rfl
    (fun j x hj => by rw [Addr.add_lit]; exact hq.cell (0 + j) (by rw [Nat.zero_add]; exact hj)) (by intro x hx; simp at hx; subst hx; exact h1) (by unfold maxLen; omega) (by omega) hb
  refine ⟨v', w', hrun, by unfold SRow; rw [List.length_append]; exact hown, Kept.grown hg _ (fun g hg => by simp [hg]), fun g hg => ?_⟩
  rcases hloc with e | e
  · exact .inl (by rw [← e]; exact hg)
  · rw [e] at hg; simp at hg; exact .inr hg.symm
/-- bytes filled up to n sectors -/
def padL (l : List Int) (m : Nat) : List Int := l ++ List.replicate (m - l.length) 0
theorem padL_len (l : List Int) (m : Nat) (h : l.length ≤ m) : (padL l m).length = m := by simp [padL]; omega
theorem padL_bts {l : List Int} (h : Bts l) (m : Nat) : Bts (padL l m) := h.append (Bts.replicate0 _)
theorem secs_fits (many size : Nat) (h : 1 ≤ size) : many ≤ secs many size * size := by
  unfold secs
  have h1 := Nat.div_add_mod (many + size - 1) size
  have h2 := Nat.mod_lt (many + size - 1) (show 0 < size by omega)
  have h3 : (many + size - 1) / size * size = size * ((many + size - 1) / size) := Nat.mul_comm _ _
  omega
theorem secs_fits_le (many size : Nat) (h : 1 ≤ size) : secs many size * size ≤ many + size := by
  unfold secs
  have h1 := Nat.div_add_mod (many + size - 1) size
  have h3 : (many + size - 1) / size * size = size * ((many + size - 1) / size) := Nat.mul_comm _ _
  omega
def pieceL (q size n : Nat) : List Value := (List.range n).map fun i => .slice (some ⟨q, i * size, none⟩) size size
theorem pieceL_succ (q size n : Nat) : pieceL q size (n + 1) = pieceL q size n ++ [.slice (some ⟨q, n * size, none⟩) size size] := by
  unfold pieceL; rw [List.range_succ, List.map_append]; rfl
theorem pieceL_len (q size n : Nat) : (pieceL q size n).length = n := by simp [pieceL]
theorem pieceL_get (q size n i : Nat) (h : i < n) : (pieceL q size n)[i]? = some (.slice (some ⟨q, i * size, none⟩) size size) := by
  unfold pieceL; rw [List.getElem?_map, List.getElem?_range h]; rfl
theorem splice_pad (l : List Int) (m : Nat) (h : l.length ≤ m) : splice (List.replicate m 0) 0 (l.take m) = padL l m := by
  unfold splice padL
  rw [List.take_of_length_le h]
  simp
/-- pieces of size bytes of pl, new from lo on -/
def CutAt (W : World) (lo : Nat) (lv : Value) (n size : Nat) (pl : List Int) : Prop :=
  ∃ q, SRow W lo lv (pieceL q size n) ∧ Own 5 .u8 W lo (.slice (some ⟨q, 0, none⟩) (n * size) (n * size)) pl ∧ lo ≤ q
theorem CutAt.kept {W W1 : World} {lo : Nat} {lv : Value} {n size : Nat} {pl : List Int} {S : List Nat} (h : CutAt W lo lv n size pl) (hk : Kept W W1 S) (hS : ∀ g, g ∈ S → g < lo) : CutAt W1 lo lv n size pl := by
  obtain ⟨q, h1, h2, h3⟩ := h
  exact ⟨q, h1.kept hk (fun g hg hm => by have := hS g hm; have := (h1.lt g hg).1; omega), h2.kept hk (fun g hg hm => by have := hS g hm; have := (h2.lt g hg).1; omega), h3⟩
set_option maxRecDepth 100000 in
set_option maxHeartbeats 4000000 in
theorem cut_any (w : World) (v : Value) (b off : Nat) (l : List Int) (size : Nat) (hs : Sl .u8 w v b off l) (hl : l.length ≤ 100000) (h1 : 1 ≤ size) (h2 : size ≤ 4096) :
    Calls Tryd.prog 49 #[v, .int .i64 size] w (Post w [] fun r W => ∃ lv, r = .tuple #[lv, .int .i64 0] ∧ CutAt W w.heap.size lv (secs l.length size) size (padL l (secs l.length size * size))) := by
  obtain ⟨A1, c1, ev⟩ := hs.form
  subst ev
  have HS := Lib.hid hs
  have HF := Lib.hid (secs_fits l.length size h1)
  have HF2 := Lib.hid (secs_fits_le l.length size h1)
  have HN := Lib.hid (fun w' => sects_any w' l.length size (by omega) h1 h2)
  have hnl := secs_le l.length size h1
  generalize secs l.length size = n at *
  have l0 : (0 : Int) ≤ l.length := by omega
  have l1 : (l.length : Int) ≤ 100000 := by omega
  have n0 : (0 : Int) ≤ n := by omega
  have n1 : (n : Int) ≤ 100000 := by omega
  have s0 : (1 : Int) ≤ size := by omega
  have s1 : (size : Int) ≤ 4096 := by omega
  have hr : (decide ((1 : Int) ≤ size) && decide ((size : Int) ≤ 4096)) = true := by simp; omega
  have HR := Lib.hid (And.intro hr trivial)
  have e1 : ((n : Int) * (size : Int)) = ((n * size : Nat) : Int) := by simp
  obtain ⟨m, hm⟩ : ∃ m, n * size = m := ⟨_, rfl⟩
  rw [hm] at e1
  have HM := Lib.hid (And.intro hm trivial)
  have hmb : m ≤ 104096 := by have := HF2.out; omega
  have hlm : l.length ≤ m := by have := HF.out; omega
  have m0 : (0 : Int) ≤ m := by omega
  have m1 : (m : Int) ≤ 104096 := by omega
  obtain ⟨i0, hi, hz0, hz1, hz2⟩ := info_parts info8
  obtain ⟨w1, hmk, hrow, k1⟩ := make_own (P := Tryd.prog) (k := .u8) Tryd.underlying27 hi hz0 hz1 (by omega) m (by omega) w
  obtain ⟨w2, hcp, hrow2, k2⟩ := hrow.copy (P := Tryd.prog) (g := w.heap.size) rfl 27 27 3 5 Tryd.underlying27 (by kernel_rfl) 0 m m (hs.kept k1 (.inr (by simp))) (by rw [List.length_take, List.length_replicate]; omega)
  rw [splice_pad l m hlm] at hrow2
  have KW : Hid (Kept w w2 []) := Lib.hid (k1.trans k2 (by simp))
  have HO2 := Lib.hid hrow2
  have HLT := Lib.hid (hrow2.lt w.heap.size rfl)
  clear hs hl h1 h2 hi hz0 hz1 hz2 hrow k1 k2 hr hm hrow2
  go_enter Tryd.func49, Tryd.ntmps49
  go_wp2_with fail
  refine (iright_any _ _).mono ?_
  rintro _ _ ⟨rfl, rfl⟩
  rw [HR.out.1]
  go_wp2_with fail
  refine (HN.out _).mono ?_
  rintro _ _ ⟨rfl, rfl⟩
  go_wp2_with fail
  go_loopg [8, 25] n (fun g vv i wr => ∃ k : Nat, k + g = n ∧ i = .int .i64 k ∧ SRow wr w2.heap.size vv (pieceL w.heap.size size k) ∧ Kept w2 wr [])
  case atStart => exact ⟨0, by omega, rfl, World.ownsRow_nil _ _ _ _, Kept.refl _ _⟩
  case round =>
    obtain ⟨k, hk, rfl, hrow, hkept⟩ := hrel
    have HK := Lib.hid hk
    have HKE := Lib.hid hkept
    have HRO := Lib.hid hrow
    obtain ⟨Aw, cw, ew, _, _⟩ := hrow.form
    subst ew
    clear hk hkept hrow
    by_cases hlt : k < n
    · have k0 : (0 : Int) ≤ k := by omega
      have k1 : (k : Int) < n := by omega
      have p1 : (k : Int) * (size : Int) = ((k * size : Nat) : Int) := by simp
      have p2 : ((k : Int) + 1) * (size : Int) = ((k * size : Nat) : Int) + (size : Int) := by rw [Int.add_mul]; simp
      have p3 : k * size + size ≤ m := by rw [← HM.out.1, ← Nat.succ_mul]; exact Nat.mul_le_mul_right _ hlt
      have hst := pieceL_succ w.heap.size size k
      have HST := Lib.hid (And.intro hst trivial)
      have hll : (pieceL w.heap.size size k).length ≤ 100000 := by rw [pieceL_len]; omega
      generalize k * size = j at *
      generalize pieceL w.heap.size size k = L at *
      have j0 : (0 : Int) ≤ j := by omega
      have j1 : (j : Int) + (size : Int) ≤ m := by omega
      have j2 : (m = j) = False := by simp; omega
      have j3 : (size = 0) = False := by simp; omega
      have j4 : j + size - j = size := by omega
      have hb2 := Blk.new wr 27 [.slice (some ⟨w.heap.size, j, none⟩) size size]
      have hro2 : SRow (wr.alloc (.cells #[.slice (some ⟨w.heap.size, j, none⟩) size size] 27)) w2.heap.size (.slice Aw L.length cw) L := World.ownsRow.alloc HRO.out _
      obtain ⟨v7, w7, hap, ho7, k7, _⟩ := srow_append hro2 hb2 rfl (by omega) (by have := HKE.out.size; simp; omega)
      have HAP := Lib.hid hap
      rw [← HST.out.1] at ho7
      have HO7 := Lib.hid ho7
      have K7 : Hid (Kept w2 w7 []) := Lib.hid ((HKE.out.alloc _).trans k7 (fun g hg => .inr (by simp only [Option.mem_toList] at hg; exact (HRO.out.lt g hg).1)))
      clear hb2 hro2 hap ho7 k7 hst p3 hlt
      go_wp2_with (first | (at_builtin; refine wpList_append_run rfl _ _ _ rfl rfl rfl HAP.out ?_))
      go_roundg (gk - 1)
      case measure => have := HK.out; omega
      case rel => exact ⟨k + 1, by have := HK.out; omega, by go_num, HO7.out, K7.out⟩
    · have hkn : k = n := by have := HK.out; omega
      clear hlt
      subst hkn
      go_wp2_with fail
      go_ret2
      refine ⟨_, rfl, ⟨_, rfl, w.heap.size, ?_, ?_, Nat.le_refl _⟩, KW.out.trans HKE.out (by simp)⟩
      · have h := HRO.out
        exact ⟨h.1, h.2.imp id (fun ⟨g, cap, cur, hv, hg, r⟩ => ⟨g, cap, cur, hv, Nat.le_trans KW.out.size hg, r⟩)⟩
      · have h := HO2.out.kept HKE.out (by intro g hg; simp)
        rw [HM.out.1]
        exact h
end Go.Proofs.YtlglbgemmljmlaaDoor
