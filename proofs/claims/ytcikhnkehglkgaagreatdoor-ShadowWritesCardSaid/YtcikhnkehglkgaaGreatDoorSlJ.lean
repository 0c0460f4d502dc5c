/- PROVED: rows of slices, and the contract of image.Cut; the contracts of bytes.Join without a separator, and of image.Glue. No conditions beyond those that each theorem states. -/
import Derived.Test.YtcikhnkehglkgaaGreatDoorSlG
import Derived.Test.YtcikhnkehglkgaaGreatDoorClo
import Derived.Test.YtcikhnkehglkgaaGreatDoorRw
import Derived.Maps.AppendAt
import Derived.Test.YtcikhnkehglkgaaGreatDoorSh
namespace Go.Proofs.YtcikhnkehglkgaaGreatDoor
open Go.RowKit Go.Proofs.YtcikhnkehglkgaaGreatDoorLib
set_option linter.unusedSimpArgs false
set_option linter.unusedVariables false

/-- a row of slices of bytes -/
abbrev SRow (w : World) (base : Nat) (v : Value) (L : List Value) : Prop := w.ownsRow base 27 1 v L.length L
theorem SRow.kept {w w1 : World} {base : Nat} {v : Value} {L : List Value} {S : List Nat} (h : SRow w base v L) (hk : Kept w w1 S) (hS : Apart v S) : SRow w1 base v L := by
  obtain ⟨h1, h2⟩ := h
  refine ⟨h1, h2.imp id ?_⟩
  rintro ⟨g, cap, cur, rfl, hg, hc, r⟩
  refine ⟨g, cap, cur, rfl, hg, ?_, r⟩
  rw [hk.block g ((Array.getElem?_eq_some_iff.1 hc).1) (hS g rfl)]
  exact hc
theorem SRow.lt {w : World} {base : Nat} {v : Value} {L : List Value} (h : SRow w base v L) : ∀ g, v.ownBlock = some g → base ≤ g ∧ g < w.heap.size := World.ownsRow.lt h
theorem SRow.cell {w : World} {base : Nat} {v : Value} {L : List Value} (h : SRow w base v L) {i : Nat} {u : Value} (hu : L[i]? = some u) : ∃ g c, v = .slice (some ⟨g, 0, none⟩) L.length c ∧ w.cell? ⟨g, i, none⟩ = some u ∧ L.length ≤ c ∧ c ≤ maxLen := by
  have hi := (List.getElem?_eq_some_iff.1 hu).1
  obtain ⟨h1, ⟨rfl, h0⟩ | ⟨g, cap, cur, rfl, hg, hc, h2, h3, h4, h5⟩⟩ := h
  · omega
  · refine ⟨g, cap, rfl, ?_, h2, h3⟩
    rw [Nat.mul_one] at h5
    rw [← h5, List.getElem?_take, if_pos hi] at hu
    simp only [World.cell?, hc]
    simpa using hu
theorem SRow.form {w : World} {base : Nat} {v : Value} {L : List Value} (h : SRow w base v L) : ∃ A c, v = .slice A L.length c ∧ L.length ≤ c ∧ c ≤ maxLen := by
  obtain ⟨h1, ⟨rfl, h0⟩ | ⟨g, cap, cur, rfl, hg, hc, h2, h3, h4, h5⟩⟩ := h
  · exact ⟨none, 0, by rw [h0], by omega, Nat.zero_le _⟩
  · exact ⟨_, cap, rfl, h2, h3⟩
theorem info8s : (Tryz.prog.info? 27).map (fun i => (i.zero, i.size, i.bytes)) = some (some (.slice none 0 0), 1, 24) := by kernel_rfl
/-- a slice appended to a row of slices -/
theorem srow_append {W : World} {base : Nat} {v u : Value} {L : List Value} (h : SRow W base v L) {q T : Nat} (hq : Blk W q T [u]) (h1 : u.oneCell' = true) (hn : L.length ≤ 1000000) (hb : base ≤ W.heap.size) :
    ∃ v' w', (Builtin.append_ #[24, 24] 24 #[v, .slice (some ⟨q, 0, none⟩) 1 1]).run Tryz.prog W = .ok v' w' ∧ SRow w' base v' (L ++ [u]) ∧ Kept W w' v.ownBlock.toList ∧ ∀ g, v'.ownBlock = some g → v.ownBlock = some g ∨ g = W.heap.size := by
  obtain ⟨i0, hi, hz0, hz1, hz2⟩ := info_parts info8s
  obtain ⟨v', w', hrun, hown, hg, hn', hloc⟩ := run_append_own_at (P := Tryz.prog) W base 24 24 27 i0 _ 1 24 Tryz.underlying24 hi hz0 hz1 hz2 rfl (by decide) v L.length L h ⟨q, 0, none⟩ 1 1 [u] rfl
    (fun j x hj => by rw [Addr.add_lit]; exact hq.cell (0 + j) (by rw [Nat.zero_add]; exact hj)) (by intro x hx; simp at hx; subst hx; exact h1) (by unfold maxLen; omega) (by omega) hb
  refine ⟨v', w', hrun, by unfold SRow; rw [List.length_append]; exact hown, Kept.grown hg _ (fun g hg => by simp [hg]), fun g hg => ?_⟩
  rcases hloc with e | e
  · exact .inl (by rw [← e]; exact hg)
  · rw [e] at hg; simp at hg; exact .inr hg.symm
/-- bytes filled up to n sectors -/
def padL (l : List Int) (m : Nat) : List Int := l ++ List.replicate (m - l.length) 0
theorem padL_len (l : List Int) (m : Nat) (h : l.length ≤ m) : (padL l m).length = m := by simp [padL]; omega
theorem padL_bts {l : List Int} (h : Bts l) (m : Nat) : Bts (padL l m) := h.append (Bts.replicate0 _)
theorem secs_fits (many size : Nat) (h : 1 ≤ size) : many ≤ secs many size * size := by
  unfold secs
  have h1 := Nat.div_add_mod (many + size - 1) size
  have h2 := Nat.mod_lt (many + size - 1) (show 0 < size by omega)
  have h3 : (many + size - 1) / size * size = size * ((many + size - 1) / size) := Nat.mul_comm _ _
  omega
theorem secs_fits_le (many size : Nat) (h : 1 ≤ size) : secs many size * size ≤ many + size := by
  unfold secs
  have h1 := Nat.div_add_mod (many + size - 1) size
  have h3 : (many + size - 1) / size * size = size * ((many + size - 1) / size) := Nat.mul_comm _ _
  omega
def pieceL (q size n : Nat) : List Value := (List.range n).map fun i => .slice (some ⟨q, i * size, none⟩) size size
theorem pieceL_succ (q size n : Nat) : pieceL q size (n + 1) = pieceL q size n ++ [.slice (some ⟨q, n * size, none⟩) size size] := by
  unfold pieceL; rw [List.range_succ, List.map_append]; rfl
theorem pieceL_len (q size n : Nat) : (pieceL q size n).length = n := by simp [pieceL]
theorem pieceL_get (q size n i : Nat) (h : i < n) : (pieceL q size n)[i]? = some (.slice (some ⟨q, i * size, none⟩) size size) := by
  unfold pieceL; rw [List.getElem?_map, List.getElem?_range h]; rfl
theorem splice_pad (l : List Int) (m : Nat) (h : l.length ≤ m) : splice (List.replicate m 0) 0 (l.take m) = padL l m := by
  unfold splice padL
  rw [List.take_of_length_le h]
  simp
/-- pieces of size bytes of pl, new from lo on -/
def CutAt (W : World) (lo : Nat) (lv : Value) (n size : Nat) (pl : List Int) : Prop :=
  ∃ q, SRow W lo lv (pieceL q size n) ∧ Own 5 .u8 W lo (.slice (some ⟨q, 0, none⟩) (n * size) (n * size)) pl ∧ lo ≤ q
theorem CutAt.kept {W W1 : World} {lo : Nat} {lv : Value} {n size : Nat} {pl : List Int} {S : List Nat} (h : CutAt W lo lv n size pl) (hk : Kept W W1 S) (hS : ∀ g, g ∈ S → g < lo) : CutAt W1 lo lv n size pl := by
  obtain ⟨q, h1, h2, h3⟩ := h
  exact ⟨q, h1.kept hk (fun g hg hm => by have := hS g hm; have := (h1.lt g hg).1; omega), h2.kept hk (fun g hg hm => by have := hS g hm; have := (h2.lt g hg).1; omega), h3⟩
set_option maxRecDepth 100000 in
set_option maxHeartbeats 4000000 in
theorem cut_any (w : World) (v : Value) (b off : Nat) (l : List Int) (size : Nat) (hs : Sl .u8 w v b off l) (hl : l.length ≤ 100000) (h1 : 1 ≤ size) (h2 : size ≤ 4096) :
    Calls Tryz.prog 113 #[v, .int .i64 size] w (Post w [] fun r W => ∃ lv, r = .tuple #[lv, .int .i64 0] ∧ CutAt W w.heap.size lv (secs l.length size) size (padL l (secs l.length size * size))) := by
  obtain ⟨A1, c1, ev⟩ := hs.form
  subst ev
  have HS := Lib.hid hs
  have HF := Lib.hid (secs_fits l.length size h1)
  have HF2 := Lib.hid (secs_fits_le l.length size h1)
  have HN := Lib.hid (fun w' => sects_any w' l.length size (by omega) h1 h2)
  have hnl := secs_le l.length size h1
  generalize secs l.length size = n at *
  have l0 : (0 : Int) ≤ l.length := by omega
  have l1 : (l.length : Int) ≤ 100000 := by omega
  have n0 : (0 : Int) ≤ n := by omega
  have n1 : (n : Int) ≤ 100000 := by omega
  have s0 : (1 : Int) ≤ size := by omega
  have s1 : (size : Int) ≤ 4096 := by omega
  have hr : (decide ((1 : Int) ≤ size) && decide ((size : Int) ≤ 4096)) = true := by simp; omega
  have HR := Lib.hid (And.intro hr trivial)
  have e1 : ((n : Int) * (size : Int)) = ((n * size : Nat) : Int) := by simp
  obtain ⟨m, hm⟩ : ∃ m, n * size = m := ⟨_, rfl⟩
  rw [hm] at e1
  have HM := Lib.hid (And.intro hm trivial)
  have hmb : m ≤ 104096 := by have := HF2.out; omega
  have hlm : l.length ≤ m := by have := HF.out; omega
  have m0 : (0 : Int) ≤ m := by omega
  have m1 : (m : Int) ≤ 104096 := by omega
  obtain ⟨i0, hi, hz0, hz1, hz2⟩ := info_parts info8
  obtain ⟨w1, hmk, hrow, k1⟩ := make_own (P := Tryz.prog) (k := .u8) Tryz.underlying27 hi hz0 hz1 (by omega) m (by omega) w
  obtain ⟨w2, hcp, hrow2, k2⟩ := hrow.copy (P := Tryz.prog) (g := w.heap.size) rfl 27 27 3 5 Tryz.underlying27 (by kernel_rfl) 0 m m (hs.kept k1 (.inr (by simp))) (by rw [List.length_take, List.length_replicate]; omega)
  rw [splice_pad l m hlm] at hrow2
  have KW : Hid (Kept w w2 []) := Lib.hid (k1.trans k2 (by simp))
  have HO2 := Lib.hid hrow2
  have HLT := Lib.hid (hrow2.lt w.heap.size rfl)
  clear hs hl h1 h2 hi hz0 hz1 hz2 hrow k1 k2 hr hm hrow2
  go_enter Tryz.func113, Tryz.ntmps113
  go_wp2_with fail
  refine (iright_any _ _).mono ?_
  rintro _ _ ⟨rfl, rfl⟩
  rw [HR.out.1]
  go_wp2_with fail
  refine (HN.out _).mono ?_
  rintro _ _ ⟨rfl, rfl⟩
  go_wp2_with fail
  go_loopg [8, 25] n (fun g vv i wr => ∃ k : Nat, k + g = n ∧ i = .int .i64 k ∧ SRow wr w2.heap.size vv (pieceL w.heap.size size k) ∧ Kept w2 wr [])
  case atStart => exact ⟨0, by omega, rfl, World.ownsRow_nil _ _ _ _, Kept.refl _ _⟩
  case round =>
    obtain ⟨k, hk, rfl, hrow, hkept⟩ := hrel
    have HK := Lib.hid hk
    have HKE := Lib.hid hkept
    have HRO := Lib.hid hrow
    obtain ⟨Aw, cw, ew, _, _⟩ := hrow.form
    subst ew
    clear hk hkept hrow
    by_cases hlt : k < n
    · have k0 : (0 : Int) ≤ k := by omega
      have k1 : (k : Int) < n := by omega
      have p1 : (k : Int) * (size : Int) = ((k * size : Nat) : Int) := by simp
      have p2 : ((k : Int) + 1) * (size : Int) = ((k * size : Nat) : Int) + (size : Int) := by rw [Int.add_mul]; simp
      have p3 : k * size + size ≤ m := by rw [← HM.out.1, ← Nat.succ_mul]; exact Nat.mul_le_mul_right _ hlt
      have hst := pieceL_succ w.heap.size size k
      have HST := Lib.hid (And.intro hst trivial)
      have hll : (pieceL w.heap.size size k).length ≤ 100000 := by rw [pieceL_len]; omega
      generalize k * size = j at *
      generalize pieceL w.heap.size size k = L at *
      have j0 : (0 : Int) ≤ j := by omega
      have j1 : (j : Int) + (size : Int) ≤ m := by omega
      have j2 : (m = j) = False := by simp; omega
      have j3 : (size = 0) = False := by simp; omega
      have j4 : j + size - j = size := by omega
      have hb2 := Blk.new wr 27 [.slice (some ⟨w.heap.size, j, none⟩) size size]
      have hro2 : SRow (wr.alloc (.cells #[.slice (some ⟨w.heap.size, j, none⟩) size size] 27)) w2.heap.size (.slice Aw L.length cw) L := World.ownsRow.alloc HRO.out _
      obtain ⟨v7, w7, hap, ho7, k7, _⟩ := srow_append hro2 hb2 rfl (by omega) (by have := HKE.out.size; simp; omega)
      have HAP := Lib.hid hap
      rw [← HST.out.1] at ho7
      have HO7 := Lib.hid ho7
      have K7 : Hid (Kept w2 w7 []) := Lib.hid ((HKE.out.alloc _).trans k7 (fun g hg => .inr (by simp only [Option.mem_toList] at hg; exact (HRO.out.lt g hg).1)))
      clear hb2 hro2 hap ho7 k7 hst p3 hlt
      go_wp2_with (first | (at_builtin; refine wpList_append_run rfl _ _ _ rfl rfl rfl HAP.out ?_))
      go_roundg (gk - 1)
      case measure => have := HK.out; omega
      case rel => exact ⟨k + 1, by have := HK.out; omega, by go_num, HO7.out, K7.out⟩
    · have hkn : k = n := by have := HK.out; omega
      clear hlt
      subst hkn
      go_wp2_with fail
      go_ret2
      refine ⟨_, rfl, ⟨_, rfl, w.heap.size, ?_, ?_, Nat.le_refl _⟩, KW.out.trans HKE.out (by simp)⟩
      · have h := HRO.out
        exact ⟨h.1, h.2.imp id (fun ⟨g, cap, cur, hv, hg, r⟩ => ⟨g, cap, cur, hv, Nat.le_trans KW.out.size hg, r⟩)⟩
      · have h := HO2.out.kept HKE.out (by intro g hg; simp)
        rw [HM.out.1]
        exact h
end Go.Proofs.YtcikhnkehglkgaaGreatDoor
namespace Go.Proofs.YtcikhnkehglkgaaGreatDoor
open Go.RowKit Go.Proofs.YtcikhnkehglkgaaGreatDoorLib
set_option linter.unusedSimpArgs false
set_option linter.unusedVariables false

/-- what the slices of a row read as -/
def Parts (w : World) (L : List Value) (xs : List (List Int)) : Prop := L.length = xs.length ∧ ∀ (i : Nat) (u : Value) (x : List Int), L[i]? = some u → xs[i]? = some x → ∃ b o, Sl .u8 w u b o x
theorem byte_inj {x y : Int} (hx : 0 ≤ x ∧ x ≤ 255) (hy : 0 ≤ y ∧ y ≤ 255) (h : UInt8.ofNat x.toNat = UInt8.ofNat y.toNat) : x = y := by
  have := congrArg UInt8.toNat h
  simp at this
  omega
theorem bytesOf_inj (l m : List Int) (hl : Bts l) (hm : Bts m) (h : Lib.bytesOf l = Lib.bytesOf m) : l = m := by
  induction l generalizing m with
  | nil => cases m with
    | nil => rfl
    | cons b m => simp [Lib.bytesOf] at h
  | cons a l ih => cases m with
    | nil => simp [Lib.bytesOf] at h
    | cons b m =>
      simp only [Lib.bytesOf, List.map_cons, List.cons.injEq] at h
      have e1 := byte_inj (hl a (by simp)) (hm b (by simp)) h.1
      have e2 := ih m (fun x hx => hl x (by simp [hx])) (fun x hx => hm x (by simp [hx])) h.2
      rw [e1, e2]
theorem bytesOf_len (l : List Int) : (Lib.bytesOf l).length = l.length := by simp [Lib.bytesOf]
theorem bytesOf_get (l : List Int) (hl : Bts l) (i : Nat) (y : UInt8) (h : (Lib.bytesOf l)[i]? = some y) : l[i]? = some (y.toNat : Int) := by
  unfold Lib.bytesOf at h
  rw [List.getElem?_map] at h
  cases hx : l[i]? with
  | none => rw [hx] at h; simp at h
  | some x =>
    rw [hx] at h
    simp only [Option.map_some, Option.some.injEq] at h
    have := hl.get hx
    rw [← h]
    congr 1
    simp
    omega
theorem join_plain (xs : List (List Int)) : Lib.join (xs.map Lib.bytesOf) [] = Lib.bytesOf xs.flatten := by
  cases xs with
  | nil => rfl
  | cons a r =>
    rw [List.map_cons, Lib.join_cons]
    unfold Lib.joinTail
    simp only [List.nil_append, List.map_id', List.flatten_cons]
    unfold Lib.bytesOf
    rw [List.map_append, List.map_flatten]
theorem fresh_sl {B : Nat} {W : World} {v : Value} {X : List Int} (hX : Bts X) (h : Lib.FreshBytes B W v (Lib.bytesOf X)) : ∃ g, Sl .u8 W v g 0 X ∧ B ≤ g := by
  obtain ⟨g, cap, zs, rfl, hg, h1, h2, h3, h4, h5, h6, h7⟩ := h
  rw [bytesOf_len] at *
  have hz : zs.take X.length = X := bytesOf_inj _ _ (fun x hx => by have := h4 x (List.mem_of_mem_take hx); omega) hX h5
  refine ⟨g, ⟨_, cap, rfl, h1, h2, fun _ => rfl, fun i x hi => ?_⟩, hg⟩
  have hlt : i < X.length := (List.getElem?_eq_some_iff.1 hi).1
  rw [Nat.zero_add, h6 i (by omega)]
  have : zs[i]? = some x := by rw [← hz, List.getElem?_take, if_pos hlt] at hi; exact hi
  simp [List.getD, this]
theorem sl_holds {w : World} {v : Value} {b o : Nat} {l : List Int} (h : Sl .u8 w v b o l) (hl : Bts l) : Lib.HoldsBytes w v (Lib.bytesOf l) := by
  obtain ⟨A, c, rfl, h1, h2, h3, h4⟩ := h
  refine ⟨A, c, by rw [bytesOf_len], ?_, ?_⟩
  · rintro rfl
    by_cases e : l = []
    · rw [e]; rfl
    · have := h3 e; cases this
  · intro a ha i y hy
    have hg := bytesOf_get l hl i y hy
    have hne : l ≠ [] := by intro e; rw [e] at hg; simp at hg
    have e := h3 hne
    rw [ha] at e
    simp only [Option.some.injEq] at e
    subst e
    rw [Addr.add_lit]
    exact h4 i _ hg
theorem lens_flatten (xs : List (List Int)) : Lib.lens (xs.map Lib.bytesOf) = xs.flatten.length := by
  induction xs with
  | nil => rfl
  | cons a r ih => rw [List.map_cons, Lib.lens_cons, ih, bytesOf_len, List.flatten_cons, List.length_append]
theorem join_any (w : World) (base : Nat) (lv : Value) (L : List Value) (xs : List (List Int)) (hrow : SRow w base lv L) (hp : Parts w L xs) (hB : ∀ x, x ∈ xs → Bts x ∧ x ≠ []) (hlen : xs.flatten.length ≤ 1000000) (hn : xs.length ≤ 1000000) :
    Calls Tryz.prog 136 #[lv, .slice none 0 0] w (Post w [] fun r W => ∃ g, Sl .u8 W r g 0 xs.flatten ∧ w.heap.size ≤ g) := by
  have hflat : Bts xs.flatten := by
    intro x hx
    obtain ⟨a, ha, hx⟩ := List.mem_flatten.1 hx
    exact (hB a ha).1 x hx
  obtain ⟨hpl, hpp⟩ := hp
  by_cases h0 : xs.length = 0
  · have hx0 : xs = [] := List.eq_nil_of_length_eq_zero h0
    have hL0 : L.length = 0 := by omega
    obtain ⟨A, c, e, _, _⟩ := hrow.form
    rw [hL0] at e
    subst e
    subst hx0
    refine (Any.bytes_Join_none Tryz.joinA A c (.slice none 0 0) w).mono ?_
    rintro _ _ ⟨rfl, rfl⟩
    exact ⟨_, rfl, ⟨w.heap.size, ⟨_, 0, rfl, Nat.le_refl _, Nat.zero_le _, fun h => absurd rfl h, fun i x h => by simp at h⟩, Nat.le_refl _⟩, (Kept.refl w []).alloc _⟩
  obtain ⟨u0, hu0⟩ : ∃ u, L[0]? = some u := ⟨_, List.getElem?_eq_getElem (by omega)⟩
  obtain ⟨x0, hx0⟩ : ∃ x, xs[0]? = some x := ⟨_, List.getElem?_eq_getElem (by omega)⟩
  obtain ⟨g, c, rfl, hc0, hcl, hcm⟩ := hrow.cell hu0
  by_cases h1 : xs.length = 1
  · have hL1 : L.length = 1 := by omega
    obtain ⟨b, o, hs⟩ := hpp 0 u0 x0 hu0 hx0
    have hxs : xs = [x0] := by
      match xs, h1, hx0 with
      | [y], _, h => simp at h; rw [h]
    have hb0 := hB x0 (by rw [hxs]; simp)
    obtain ⟨c0, e⟩ := hs.at hb0.2
    subst e
    rw [hL1]
    have hfx : xs.flatten = x0 := by rw [hxs]; simp
    rw [hfx] at hlen hflat ⊢
    refine (Any.bytes_Join_one Tryz.joinA g 0 c ⟨b, o, none⟩ c0 (Lib.bytesOf x0) (.slice none 0 0) w (by rw [bytesOf_len]; exact hc0) (fun i y hy => by rw [Addr.add_lit]; exact hs.cell (bytesOf_get x0 hb0.1 i y hy)) (by rw [bytesOf_len]; exact List.length_pos_iff.2 hb0.2) (by rw [bytesOf_len]; omega)).mono ?_
    rintro _ W ⟨v', rfl, hf, hbl⟩
    obtain ⟨g', h2, h3⟩ := fresh_sl hb0.1 hf
    exact ⟨_, rfl, ⟨g', h2, h3⟩, Kept.of_below hbl⟩
  · refine (Any.bytes_Join_many Tryz.joinA g 0 L.length c L (xs.map Lib.bytesOf) (.slice none 0 0) [] w (by rw [List.length_map]; omega) (by omega) ⟨by rw [List.length_map]; exact hpl, fun i v hv => ?_, fun i v l hv hl => ?_⟩ hcl ⟨none, 0, rfl, fun _ => rfl, fun a ha => by cases ha⟩ (by omega) (by rw [lens_flatten]; simp only [List.length_nil, Nat.zero_mul, Nat.add_zero]; omega)).mono ?_
    · obtain ⟨g', c', e, hc, _, _⟩ := hrow.cell hv
      simp only [Value.slice.injEq, Option.some.injEq, Addr.mk.injEq, and_true] at e
      obtain ⟨rfl, _⟩ := e
      rw [Addr.add_lit, Nat.zero_add]
      exact hc
    · rw [List.getElem?_map] at hl
      cases hx : xs[i]? with
      | none => rw [hx] at hl; simp at hl
      | some x =>
        rw [hx] at hl
        simp only [Option.map_some, Option.some.injEq] at hl
        subst hl
        obtain ⟨b, o, hs⟩ := hpp i v x hv hx
        exact sl_holds hs (hB x (List.mem_of_getElem? hx)).1
    · rintro _ W ⟨v', rfl, hf, hbl⟩
      rw [join_plain] at hf
      obtain ⟨g', h2, h3⟩ := fresh_sl hflat hf
      exact ⟨_, rfl, ⟨g', h2, h3⟩, Kept.of_below hbl⟩
set_option maxHeartbeats 1000000 in
theorem glue_any (w : World) (base : Nat) (lv : Value) (L : List Value) (xs : List (List Int)) (hrow : SRow w base lv L) (hp : Parts w L xs) (hB : ∀ x, x ∈ xs → Bts x ∧ x ≠ []) (hlen : xs.flatten.length ≤ 1000000) (hn : xs.length ≤ 1000000) (many : Nat) (hm : many ≤ xs.flatten.length) :
    Calls Tryz.prog 118 #[lv, .int .i64 many] w (Post w [] fun r W => ∃ v g, r = .tuple #[v, .int .i64 0] ∧ Sl .u8 W v g 0 (xs.flatten.take many) ∧ w.heap.size ≤ g) := by
  have HJ := Lib.hid (join_any w base lv L xs hrow hp hB hlen hn)
  have m0 : (0 : Int) ≤ many := by omega
  have m1 : (many : Int) ≤ xs.flatten.length := by omega
  have m2 : (xs.flatten.length : Int) ≤ 1000000 := by omega
  have HM := Lib.hid hm
  generalize xs.flatten = X at *
  clear hrow hp hB hlen hn hm
  go_enter Tryz.func118, Tryz.ntmps118
  go_wp2_with fail
  refine HJ.out.mono ?_
  rintro _ W ⟨v, rfl, ⟨g, hs, hg⟩, k⟩
  have K := Lib.hid k
  have HG := Lib.hid hg
  have HS := Lib.hid hs
  obtain ⟨A, c, rfl, h1, h2, h3, h4⟩ := hs
  unfold maxLen at h2
  have c0 : (X.length : Int) ≤ c := by omega
  have c1 : (c : Int) ≤ 9223372036854775807 := by omega
  have hd : decide ((X.length : Int) < many) = false := by simp; omega
  have hmc : (many : Int) ≤ c := by omega
  clear k hg h3 h4 HJ h1
  go_wp2_with fail
  go_ret2
  refine ⟨_, rfl, ⟨_, g, rfl, ?_, HG.out⟩, K.out⟩
  have hm := HM.out
  by_cases hz : many = 0
  · subst hz
    exact ⟨A, c, by simp, by simp, by unfold maxLen; omega, fun h => absurd (List.take_zero) h, fun i x h => by simp at h⟩
  · obtain ⟨A', c', e, a1, a2, a3, a4⟩ := HS.out
    simp only [Value.slice.injEq] at e
    obtain ⟨rfl, _, rfl⟩ := e
    refine ⟨A, c, by rw [List.length_take, Nat.min_eq_left hm]; rfl, by rw [List.length_take]; omega, a2, fun _ => a3 (by intro e; rw [e] at hm; simp at hm; omega), fun i x h => ?_⟩
    rw [List.getElem?_take] at h
    split at h
    · exact a4 i x h
    · cases h
end Go.Proofs.YtcikhnkehglkgaaGreatDoor
