/- PROVED: how the document's disk lies in memory, and its fails. No conditions beyond those that each theorem states. -/
import Derived.Test.YtcbngmfbbdmlgaaDkHn
import Derived.Test.YtcbngmfbbdmlgaaRw
namespace Go.Proofs.Ytcbngmfbbdmlgaa
open Go.RowKit Go.Proofs.YtcbngmfbbdmlgaaLib Go.WideElems Go.Maps
set_option linter.unusedSimpArgs false
set_option linter.unusedVariables false

/-- a row of slices, each value known -/
abbrev Rows (w : World) (v : Value) (L : List Value) : Prop := w.ownsRow 0 31 1 v L.length L
/-- a sector that is cached, or none -/
def Cel (w : World) (F : List Nat) (u : Value) (o : Option (List Int)) : Prop :=
  match o with
  | none => u = .slice none 0 0
  | some l => ∃ b c, u = .slice (some ⟨b, 0, none⟩) l.length c ∧ Sl .u8 w u b 0 l ∧ b ∉ F
structure RDiskX (w : World) (b : Nat) (F X : List Nat) (s : DiskS) (vl vc vp : Value) (Ls Cs : List Value) (P : List Int) : Prop where
  ok : s.Ok
  blk : Blk w b 43 [.int .i64 s.size, vl, vc, vp, .int .i64 s.ops, .int .i64 s.writes]
  las : Rows w vl Ls
  cac : Rows w vc Cs
  ll : Ls.length = s.last.length
  lc : Cs.length = s.last.length
  lel : ∀ (i : Nat) (l : List Int), s.last[i]? = some l → ∃ u, Ls[i]? = some u ∧ Cel w X u (some l)
  cel : ∀ (i : Nat) (o : Option (List Int)), s.cach[i]? = some o → ∃ u, Cs[i]? = some u ∧ Cel w X u o
  pla : Own 3 .i64 w 0 vp P
  pof : ∀ n : Int, s.plan n = P.contains n
  pln : P.length ≤ s.marks
  pbd : ∀ x, x ∈ P → -9223372036854775808 ≤ x ∧ x ≤ 9223372036854775807
  fb : b ∈ F
  fl : ∀ g, vl.ownBlock = some g → g ∈ F
  fc : ∀ g, vc.ownBlock = some g → g ∈ F
  fp : ∀ g, vp.ownBlock = some g → g ∈ F
  ne : ∀ g, vl.ownBlock = some g → vc.ownBlock ≠ some g
  fx : ∀ g, g ∈ F → g ∈ X
  xlt : ∀ g, g ∈ X → g < w.heap.size
theorem RDiskX.lt {w : World} {b : Nat} {F X : List Nat} {s : DiskS} {vl vc vp : Value} {Ls Cs : List Value} {P : List Int} (h : RDiskX w b F X s vl vc vp Ls Cs P) : ∀ g, g ∈ F → g < w.heap.size := fun g hg => h.xlt g (h.fx g hg)
/-- the document's disk s lies at block b; its own blocks, that may be turned, are F; its sectors' rows lie outside X, and are never turned -/
def RDisk (w : World) (b : Nat) (F X : List Nat) (s : DiskS) : Prop := ∃ vl vc vp Ls Cs P, RDiskX w b F X s vl vc vp Ls Cs P
theorem Rows.ne_cells {w : World} {v : Value} {L : List Value} (h : Rows w v L) {b T' : Nat} {M : List Value} (hb : Blk w b T' M) (hT : 31 ≠ T') : v.ownBlock ≠ some b := by
  intro e
  obtain ⟨h1, ⟨rfl, _⟩ | ⟨g, cap, cur, rfl, hg, hc, _⟩⟩ := h
  · simp [Value.ownBlock] at e
  · simp [Value.ownBlock] at e
    subst e
    unfold Blk at hb
    rw [hb] at hc
    simp at hc
    exact hT hc.2.symm
theorem Rows.ne_own {w : World} {v u : Value} {L : List Value} (h : Rows w v L) {T : TypeId} {k : IntKind} {base : Nat} {l : List Int} (hu : Own T k w base u l) (hT : 31 ≠ T) : ∀ g, v.ownBlock = some g → u.ownBlock ≠ some g := by
  intro g hg hu'
  obtain ⟨h1, ⟨rfl, _⟩ | ⟨g1, cap, cur, rfl, hg1, hc, _⟩⟩ := h
  · simp [Value.ownBlock] at hg
  · obtain ⟨h2, ⟨rfl, _⟩ | ⟨g2, cap2, cur2, rfl, hg2, hc2, _⟩⟩ := hu
    · simp [Value.ownBlock] at hu'
    · simp [Value.ownBlock] at hg hu'
      subst hg; subst hu'
      rw [hc] at hc2
      simp at hc2
      exact hT hc2.2
theorem rows_kept {w w1 : World} {v : Value} {L : List Value} {S : List Nat} (h : Rows w v L) (hk : Kept w w1 S) (hS : Apart v S) : Rows w1 v L := by
  obtain ⟨h1, h2⟩ := h
  refine ⟨h1, h2.imp id ?_⟩
  rintro ⟨g, cap, cur, rfl, hg, hc, r⟩
  refine ⟨g, cap, cur, rfl, hg, ?_, r⟩
  rw [hk.block g ((Array.getElem?_eq_some_iff.1 hc).1) (hS g rfl)]
  exact hc
theorem Cel.kept {w w1 : World} {F : List Nat} {u : Value} {o : Option (List Int)} {S : List Nat} (h : Cel w F u o) (hk : Kept w w1 S) (hS : ∀ g, g ∈ S → g ∈ F) : Cel w1 F u o := by
  cases o with
  | none => exact h
  | some l =>
    obtain ⟨b, c, e, h1, h2⟩ := h
    exact ⟨b, c, e, h1.kept hk (.inr (fun hm => h2 (hS _ hm))), h2⟩
/-- a cell of a row of slices -/
theorem Rows.cell {w : World} {v : Value} {L : List Value} (h : Rows w v L) {i : Nat} {u : Value} (hu : L[i]? = some u) : ∃ g c, v = .slice (some ⟨g, 0, none⟩) L.length c ∧ w.cell? ⟨g, i, none⟩ = some u ∧ w.frozen? ⟨g, i, none⟩ = false ∧ L.length ≤ c ∧ c ≤ maxLen := by
  have hi := (List.getElem?_eq_some_iff.1 hu).1
  obtain ⟨h1, ⟨rfl, h0⟩ | ⟨g, cap, cur, rfl, hg, hc, h2, h3, h4, h5⟩⟩ := h
  · omega
  · refine ⟨g, cap, rfl, ?_, by simp [World.frozen?, hc], h2, h3⟩
    rw [Nat.mul_one] at h5
    rw [← h5, List.getElem?_take, if_pos hi] at hu
    simp only [World.cell?, hc]
    simpa using hu
theorem Rows.form {w : World} {v : Value} {L : List Value} (h : Rows w v L) : ∃ A c, v = .slice A L.length c ∧ L.length ≤ c ∧ c ≤ maxLen := by
  obtain ⟨h1, ⟨rfl, h0⟩ | ⟨g, cap, cur, rfl, hg, hc, h2, h3, h4, h5⟩⟩ := h
  · exact ⟨none, 0, by rw [h0], by omega, Nat.zero_le _⟩
  · exact ⟨_, cap, rfl, h2, h3⟩
/-- only the counts have turned -/
theorem RDiskX.counts {w w1 : World} {b : Nat} {F X : List Nat} {s : DiskS} {vl vc vp : Value} {Ls Cs : List Value} {P : List Int} (h : RDiskX w b F X s vl vc vp Ls Cs P) (hk : Kept w w1 [b]) {o r : Nat}
    (hb : Blk w1 b 43 [.int .i64 s.size, vl, vc, vp, .int .i64 o, .int .i64 r]) (ho : o ≤ 1000000000) (hr : r ≤ o) : RDiskX w1 b F X { s with ops := o, writes := r } vl vc vp Ls Cs P := by
  have hn1 := h.las.ne_cells h.blk (by decide)
  have hn2 := h.cac.ne_cells h.blk (by decide)
  have hn3 := Own.ne_cells h.pla h.blk (by decide)
  have hS : ∀ g, g ∈ [b] → g ∈ X := fun g hg => by simp at hg; subst hg; exact h.fx _ h.fb
  exact ⟨⟨h.ok.s1, h.ok.s2, h.ok.n1, h.ok.nc, h.ok.ls, h.ok.cs, ho, hr, h.ok.ma⟩, hb, rows_kept h.las hk (fun g hg hm => by simp at hm; subst hm; exact hn1 hg), rows_kept h.cac hk (fun g hg hm => by simp at hm; subst hm; exact hn2 hg), h.ll, h.lc,
    fun i l hl => let ⟨u, a, c⟩ := h.lel i l hl; ⟨u, a, c.kept hk hS⟩, fun i o hl => let ⟨u, a, c⟩ := h.cel i o hl; ⟨u, a, c.kept hk hS⟩, h.pla.kept hk (fun g hg hm => by simp at hm; subst hm; exact hn3 hg), h.pof, h.pln, h.pbd, h.fb, h.fl, h.fc, h.fp, h.ne, h.fx, fun g hg => Nat.lt_of_lt_of_le (h.xlt g hg) hk.size⟩
theorem RDiskX.kept {w w1 : World} {b : Nat} {F X : List Nat} {s : DiskS} {vl vc vp : Value} {Ls Cs : List Value} {P : List Int} (h : RDiskX w b F X s vl vc vp Ls Cs P) (hk : Kept w w1 []) : RDiskX w1 b F X s vl vc vp Ls Cs P :=
  ⟨h.ok, h.blk.kept hk (by simp), rows_kept h.las hk (by simp [Apart]), rows_kept h.cac hk (by simp [Apart]), h.ll, h.lc, fun i l hl => let ⟨u, a, c⟩ := h.lel i l hl; ⟨u, a, c.kept hk (by simp)⟩, fun i o hl => let ⟨u, a, c⟩ := h.cel i o hl; ⟨u, a, c.kept hk (by simp)⟩,
    h.pla.kept hk (by simp [Apart]), h.pof, h.pln, h.pbd, h.fb, h.fl, h.fc, h.fp, h.ne, h.fx, fun g hg => Nat.lt_of_lt_of_le (h.xlt g hg) hk.size⟩
theorem RDisk.kept {w w1 : World} {b : Nat} {F X : List Nat} {s : DiskS} (h : RDisk w b F X s) (hk : Kept w w1 []) : RDisk w1 b F X s := let ⟨vl, vc, vp, Ls, Cs, P, h⟩ := h; ⟨vl, vc, vp, Ls, Cs, P, h.kept hk⟩
set_option maxRecDepth 100000 in
set_option maxHeartbeats 4000000 in
theorem rfails_any (w : World) (b : Nat) (F X : List Nat) (s : DiskS) (h : RDisk w b F X s) (ho : s.ops < 1000000000) :
    Calls Try.prog 36 #[.pointer (some ⟨b, 0, none⟩)] w (Post w [b] fun v W => v = .bool s.fails ∧ RDisk W b F X s.tick) := by
  obtain ⟨vl, vc, vp, Ls, Cs, P, hx⟩ := h
  obtain ⟨bp, hps, _⟩ := hx.pla.sl
  obtain ⟨Ap, cp, rfl⟩ := hps.form
  have hpl := hps.len
  unfold maxLen at hpl
  have c4 := hx.blk.cell 4 rfl
  have f4 := hx.blk.free 4
  have hb1 := hx.blk.set 4 (.int .i64 ((s.ops : Int) + 1))
  have k0 : Kept w (w.setCell ⟨b, 4, none⟩ (.int .i64 ((s.ops : Int) + 1))) [b] := (Kept.refl w [b]).setCell (by simp) _
  have hps0 := hps.kept k0 (by
    by_cases e : P = []
    · exact .inl e
    · refine .inr (fun hm => ?_)
      simp at hm
      obtain ⟨cc, e2⟩ := hps.at e
      have := Own.ne_cells hx.pla hx.blk (by decide)
      rw [e2] at this
      simp [Value.ownBlock, hm] at this)
  have o0 : (0 : Int) ≤ s.ops := by omega
  have o1 : (s.ops : Int) < 1000000000 := by omega
  have l0 : (0 : Int) ≤ P.length := by omega
  have l1 : (P.length : Int) ≤ 9223372036854775807 := by omega
  have HX := Lib.hid hx
  have HPS := Lib.hid hps0
  have HB := Lib.hid hb1
  have K0 := Lib.hid k0
  clear hps hpl hx hps0
  go_enter Try.func36, Try.ntmps36
  go_wp2_with fail
  generalize hw0 : w.setCell ⟨b, 4, none⟩ (.int .i64 ((s.ops : Int) + 1)) = w0 at *
  have HW0 := Lib.hid hw0
  clear hw0 hb1 k0 c4 f4
  go_loopg [3] P.length (fun g i wr => ∃ k : Nat, k + g = P.length ∧ i = .int .i64 k ∧ ((s.ops : Int) + 1 ∉ P.take k) ∧ Kept w0 wr [])
  case atStart => exact ⟨0, by omega, rfl, by simp, Kept.refl _ _⟩
  case round =>
    obtain ⟨k, hk, rfl, ht, hkr⟩ := hrel
    have HK := Lib.hid hk
    have HT := Lib.hid ht
    have HKR := Lib.hid hkr
    have hbr := HB.out.kept hkr (by simp)
    have d3 := hbr.cell 3 rfl
    have d4 := hbr.cell 4 rfl
    clear hk ht hkr
    have hfin : ∀ W, Kept w0 W [] → RDisk W b F X s.tick := fun W hW => ⟨vl, vc, _, Ls, Cs, P, (HX.out.counts (o := s.ops + 1) (r := s.writes) (K0.out.trans hW (by simp)) ((HB.out.kept hW (by simp)).to (by simp)) (by omega) (by have := HX.out.ok.wr; omega))⟩
    have HFIN := Lib.hid hfin
    clear hfin hbr
    by_cases hlt : k < P.length
    · have k0' : (0 : Int) ≤ k := by omega
      have k1 : (k : Int) < P.length := by omega
      have hx := List.getElem?_eq_getElem hlt
      obtain ⟨cp', gp⟩ := HPS.out.at (by intro e; rw [e] at hlt; simp at hlt)
      simp only [Value.slice.injEq] at gp
      obtain ⟨rfl, _, rfl⟩ := gp
      have dk := (HPS.out.kept HKR.out (.inr (by simp))).cell hx
      rw [Nat.zero_add] at dk
      have hstep : (s.ops : Int) + 1 ∈ P.take (k + 1) → (s.ops : Int) + 1 ∈ P.take k ∨ (s.ops : Int) + 1 = P[k] := by
        intro hm
        rw [List.take_add_one, hx, List.mem_append] at hm
        rcases hm with hm | hm
        · exact .inl hm
        · simp at hm; exact .inr hm
      have HST := Lib.hid hstep
      have HXX := Lib.hid hx
      clear hstep hx
      by_cases he : P[k] = (s.ops : Int) + 1
      · have te : (P[k] == (s.ops : Int) + 1) = true := by simp [he]
        have hfs : s.fails = true := by
          show s.plan _ = true
          rw [HX.out.pof, List.contains_eq_any_beq, List.any_eq_true]
          exact ⟨P[k], List.getElem_mem hlt, by simp [he]⟩
        have HFS := Lib.hid hfs
        clear he hfs
        generalize P[k] = pk at *
        go_wp2_with fail
        go_region
        all_goals (
          go_wp2_with fail
          go_ret
          exact ⟨_, rfl, ⟨by rw [HFS.out]; rfl, HFIN.out _ HKR.out.drew⟩, K0.out.trans HKR.out.drew (by simp)⟩)
      · have te : (P[k] == (s.ops : Int) + 1) = false := by simp [he]
        have hnx : (s.ops : Int) + 1 ∉ P.take (k + 1) := fun hm => by
          rcases HST.out hm with h | h
          · exact HT.out h
          · exact he h.symm
        have HNX := Lib.hid hnx
        clear he hnx HST
        generalize P[k] = pk at *
        go_wp2_with fail
        go_region
        all_goals (
          go_wp2_with fail
          go_roundg (gk - 1)
          case measure => have := HK.out; omega
          case rel => exact ⟨k + 1, by have := HK.out; omega, by go_num, HNX.out, HKR.out.drew⟩)
    · have hkn : k = P.length := by have := HK.out; omega
      have hfs : s.fails = false := by
        show s.plan _ = false
        have h1 := HT.out
        rw [List.take_of_length_le (by omega)] at h1
        rw [HX.out.pof]
        simpa using h1
      have HFS := Lib.hid hfs
      clear hlt hfs
      subst hkn
      go_wp2_with fail
      go_ret
      exact ⟨_, rfl, ⟨by rw [HFS.out]; rfl, HFIN.out _ HKR.out⟩, K0.out.trans HKR.out (by simp)⟩
end Go.Proofs.Ytcbngmfbbdmlgaa
