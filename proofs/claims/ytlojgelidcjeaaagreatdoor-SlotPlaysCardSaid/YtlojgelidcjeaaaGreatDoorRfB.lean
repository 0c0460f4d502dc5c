/- PROVED: an append within a drawn region; how the document's disk lies in memory, and its fails; the document's disk: Open. No conditions beyond those that each theorem states. -/
import Derived.Test.YtlojgelidcjeaaaGreatDoorRw
import Derived.Deep.RegionLaw
import Derived.Test.YtlojgelidcjeaaaGreatDoorDkG
import Derived.Maps.AppendAt
namespace Go.Proofs.YtlojgelidcjeaaaGreatDoor
open Go.RowKit Go.Proofs.YtlojgelidcjeaaaGreatDoorLib
set_option linter.unusedSimpArgs false
set_option linter.unusedVariables false

theorem step_append_at {P : Program} {ops : Array Oper} {o : Oper} {a : Act} {w w' W0 : World} {K : Act → World → Prop} {Q : Exit → Act → World → Prop} {E : Prop} {v1 v2 v' : Value} (t ty : TypeId) (hr : (Builtin.append_ #[t, t] ty #[v1, v2]).run P W0 = .ok v' w') (s x : Operand) (hW : w = W0) (hgd : o.guard = none)
    (ho : o.op = .call { callee := .builtin .append, args := #[s, x], argTypes := #[t, t] }) (hty : o.type = ty) (hs : a.eval s = v1) (hx : a.eval x = v2)
    (h : K (a.put o.dst v') w') : if Region.wanted o (yielded ops a.tmps) = true then Oper.wp P o a w K Q else E := by
  subst hW
  subst hty
  have hw : Region.wanted o (yielded ops a.tmps) = true := by simp [Region.wanted, hgd]
  rw [if_pos hw]
  unfold Oper.wp
  simp [execOp, ho, resolve, invoke, builtin, hs, hx, hr, Result.andThen]
  exact h
end Go.Proofs.YtlojgelidcjeaaaGreatDoor
namespace Go.Proofs.YtlojgelidcjeaaaGreatDoor
open Go.RowKit Go.Proofs.YtlojgelidcjeaaaGreatDoorLib Go.WideElems Go.Maps
set_option linter.unusedSimpArgs false
set_option linter.unusedVariables false

/-- a row of slices, each value known -/
abbrev Rows (w : World) (v : Value) (L : List Value) : Prop := w.ownsRow 0 35 1 v L.length L
/-- a sector that is cached, or none -/
def Cel (w : World) (F : List Nat) (u : Value) (o : Option (List Int)) : Prop :=
  match o with
  | none => u = .slice none 0 0
  | some l => ∃ b c, u = .slice (some ⟨b, 0, none⟩) l.length c ∧ Sl .u8 w u b 0 l ∧ b ∉ F
structure RDiskX (w : World) (b : Nat) (F X : List Nat) (s : DiskS) (vl vc vp : Value) (Ls Cs : List Value) (P : List Int) : Prop where
  ok : s.Ok
  blk : Blk w b 58 [.int .i64 s.size, vl, vc, vp, .int .i64 s.ops, .int .i64 s.writes]
  las : Rows w vl Ls
  cac : Rows w vc Cs
  ll : Ls.length = s.last.length
  lc : Cs.length = s.last.length
  lel : ∀ (i : Nat) (l : List Int), s.last[i]? = some l → ∃ u, Ls[i]? = some u ∧ Cel w X u (some l)
  cel : ∀ (i : Nat) (o : Option (List Int)), s.cach[i]? = some o → ∃ u, Cs[i]? = some u ∧ Cel w X u o
  pla : Own 3 .i64 w 0 vp P
  pof : ∀ n : Int, s.plan n = P.contains n
  pln : P.length ≤ s.marks
  pbd : ∀ x, x ∈ P → -9223372036854775808 ≤ x ∧ x ≤ 9223372036854775807
  fb : b ∈ F
  fl : ∀ g, vl.ownBlock = some g → g ∈ F
  fc : ∀ g, vc.ownBlock = some g → g ∈ F
  fp : ∀ g, vp.ownBlock = some g → g ∈ F
  ne : ∀ g, vl.ownBlock = some g → vc.ownBlock ≠ some g
  fx : ∀ g, g ∈ F → g ∈ X
  xlt : ∀ g, g ∈ X → g < w.heap.size
theorem RDiskX.lt {w : World} {b : Nat} {F X : List Nat} {s : DiskS} {vl vc vp : Value} {Ls Cs : List Value} {P : List Int} (h : RDiskX w b F X s vl vc vp Ls Cs P) : ∀ g, g ∈ F → g < w.heap.size := fun g hg => h.xlt g (h.fx g hg)
/-- the document's disk s lies at block b; its own blocks, that may be turned, are F; its sectors' rows lie outside X, and are never turned -/
def RDisk (w : World) (b : Nat) (F X : List Nat) (s : DiskS) : Prop := ∃ vl vc vp Ls Cs P, RDiskX w b F X s vl vc vp Ls Cs P
theorem Rows.ne_cells {w : World} {v : Value} {L : List Value} (h : Rows w v L) {b T' : Nat} {M : List Value} (hb : Blk w b T' M) (hT : 35 ≠ T') : v.ownBlock ≠ some b := by
  intro e
  obtain ⟨h1, ⟨rfl, _⟩ | ⟨g, cap, cur, rfl, hg, hc, _⟩⟩ := h
  · simp [Value.ownBlock] at e
  · simp [Value.ownBlock] at e
    subst e
    unfold Blk at hb
    rw [hb] at hc
    simp at hc
    exact hT hc.2.symm
theorem Rows.ne_own {w : World} {v u : Value} {L : List Value} (h : Rows w v L) {T : TypeId} {k : IntKind} {base : Nat} {l : List Int} (hu : Own T k w base u l) (hT : 35 ≠ T) : ∀ g, v.ownBlock = some g → u.ownBlock ≠ some g := by
  intro g hg hu'
  obtain ⟨h1, ⟨rfl, _⟩ | ⟨g1, cap, cur, rfl, hg1, hc, _⟩⟩ := h
  · simp [Value.ownBlock] at hg
  · obtain ⟨h2, ⟨rfl, _⟩ | ⟨g2, cap2, cur2, rfl, hg2, hc2, _⟩⟩ := hu
    · simp [Value.ownBlock] at hu'
    · simp [Value.ownBlock] at hg hu'
      subst hg; subst hu'
      rw [hc] at hc2
      simp at hc2
      exact hT hc2.2
theorem rows_kept {w w1 : World} {v : Value} {L : List Value} {S : List Nat} (h : Rows w v L) (hk : Kept w w1 S) (hS : Apart v S) : Rows w1 v L := by
  obtain ⟨h1, h2⟩ := h
  refine ⟨h1, h2.imp id ?_⟩
  rintro ⟨g, cap, cur, rfl, hg, hc, r⟩
  refine ⟨g, cap, cur, rfl, hg, ?_, r⟩
  rw [hk.block g ((Array.getElem?_eq_some_iff.1 hc).1) (hS g rfl)]
  exact hc
theorem Cel.kept {w w1 : World} {F : List Nat} {u : Value} {o : Option (List Int)} {S : List Nat} (h : Cel w F u o) (hk : Kept w w1 S) (hS : ∀ g, g ∈ S → g ∈ F) : Cel w1 F u o := by
  cases o with
  | none => exact h
  | some l =>
    obtain ⟨b, c, e, h1, h2⟩ := h
    exact ⟨b, c, e, h1.kept hk (.inr (fun hm => h2 (hS _ hm))), h2⟩
/-- a cell of a row of slices -/
theorem Rows.cell {w : World} {v : Value} {L : List Value} (h : Rows w v L) {i : Nat} {u : Value} (hu : L[i]? = some u) : ∃ g c, v = .slice (some ⟨g, 0, none⟩) L.length c ∧ w.cell? ⟨g, i, none⟩ = some u ∧ w.frozen? ⟨g, i, none⟩ = false ∧ L.length ≤ c ∧ c ≤ maxLen := by
  have hi := (List.getElem?_eq_some_iff.1 hu).1
  obtain ⟨h1, ⟨rfl, h0⟩ | ⟨g, cap, cur, rfl, hg, hc, h2, h3, h4, h5⟩⟩ := h
  · omega
  · refine ⟨g, cap, rfl, ?_, by simp [World.frozen?, hc], h2, h3⟩
    rw [Nat.mul_one] at h5
    rw [← h5, List.getElem?_take, if_pos hi] at hu
    simp only [World.cell?, hc]
    simpa using hu
theorem Rows.form {w : World} {v : Value} {L : List Value} (h : Rows w v L) : ∃ A c, v = .slice A L.length c ∧ L.length ≤ c ∧ c ≤ maxLen := by
  obtain ⟨h1, ⟨rfl, h0⟩ | ⟨g, cap, cur, rfl, hg, hc, h2, h3, h4, h5⟩⟩ := h
  · exact ⟨none, 0, by rw [h0], by omega, Nat.zero_le _⟩
  · exact ⟨_, cap, rfl, h2, h3⟩
/-- only the counts have turned -/
theorem RDiskX.counts {w w1 : World} {b : Nat} {F X : List Nat} {s : DiskS} {vl vc vp : Value} {Ls Cs : List Value} {P : List Int} (h : RDiskX w b F X s vl vc vp Ls Cs P) (hk : Kept w w1 [b]) {o r : Nat}
    (hb : Blk w1 b 58 [.int .i64 s.size, vl, vc, vp, .int .i64 o, .int .i64 r]) (ho : o ≤ 1000000000) (hr : r ≤ o) : RDiskX w1 b F X { s with ops := o, writes := r } vl vc vp Ls Cs P := by
  have hn1 := h.las.ne_cells h.blk (by decide)
  have hn2 := h.cac.ne_cells h.blk (by decide)
  have hn3 := Own.ne_cells h.pla h.blk (by decide)
  have hS : ∀ g, g ∈ [b] → g ∈ X := fun g hg => by simp at hg; subst hg; exact h.fx _ h.fb
  exact ⟨⟨h.ok.s1, h.ok.s2, h.ok.n1, h.ok.nc, h.ok.ls, h.ok.cs, ho, hr, h.ok.ma⟩, hb, rows_kept h.las hk (fun g hg hm => by simp at hm; subst hm; exact hn1 hg), rows_kept h.cac hk (fun g hg hm => by simp at hm; subst hm; exact hn2 hg), h.ll, h.lc,
    fun i l hl => let ⟨u, a, c⟩ := h.lel i l hl; ⟨u, a, c.kept hk hS⟩, fun i o hl => let ⟨u, a, c⟩ := h.cel i o hl; ⟨u, a, c.kept hk hS⟩, h.pla.kept hk (fun g hg hm => by simp at hm; subst hm; exact hn3 hg), h.pof, h.pln, h.pbd, h.fb, h.fl, h.fc, h.fp, h.ne, h.fx, fun g hg => Nat.lt_of_lt_of_le (h.xlt g hg) hk.size⟩
theorem RDiskX.kept {w w1 : World} {b : Nat} {F X : List Nat} {s : DiskS} {vl vc vp : Value} {Ls Cs : List Value} {P : List Int} (h : RDiskX w b F X s vl vc vp Ls Cs P) (hk : Kept w w1 []) : RDiskX w1 b F X s vl vc vp Ls Cs P :=
  ⟨h.ok, h.blk.kept hk (by simp), rows_kept h.las hk (by simp [Apart]), rows_kept h.cac hk (by simp [Apart]), h.ll, h.lc, fun i l hl => let ⟨u, a, c⟩ := h.lel i l hl; ⟨u, a, c.kept hk (by simp)⟩, fun i o hl => let ⟨u, a, c⟩ := h.cel i o hl; ⟨u, a, c.kept hk (by simp)⟩,
    h.pla.kept hk (by simp [Apart]), h.pof, h.pln, h.pbd, h.fb, h.fl, h.fc, h.fp, h.ne, h.fx, fun g hg => Nat.lt_of_lt_of_le (h.xlt g hg) hk.size⟩
theorem RDisk.kept {w w1 : World} {b : Nat} {F X : List Nat} {s : DiskS} (h : RDisk w b F X s) (hk : Kept w w1 []) : RDisk w1 b F X s := let ⟨vl, vc, vp, Ls, Cs, P, h⟩ := h; ⟨vl, vc, vp, Ls, Cs, P, h.kept hk⟩
set_option maxRecDepth 100000 in
set_option maxHeartbeats 4000000 in
theorem rfails_any (w : World) (b : Nat) (F X : List Nat) (s : DiskS) (h : RDisk w b F X s) (ho : s.ops < 1000000000) :
    Calls Tryz.prog 55 #[.pointer (some ⟨b, 0, none⟩)] w (Post w [b] fun v W => v = .bool s.fails ∧ RDisk W b F X s.tick) := by
  obtain ⟨vl, vc, vp, Ls, Cs, P, hx⟩ := h
  obtain ⟨bp, hps, _⟩ := hx.pla.sl
  obtain ⟨Ap, cp, rfl⟩ := hps.form
  have hpl := hps.len
  unfold maxLen at hpl
  have c4 := hx.blk.cell 4 rfl
  have f4 := hx.blk.free 4
  have hb1 := hx.blk.set 4 (.int .i64 ((s.ops : Int) + 1))
  have k0 : Kept w (w.setCell ⟨b, 4, none⟩ (.int .i64 ((s.ops : Int) + 1))) [b] := (Kept.refl w [b]).setCell (by simp) _
  have hps0 := hps.kept k0 (by
    by_cases e : P = []
    · exact .inl e
    · refine .inr (fun hm => ?_)
      simp at hm
      obtain ⟨cc, e2⟩ := hps.at e
      have := Own.ne_cells hx.pla hx.blk (by decide)
      rw [e2] at this
      simp [Value.ownBlock, hm] at this)
  have o0 : (0 : Int) ≤ s.ops := by omega
  have o1 : (s.ops : Int) < 1000000000 := by omega
  have l0 : (0 : Int) ≤ P.length := by omega
  have l1 : (P.length : Int) ≤ 9223372036854775807 := by omega
  have HX := Lib.hid hx
  have HPS := Lib.hid hps0
  have HB := Lib.hid hb1
  have K0 := Lib.hid k0
  clear hps hpl hx hps0
  go_enter Tryz.func55, Tryz.ntmps55
  go_wp2_with fail
  generalize hw0 : w.setCell ⟨b, 4, none⟩ (.int .i64 ((s.ops : Int) + 1)) = w0 at *
  have HW0 := Lib.hid hw0
  clear hw0 hb1 k0 c4 f4
  go_loopg [3] P.length (fun g i wr => ∃ k : Nat, k + g = P.length ∧ i = .int .i64 k ∧ ((s.ops : Int) + 1 ∉ P.take k) ∧ Kept w0 wr [])
  case atStart => exact ⟨0, by omega, rfl, by simp, Kept.refl _ _⟩
  case round =>
    obtain ⟨k, hk, rfl, ht, hkr⟩ := hrel
    have HK := Lib.hid hk
    have HT := Lib.hid ht
    have HKR := Lib.hid hkr
    have hbr := HB.out.kept hkr (by simp)
    have d3 := hbr.cell 3 rfl
    have d4 := hbr.cell 4 rfl
    clear hk ht hkr
    have hfin : ∀ W, Kept w0 W [] → RDisk W b F X s.tick := fun W hW => ⟨vl, vc, _, Ls, Cs, P, (HX.out.counts (o := s.ops + 1) (r := s.writes) (K0.out.trans hW (by simp)) ((HB.out.kept hW (by simp)).to (by simp)) (by omega) (by have := HX.out.ok.wr; omega))⟩
    have HFIN := Lib.hid hfin
    clear hfin hbr
    by_cases hlt : k < P.length
    · have k0' : (0 : Int) ≤ k := by omega
      have k1 : (k : Int) < P.length := by omega
      have hx := List.getElem?_eq_getElem hlt
      obtain ⟨cp', gp⟩ := HPS.out.at (by intro e; rw [e] at hlt; simp at hlt)
      simp only [Value.slice.injEq] at gp
      obtain ⟨rfl, _, rfl⟩ := gp
      have dk := (HPS.out.kept HKR.out (.inr (by simp))).cell hx
      rw [Nat.zero_add] at dk
      have hstep : (s.ops : Int) + 1 ∈ P.take (k + 1) → (s.ops : Int) + 1 ∈ P.take k ∨ (s.ops : Int) + 1 = P[k] := by
        intro hm
        rw [List.take_add_one, hx, List.mem_append] at hm
        rcases hm with hm | hm
        · exact .inl hm
        · simp at hm; exact .inr hm
      have HST := Lib.hid hstep
      have HXX := Lib.hid hx
      clear hstep hx
      by_cases he : P[k] = (s.ops : Int) + 1
      · have te : (P[k] == (s.ops : Int) + 1) = true := by simp [he]
        have hfs : s.fails = true := by
          show s.plan _ = true
          rw [HX.out.pof, List.contains_eq_any_beq, List.any_eq_true]
          exact ⟨P[k], List.getElem_mem hlt, by simp [he]⟩
        have HFS := Lib.hid hfs
        clear he hfs
        generalize P[k] = pk at *
        go_wp2_with fail
        go_region
        all_goals (
          go_wp2_with fail
          go_ret
          exact ⟨_, rfl, ⟨by rw [HFS.out]; rfl, HFIN.out _ HKR.out.drew⟩, K0.out.trans HKR.out.drew (by simp)⟩)
      · have te : (P[k] == (s.ops : Int) + 1) = false := by simp [he]
        have hnx : (s.ops : Int) + 1 ∉ P.take (k + 1) := fun hm => by
          rcases HST.out hm with h | h
          · exact HT.out h
          · exact he h.symm
        have HNX := Lib.hid hnx
        clear he hnx HST
        generalize P[k] = pk at *
        go_wp2_with fail
        go_region
        all_goals (
          go_wp2_with fail
          go_roundg (gk - 1)
          case measure => have := HK.out; omega
          case rel => exact ⟨k + 1, by have := HK.out; omega, by go_num, HNX.out, HKR.out.drew⟩)
    · have hkn : k = P.length := by have := HK.out; omega
      have hfs : s.fails = false := by
        show s.plan _ = false
        have h1 := HT.out
        rw [List.take_of_length_le (by omega)] at h1
        rw [HX.out.pof]
        simpa using h1
      have HFS := Lib.hid hfs
      clear hlt hfs
      subst hkn
      go_wp2_with fail
      go_ret
      exact ⟨_, rfl, ⟨by rw [HFS.out]; rfl, HFIN.out _ HKR.out⟩, K0.out.trans HKR.out (by simp)⟩
end Go.Proofs.YtlojgelidcjeaaaGreatDoor
namespace Go.Proofs.YtlojgelidcjeaaaGreatDoor
open Go.RowKit Go.Proofs.YtlojgelidcjeaaaGreatDoorLib Go.WideElems Go.Maps
set_option linter.unusedSimpArgs false
set_option linter.unusedVariables false

theorem info8s : (Tryz.prog.info? 35).map (fun i => (i.zero, i.size, i.bytes)) = some (some (.slice none 0 0), 1, 24) := by kernel_rfl
/-- a slice appended to a row of slices -/
theorem rows_append {W : World} {v u : Value} {L : List Value} (h : Rows W v L) {q T : Nat} (hq : Blk W q T [u]) (h1 : u.oneCell' = true) (hn : L.length ≤ 1000000) :
    ∃ v' w', (Builtin.append_ #[56, 56] 56 #[v, .slice (some ⟨q, 0, none⟩) 1 1]).run Tryz.prog W = .ok v' w' ∧ Rows w' v' (L ++ [u]) ∧ Kept W w' v.ownBlock.toList ∧ ∀ g, v'.ownBlock = some g → v.ownBlock = some g ∨ g = W.heap.size := by
  obtain ⟨i0, hi, hz0, hz1, hz2⟩ := info_parts info8s
  obtain ⟨v', w', hrun, hown, hg, hn', hloc⟩ := run_append_own_at (P := Tryz.prog) W 0 56 56 35 i0 _ 1 24 Tryz.underlying56 hi hz0 hz1 hz2 rfl (by decide) v L.length L h ⟨q, 0, none⟩ 1 1 [u] rfl
    (fun j x hj => by rw [Addr.add_lit]; exact hq.cell (0 + j) (by rw [Nat.zero_add]; exact hj)) (by intro x hx; simp at hx; subst hx; exact h1) (by unfold maxLen; omega) (by omega) (Nat.zero_le _)
  refine ⟨v', w', hrun, by unfold Rows; rw [List.length_append]; exact hown, Kept.grown hg _ (fun g hg => by simp [hg]), fun g hg => ?_⟩
  rcases hloc with e | e
  · exact .inl (by rw [← e]; exact hg)
  · rw [e] at hg; simp at hg; exact .inr hg.symm
/-- a disk that is being made: k of its sectors are there -/
def DiskS.made (n : Nat) (l : List Int) (k : Nat) : DiskS := ⟨n, chop n l k, List.replicate k none, fun _ => false, 0, 0, 0⟩
theorem chop_get (n : Nat) (l : List Int) (N k : Nat) (hk : k < N) : (chop n l N)[k]? = some ((l.drop (k * n)).take n) := by
  induction N generalizing l k with
  | zero => omega
  | succ N ih =>
    cases k with
    | zero => simp [chop]
    | succ k =>
      rw [chop, List.getElem?_cons_succ, ih (l.drop n) k (by omega), List.drop_drop, Nat.succ_mul, Nat.add_comm n]
theorem chop_snoc (n : Nat) (l : List Int) (k : Nat) : chop n l (k + 1) = chop n l k ++ [(l.drop (k * n)).take n] := by
  apply List.ext_getElem?
  intro i
  by_cases h1 : i < k
  · rw [List.getElem?_append_left (by rw [length_chop]; exact h1), chop_get _ _ _ _ h1, chop_get _ _ _ _ (by omega)]
  · by_cases h2 : i = k
    · subst h2
      rw [chop_get _ _ _ _ (by omega), List.getElem?_append_right (by rw [length_chop]; exact Nat.le_refl _), length_chop, Nat.sub_self]
      rfl
    · rw [List.getElem?_eq_none (by rw [length_chop]; omega), List.getElem?_eq_none (by simp [length_chop]; omega)]
set_option maxRecDepth 100000 in
set_option maxHeartbeats 4000000 in
theorem ropen_no (w : World) (size : Int) (v : Value) (bq off : Nat) (l : List Int) (hs : Sl .u8 w v bq off l) (hz0 : -9223372036854775808 ≤ size) (hz1 : size ≤ 9223372036854775807) (h : ¬ OpenOk size l) :
    Calls Tryz.prog 35 #[.int .i64 size, v] w (Post w [] fun r W => r = .pointer none) := by
  have hln := hs.len
  unfold maxLen at hln
  obtain ⟨A, c, rfl, h1, h2, h3, h4⟩ := hs
  clear h1 h2 h3 h4
  have l0 : (0 : Int) ≤ l.length := by omega
  have l1 : (l.length : Int) ≤ 9223372036854775807 := by omega
  unfold OpenOk at h
  go_enter Tryz.func35, Tryz.ntmps35
  by_cases q1 : size < 1
  · go_wp2
    go_ret
    exact ⟨_, rfl, rfl, Kept.refl _ _⟩
  by_cases q2 : 4096 < size
  · have q1' : 1 ≤ size := by omega
    go_wp2
    go_ret
    exact ⟨_, rfl, rfl, Kept.refl _ _⟩
  obtain ⟨n, rfl⟩ := Int.eq_ofNat_of_zero_le (show 0 ≤ size by omega)
  have n1 : (1 : Int) ≤ n := by omega
  have n2 : (n : Int) ≤ 4096 := by omega
  have t3 : ((n : Int) == 0) = false := by rw [beq_eq_false_iff_ne]; omega
  by_cases q3 : l.length % n ≠ 0
  · have q4 : (((l.length : Int) % (n : Int)) != 0) = true := by simp; omega
    clear h
    go_wp2
    go_ret
    exact ⟨_, rfl, rfl, Kept.refl _ _⟩
  have q3' : l.length % n = 0 := by omega
  have q4 : (((l.length : Int) % (n : Int)) != 0) = false := by simp; omega
  have q5 : ¬ l.length / n ≤ 4096 := fun e => h ⟨n1, n2, by simpa using q3', by simpa using e⟩
  have q6 : decide (4096 < (l.length : Int) / (n : Int)) = true := by simp; omega
  have q7 := wrap_quo l.length n (by omega)
  clear h q3 q3'
  go_wp2
  go_ret
  exact ⟨_, rfl, rfl, Kept.refl _ _⟩
theorem made_ok {n : Nat} {l : List Int} (h : OpenOk (n : Int) l) (hB : Bts l) (k : Nat) (hk : k ≤ l.length / n) : (DiskS.made n l k).Ok := by
  obtain ⟨h1, h2, h3, h4⟩ := h
  simp only [Int.toNat_natCast] at h3 h4
  have e := Nat.div_mul_cancel (Nat.dvd_of_mod_eq_zero h3)
  refine ⟨by show 1 ≤ n; omega, by show n ≤ 4096; omega, by show (chop _ _ _).length ≤ _; rw [length_chop]; omega, by show (List.replicate _ _).length = (chop _ _ _).length; rw [length_chop, List.length_replicate], chop_sec _ _ _ (by have := Nat.mul_le_mul_right n hk; omega) hB, ?_, Nat.zero_le _, Nat.zero_le _, Nat.zero_le _⟩
  intro x hx
  change some x ∈ List.replicate _ none at hx
  rw [List.mem_replicate] at hx
  cases hx.2
/-- one sector more -/
theorem RDiskX.push {w w1 : World} {b n k : Nat} {l : List Int} {F F' X X' : List Nat} {vl vc vl' vc' u : Value} {Ls Cs : List Value} (h : RDiskX w b F X (DiskS.made n l k) vl vc (.slice none 0 0) Ls Cs []) (hok : (DiskS.made n l (k + 1)).Ok) (hk : Kept w w1 F)
    (hb : Blk w1 b 58 [.int .i64 n, vl', vc', .slice none 0 0, .int .i64 0, .int .i64 0]) (hl : Rows w1 vl' (Ls ++ [u])) (hc : Rows w1 vc' (Cs ++ [.slice none 0 0])) (hu : Cel w1 X' u (some ((l.drop (k * n)).take n)))
    (hF : ∀ g, g ∈ X' → g ∈ X ∨ w.heap.size ≤ g) (fb : b ∈ F') (fl : ∀ g, vl'.ownBlock = some g → g ∈ F') (fc : ∀ g, vc'.ownBlock = some g → g ∈ F') (ne : ∀ g, vl'.ownBlock = some g → vc'.ownBlock ≠ some g) (fx : ∀ g, g ∈ F' → g ∈ X') (lt : ∀ g, g ∈ X' → g < w1.heap.size)
    (hsec : ∀ (i : Nat) x, (chop n l k)[i]? = some x → ∃ bb c, Ls[i]? = some (.slice (some ⟨bb, 0, none⟩) x.length c) ∧ bb < w.heap.size) : RDiskX w1 b F' X' (DiskS.made n l (k + 1)) vl' vc' (.slice none 0 0) (Ls ++ [u]) (Cs ++ [.slice none 0 0]) [] := by
  have hll : Ls.length = k := h.ll.trans (length_chop _ _ _)
  have hlc : Cs.length = k := h.lc.trans (length_chop _ _ _)
  refine ⟨hok, hb, hl, hc, ?_, ?_, ?_, ?_, Own.nil _ _ _ _, fun _ => rfl, Nat.zero_le _, by simp, fb, fl, fc, by simp [Value.ownBlock], ne, fx, lt⟩
  · show (Ls ++ [u]).length = (chop n l (k + 1)).length; rw [length_chop]; simp [hll]
  · show (Cs ++ [_]).length = (chop n l (k + 1)).length; rw [length_chop]; simp [hlc]
  · intro i x hx
    change (chop n l (k + 1))[i]? = some x at hx
    rw [chop_snoc, List.getElem?_append] at hx
    split at hx
    · rename_i hi
      obtain ⟨y, hy, hcel⟩ := h.lel i x hx
      have hi' : i < Ls.length := by rw [length_chop] at hi; omega
      refine ⟨y, by rw [List.getElem?_append_left hi']; exact hy, ?_⟩
      obtain ⟨b1, c1, e1, s1, n1⟩ := hcel
      obtain ⟨b2, c2, e2, lt2⟩ := hsec i x hx
      have : b2 = b1 := by rw [hy, e1] at e2; simp at e2; exact e2.1.symm
      subst this
      refine ⟨b2, c1, e1, s1.kept hk (.inr (fun hm => n1 (h.fx _ hm))), fun hm => ?_⟩
      rcases hF _ hm with h1 | h1
      · exact n1 h1
      · omega
    · rename_i hi
      rw [length_chop] at hi
      have hik : i - k = 0 := by
        have := (List.getElem?_eq_some_iff.1 hx).1
        rw [length_chop] at this
        simp at this; omega
      rw [length_chop, hik] at hx
      simp at hx
      subst hx
      exact ⟨u, by rw [List.getElem?_append_right (by omega), show i - Ls.length = 0 by omega]; rfl, hu⟩
  · intro i o ho
    change (List.replicate (k + 1) none)[i]? = some o at ho
    rw [List.getElem?_replicate] at ho
    split at ho
    · rename_i hi
      simp only [Option.some.injEq] at ho
      subst ho
      by_cases hik : i < k
      · obtain ⟨y, hy, hcel⟩ := h.cel i none (by show (List.replicate k none)[i]? = _; rw [List.getElem?_replicate, if_pos hik])
        exact ⟨y, by rw [List.getElem?_append_left (by omega)]; exact hy, hcel⟩
      · exact ⟨.slice none 0 0, by rw [List.getElem?_append_right (by omega), show i - Cs.length = 0 by omega]; rfl, rfl⟩
    · cases ho
end Go.Proofs.YtlojgelidcjeaaaGreatDoor
