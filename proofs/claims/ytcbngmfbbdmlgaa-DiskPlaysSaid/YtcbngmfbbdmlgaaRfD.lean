/- PROVED: the document's disk: a cell of its rows is turned; Read and Write. No conditions beyond those that each theorem states. -/
import Derived.Test.YtcbngmfbbdmlgaaRfC
import Derived.Lib.SliceRun
namespace Go.Proofs.Ytcbngmfbbdmlgaa
open Go.RowKit Go.Proofs.YtcbngmfbbdmlgaaLib Go.WideElems Go.Maps
set_option linter.unusedSimpArgs false
set_option linter.unusedVariables false

theorem neq8 (w : World) (x : Option Addr) (n c n' c' : Nat) : (binOp .neq 31 (.slice x n c) (.slice none n' c')).run Try.prog w = .ok (.bool (!x.isNone)) w := by
  simp only [binOp]
  simp [Op.equal, Op.maxDepth, Lib.run_equalIn_slice_nil w 9999 31 5 x n c n' c' Try.underlying31]
theorem neq8s (w : World) (x : Addr) (n c : Nat) : (binOp .neq 31 (.slice (some x) n c) (.slice none 0 0)).run Try.prog w = .ok (.bool true) w := neq8 w (some x) n c 0 0
theorem neq8n (w : World) : (binOp .neq 31 (.slice none 0 0) (.slice none 0 0)).run Try.prog w = .ok (.bool false) w := neq8 w none 0 0 0 0
/-- a store into a row of slices -/
theorem Rows.set {w : World} {v : Value} {L : List Value} (h : Rows w v L) {g : Nat} (hb : v.ownBlock = some g) (i : Nat) (u : Value) (hi : i < L.length) : Rows (w.setCell ⟨g, i, none⟩ u) v (L.set i u) := by
  obtain ⟨h1, ⟨rfl, _⟩ | ⟨g', cap, cur, rfl, hg, hc, h2, h3, h4, h5⟩⟩ := h
  · simp [Value.ownBlock] at hb
  · simp [Value.ownBlock] at hb
    subst hb
    rw [Nat.mul_one] at h4 h5
    refine ⟨by simp, .inr ⟨g', cap, cur.setIfInBounds i u, by simp, hg, ?_, by simpa using h2, h3, by simpa using h4, ?_⟩⟩
    · simp [World.setCell, Array.getElem?_modify, hc]
    · simp only [List.length_set, Nat.mul_one, Array.toList_setIfInBounds]
      rw [List.take_set, h5]
theorem RDisk.ok {w : World} {b : Nat} {F X : List Nat} {s : DiskS} (h : RDisk w b F X s) : s.Ok := let ⟨_, _, _, _, _, _, h⟩ := h; h.ok
theorem RDisk.fb {w : World} {b : Nat} {F X : List Nat} {s : DiskS} (h : RDisk w b F X s) : b ∈ F := let ⟨_, _, _, _, _, _, h⟩ := h; h.fb
theorem RDisk.lt {w : World} {b : Nat} {F X : List Nat} {s : DiskS} (h : RDisk w b F X s) : ∀ g, g ∈ F → g < w.heap.size := let ⟨_, _, _, _, _, _, h⟩ := h; h.lt
theorem RDiskX.drew {w : World} {b : Nat} {F X : List Nat} {s : DiskS} {vl vc vp : Value} {Ls Cs : List Value} {P : List Int} (h : RDiskX w b F X s vl vc vp Ls Cs P) : RDiskX w.drew b F X s vl vc vp Ls Cs P := h.kept (Kept.refl w []).drew
/-- a sector's cached ones are turned -/
theorem RDiskX.setc {w : World} {b : Nat} {F X : List Nat} {s : DiskS} {vl vc vp : Value} {Ls Cs : List Value} {P : List Int} (h : RDiskX w b F X s vl vc vp Ls Cs P) {g i : Nat} (hg : vc.ownBlock = some g) (hi : i < s.last.length) {u : Value} {o : Option (List Int)} (hu : Cel w X u o) (ho : ∀ l, o = some l → Sec s.size l) :
    RDiskX (w.setCell ⟨g, i, none⟩ u) b F X { s with cach := s.cach.set i o } vl vc vp Ls (Cs.set i u) P := by
  have hk : Kept w (w.setCell ⟨g, i, none⟩ u) [g] := (Kept.refl _ _).setCell (by simp) _
  have hgF := h.fc g hg
  have hS : ∀ x, x ∈ [g] → x ∈ X := fun x hx => by simp at hx; subst hx; exact h.fx _ hgF
  have n1 := h.cac.ne_cells h.blk (by decide)
  have n3 := h.cac.ne_own h.pla (by decide)
  have hic : i < Cs.length := by rw [h.lc]; exact hi
  refine ⟨⟨h.ok.s1, h.ok.s2, h.ok.n1, by show (s.cach.set i o).length = _; rw [List.length_set]; exact h.ok.nc, h.ok.ls, ?_, h.ok.op, h.ok.wr, h.ok.ma⟩, h.blk.kept hk (by simp; intro e; exact n1 (e ▸ hg)), rows_kept h.las hk (fun x hx hm => by simp at hm; subst hm; exact h.ne _ hx hg), h.cac.set hg i u hic, h.ll, by rw [List.length_set]; exact h.lc,
    fun j l hl => let ⟨y, a, c⟩ := h.lel j l hl; ⟨y, a, c.kept hk hS⟩, ?_, h.pla.kept hk (fun x hx hm => by simp at hm; subst hm; exact n3 _ hg hx), h.pof, h.pln, h.pbd, h.fb, h.fl, h.fc, h.fp, h.ne, h.fx, fun x hx => Nat.lt_of_lt_of_le (h.xlt x hx) hk.size⟩
  · intro l hl
    rcases List.mem_or_eq_of_mem_set hl with h1 | h1
    · exact h.ok.cs l h1
    · exact ho l h1.symm
  · intro j x hx
    change (s.cach.set i o)[j]? = some x at hx
    rw [List.getElem?_set] at hx
    by_cases hj : i = j
    · subst hj
      rw [if_pos rfl, if_pos (by rw [h.ok.nc]; exact hi)] at hx
      simp only [Option.some.injEq] at hx
      subst hx
      exact ⟨u, by rw [List.getElem?_set, if_pos rfl, if_pos hic], hu.kept hk hS⟩
    · rw [if_neg hj] at hx
      obtain ⟨y, a, c⟩ := h.cel j x hx
      exact ⟨y, by rw [List.getElem?_set, if_neg hj]; exact a, c.kept hk hS⟩
/-- a sector's lasting ones are turned -/
theorem RDiskX.setl {w : World} {b : Nat} {F X : List Nat} {s : DiskS} {vl vc vp : Value} {Ls Cs : List Value} {P : List Int} (h : RDiskX w b F X s vl vc vp Ls Cs P) {g i : Nat} (hg : vl.ownBlock = some g) (hi : i < s.last.length) {u : Value} {l : List Int} (hu : Cel w X u (some l)) (ho : Sec s.size l) :
    RDiskX (w.setCell ⟨g, i, none⟩ u) b F X { s with last := s.last.set i l } vl vc vp (Ls.set i u) Cs P := by
  have hk : Kept w (w.setCell ⟨g, i, none⟩ u) [g] := (Kept.refl _ _).setCell (by simp) _
  have hgF := h.fl g hg
  have hS : ∀ x, x ∈ [g] → x ∈ X := fun x hx => by simp at hx; subst hx; exact h.fx _ hgF
  have n1 := h.las.ne_cells h.blk (by decide)
  have n3 := h.las.ne_own h.pla (by decide)
  have hic : i < Ls.length := by rw [h.ll]; exact hi
  have hlen : (s.last.set i l).length = s.last.length := List.length_set
  refine ⟨⟨h.ok.s1, h.ok.s2, by show (s.last.set i l).length ≤ _; rw [hlen]; exact h.ok.n1, by show _ = (s.last.set i l).length; rw [hlen]; exact h.ok.nc, ?_, h.ok.cs, h.ok.op, h.ok.wr, h.ok.ma⟩, h.blk.kept hk (by simp; intro e; exact n1 (e ▸ hg)), h.las.set hg i u hic, rows_kept h.cac hk (fun x hx hm => by simp at hm; subst hm; exact h.ne _ hg hx), by rw [List.length_set]; exact h.ll.trans hlen.symm, h.lc.trans hlen.symm,
    ?_, fun j l hl => let ⟨y, a, c⟩ := h.cel j l hl; ⟨y, a, c.kept hk hS⟩, h.pla.kept hk (fun x hx hm => by simp at hm; subst hm; exact n3 _ hg hx), h.pof, h.pln, h.pbd, h.fb, h.fl, h.fc, h.fp, h.ne, h.fx, fun x hx => Nat.lt_of_lt_of_le (h.xlt x hx) hk.size⟩
  · intro x hx
    rcases List.mem_or_eq_of_mem_set hx with h1 | h1
    · exact h.ok.ls x h1
    · exact h1 ▸ ho
  · intro j x hx
    change (s.last.set i l)[j]? = some x at hx
    rw [List.getElem?_set] at hx
    by_cases hj : i = j
    · subst hj
      rw [if_pos rfl, if_pos hi] at hx
      simp only [Option.some.injEq] at hx
      subst hx
      exact ⟨u, by rw [List.getElem?_set, if_pos rfl, if_pos hic], hu.kept hk hS⟩
    · rw [if_neg hj] at hx
      obtain ⟨y, a, c⟩ := h.lel j x hx
      exact ⟨y, by rw [List.getElem?_set, if_neg hj]; exact a, c.kept hk hS⟩
/-- more of its own blocks: no -/
theorem read_some {s : DiskS} {j : Nat} {l : List Int} (hf : s.fails = false) (hj : j < s.last.length) (hc : s.cach[j]? = some (some l)) : s.read (j : Int) = (l, 0) := by
  unfold DiskS.read
  rw [if_neg (by simp [hf]), if_neg (by omega)]
  simp [hc]
theorem read_none {s : DiskS} {j : Nat} {l : List Int} (hf : s.fails = false) (hj : s.last[j]? = some l) (hc : s.cach[j]? = some none) : s.read (j : Int) = (l, 0) := by
  have := (List.getElem?_eq_some_iff.1 hj).1
  unfold DiskS.read
  rw [if_neg (by simp [hf]), if_neg (by omega)]
  simp [hc, hj]
set_option maxRecDepth 100000 in
set_option maxHeartbeats 4000000 in
theorem rread_any (w : World) (b : Nat) (F X : List Nat) (s : DiskS) (h : RDisk w b F X s) (ho : s.ops < 1000000000) (i : Int) :
    Calls Try.prog 28 #[.pointer (some ⟨b, 0, none⟩), .int .i64 i] w (Post w [b] fun v W => ∃ r, v = .tuple #[r, .int .i64 (s.read i).2] ∧ Own 5 .u8 W w.heap.size r (s.read i).1 ∧ RDisk W b F X s.tick) := by
  have hok := h.ok
  have hn1 := hok.n1
  have hs1 := hok.s1
  have hs2 := hok.s2
  have HO := Lib.hid hok
  have hn1i : (s.last.length : Int) ≤ 4096 := by omega
  clear hok
  go_enter Try.func28, Try.ntmps28
  go_wp2_with fail
  (with_reducible refine (rfails_any w b F X s h ho).mono ?_)
  rintro _ w1 ⟨_, rfl, ⟨rfl, h1⟩, k1⟩
  have H1 := Lib.hid h1
  have K1 := Lib.hid k1
  clear h h1 k1
  by_cases hf : s.fails = true
  · go_wp2_with fail
    go_ret2
    have e : s.read i = ([], 3) := by simp [DiskS.read, hf]
    refine ⟨_, rfl, ⟨_, by rw [e]; rfl, ?_, H1.out⟩, K1.out⟩
    rw [e]; exact Own.nil _ _ _ _
  replace hf : s.fails = false := by simpa using hf
  by_cases hneg : i < 0
  · go_wp2_with fail
    go_ret2
    have e : s.read i = ([], 2) := by simp [DiskS.read, hf, hneg]
    refine ⟨_, rfl, ⟨_, by rw [e]; rfl, ?_, H1.out⟩, K1.out⟩
    rw [e]; exact Own.nil _ _ _ _
  have hpos : 0 ≤ i := by omega
  obtain ⟨vl, vc, vp, Ls, Cs, P, hx⟩ := H1.out
  have hll : Ls.length = s.last.length := hx.ll
  have hlc : Cs.length = s.last.length := hx.lc
  obtain ⟨Al, cl, rfl, _, _⟩ := hx.las.form
  obtain ⟨Ac, cc, rfl, _, _⟩ := hx.cac.form
  have c1 := hx.blk.cell 1 rfl
  have c2 := hx.blk.cell 2 rfl
  have n1 := neq8s
  have n2 := neq8n
  rw [hll] at c1
  rw [hlc] at c2
  by_cases hout : (s.last.length : Int) ≤ i
  · clear hx hll hlc
    go_wp2_with fail
    go_ret2
    have e : s.read i = ([], 2) := by simp [DiskS.read, hf, hout]
    refine ⟨_, rfl, ⟨_, by rw [e]; rfl, ?_, H1.out⟩, K1.out⟩
    rw [e]; exact Own.nil _ _ _ _
  have hin : i < (s.last.length : Int) := by omega
  obtain ⟨j, rfl⟩ := Int.eq_ofNat_of_zero_le hpos
  have hj : j < s.last.length := by omega
  obtain ⟨x, hxl⟩ : ∃ x, s.last[j]? = some x := ⟨_, List.getElem?_eq_getElem hj⟩
  obtain ⟨o, hxc⟩ : ∃ o, s.cach[j]? = some o := ⟨_, List.getElem?_eq_getElem (by rw [HO.out.nc]; exact hj)⟩
  obtain ⟨i0, hi, hz0, hz1, hz2⟩ := info_parts info8
  have hE : Own 5 .u8 (w1.alloc (.cells #[] 5)) w1.heap.size (.slice (some ⟨w1.heap.size, 0, none⟩) 0 0) [] := World.ownsRow_made (base := w1.heap.size) (e := 5) (size := 1) w1 #[] 0 (Nat.le_refl _) (Nat.zero_le _) rfl
  have kE : Kept w1 (w1.alloc (.cells #[] 5)) [] := (Kept.refl _ _).alloc _
  obtain ⟨uc, huc, hcc⟩ := hx.cel j o hxc
  obtain ⟨gc, cc', ec, dc, _, _, _⟩ := hx.cac.cell huc
  obtain ⟨rfl, _, rfl⟩ : Ac = some ⟨gc, 0, none⟩ ∧ Cs.length = Cs.length ∧ cc = cc' := by simpa using ec
  cases o with
  | some l =>
    obtain ⟨bb, cb, rfl, hsl, _⟩ := hcc
    have hsec := HO.out.cs l (List.mem_of_getElem? hxc)
    have E := Lib.hid (read_some hf hj hxc)
    have hl1 := hsec.1
    obtain ⟨v7, w7, hap, ho7, k7⟩ := own_append (P := Try.prog) Try.underlying31 hi hz0 hz1 hz2 hE (hsl.kept kE (.inr (by simp))) (by simp; omega) (by unfold maxLen; simp; omega) (by simp) 31
    rw [List.nil_append] at ho7
    have K7 := Lib.hid (kE.trans k7 (by simp [Value.ownBlock]))
    have HAP := Lib.hid hap
    have HO7 := Lib.hid ho7
    have c2' := Lib.cell?_alloc_some (.cells #[] 5) c2
    have dc' := Lib.cell?_alloc_some (.cells #[] 5) dc
    clear hx hll hlc hap ho7 k7 kE hE hsl hsec hl1 hi hz0 hz1 hz2 huc ec hxc
    go_wp2_with (first | (at_builtin; refine wpList_append_run rfl _ _ _ rfl rfl rfl HAP.out ?_))
    go_ret2
    refine ⟨_, rfl, ⟨_, by rw [E.out]; rfl, ?_, H1.out.kept K7.out⟩, K1.out.trans K7.out (by simp)⟩
    rw [E.out]; exact Own.mono HO7.out K1.out.size
  | none =>
    obtain rfl := hcc
    obtain ⟨ul, hul, hcl⟩ := hx.lel j x hxl
    obtain ⟨gl, cl', el, dl, _, _, _⟩ := hx.las.cell hul
    obtain ⟨rfl, _, rfl⟩ : Al = some ⟨gl, 0, none⟩ ∧ Ls.length = Ls.length ∧ cl = cl' := by simpa using el
    obtain ⟨bb, cb, rfl, hsl, _⟩ := hcl
    have hsec := HO.out.ls x (List.mem_of_getElem? hxl)
    have E := Lib.hid (read_none hf hxl hxc)
    have hl1 := hsec.1
    obtain ⟨v7, w7, hap, ho7, k7⟩ := own_append (P := Try.prog) Try.underlying31 hi hz0 hz1 hz2 hE (hsl.kept kE (.inr (by simp))) (by simp; omega) (by unfold maxLen; simp; omega) (by simp) 31
    rw [List.nil_append] at ho7
    have K7 := Lib.hid (kE.trans k7 (by simp [Value.ownBlock]))
    have HAP := Lib.hid hap
    have HO7 := Lib.hid ho7
    have c1' := Lib.cell?_alloc_some (.cells #[] 5) c1
    have dl' := Lib.cell?_alloc_some (.cells #[] 5) dl
    clear hx hll hlc hap ho7 k7 kE hE hsl hsec hl1 hi hz0 hz1 hz2 huc hul ec el hxc hxl
    go_wp2_with (first | (at_builtin; refine wpList_append_run rfl _ _ _ rfl rfl rfl HAP.out ?_))
    go_ret2
    refine ⟨_, rfl, ⟨_, by rw [E.out]; rfl, ?_, H1.out.kept K7.out⟩, K1.out.trans K7.out (by simp)⟩
    rw [E.out]; exact Own.mono HO7.out K1.out.size
end Go.Proofs.Ytcbngmfbbdmlgaa
