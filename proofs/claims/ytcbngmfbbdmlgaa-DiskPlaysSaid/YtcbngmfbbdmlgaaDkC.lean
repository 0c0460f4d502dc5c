/- PROVED: the contracts of disk.Write and disk.Fail. No conditions beyond those that each theorem states. -/
import Derived.Test.YtcbngmfbbdmlgaaDkB
import Derived.Deep.RegionHeld3
namespace Go.Proofs.Ytcbngmfbbdmlgaa
open Go.RowKit Go.Proofs.YtcbngmfbbdmlgaaLib Go.WideElems Go.Maps Go.ChangeMaps
set_option linter.unusedSimpArgs false
set_option linter.unusedVariables false

theorem DiskX.more {w : World} {b : Nat} {F F' : List Nat} {s : DiskS} {vl : Value} {bc bp nc : Nat} {Dc : DataW Value} {np : Nat} {Dp : DataW Value} (h : DiskX w b F s vl bc bp nc Dc np Dp) (hF : ∀ g, g ∈ F → g ∈ F') (hl : ∀ g, g ∈ F' → g < w.heap.size) : DiskX w b F' s vl bc bp nc Dc np Dp :=
  ⟨h.ok, h.blk, h.las, h.cac, h.ncl, ⟨h.cof.no, fun i l hi => let ⟨v, h1, h2, h3, h4⟩ := h.cof.yes i l hi; ⟨v, h1, h2, h3, fun g hg => ⟨hF g (h4 g hg).1, (h4 g hg).2⟩⟩, h.cof.key⟩, h.pla, h.npl, h.pof, h.ne, hF _ h.fb, hF _ h.fc, hF _ h.fp, fun g hg => hF g (h.fl g hg), hl⟩
/-- a sector is cached -/
theorem DiskX.stored {w w1 : World} {b : Nat} {F F' : List Nat} {s : DiskS} {vl : Value} {bc bp nc : Nat} {Dc : DataW Value} {np : Nat} {Dp : DataW Value} (h : DiskX w b F s vl bc bp nc Dc np Dp) {i : Nat} {v : Value} {l : List Int} (hF : ∀ g, g ∈ F → g ∈ F') (hlt : ∀ g, g ∈ F' → g < w1.heap.size) (hk : Kept w w1 [b, bc])
    (hb : Blk w1 b 60 [.int .i64 s.size, vl, .map (some bc), .map (some bp), .int .i64 s.ops, .int .i64 (s.writes + 1 : Nat)]) (hm : w1.ownsMap Try.prog 3 heldR bc (nc + 1) (Dc.put (.int .i64 i) (.held v))) (hv : Row8 w1 v l)
    (hg : ∀ g, v.ownBlock = some g → g ∈ F' ∧ vl.ownBlock ≠ some g) (hi : i < s.cach.length) (hl : Sec s.size l) (hw : s.writes + 1 ≤ s.ops) : DiskX w1 b F' { s with cach := s.cach.set i (some l), writes := s.writes + 1 } vl bc bp (nc + 1) (Dc.put (.int .i64 i) (.held v)) np Dp := by
  have hne : ∀ j : Nat, j ≠ i → (Lit.int .i64 (j : Int)) ≠ .int .i64 (i : Int) := fun j hj e => hj (by injection e with _ e; omega)
  have hIs := h.cac.isMap
  have hb1 := Own.ne_cells h.las h.blk (by decide)
  have hb2 := Own.ne_map h.las h.cac
  have hb3 := Blk.ne_map h.blk h.pla
  have hget : ∀ (j : Nat), (s.cach.set i (some l))[j]?.join = if j = i then some l else s.cach[j]?.join := by
    intro j
    rw [List.getElem?_set]
    by_cases hj : i = j
    · subst hj; simp [hi]
    · rw [if_neg hj, if_neg (fun e => hj e.symm)]
  refine ⟨⟨h.ok.s1, h.ok.s2, h.ok.n1, ?_, h.ok.ls, ?_, h.ok.op, hw, h.ok.ma⟩, hb, h.las.kept hk ?_, hm, Nat.succ_le_succ h.ncl, ⟨?_, ?_, ?_⟩, map_kept h.pla hk ?_, h.npl, h.pof, h.ne, hF _ h.fb, hF _ h.fc, hF _ h.fp, fun g hg => hF g (h.fl g hg), hlt⟩
  · show (s.cach.set i (some l)).length = s.last.length
    rw [List.length_set]; exact h.ok.nc
  · intro x hx
    rcases List.mem_or_eq_of_mem_set hx with h1 | h1
    · exact h.ok.cs x h1
    · simp only [Option.some.injEq] at h1; exact h1 ▸ hl
  · intro g hgl hm
    simp at hm
    rcases hm with rfl | rfl
    · exact hb1 hgl
    · exact hb2 hgl
  · intro j hj hn
    change j < (s.cach.set i (some l)).length at hj
    change (s.cach.set i (some l))[j]?.join = none at hn
    rw [hget] at hn
    split at hn
    · cases hn
    · rename_i hji
      rw [Maps.has_put_other (hne j hji)]
      exact h.cof.no j (by simpa using hj) hn
  · intro j x hx
    change (s.cach.set i (some l))[j]?.join = some x at hx
    rw [hget] at hx
    split at hx
    · rename_i hji
      subst hji
      simp only [Option.some.injEq] at hx
      subst hx
      exact ⟨v, Maps.has_put_same hIs (by simp [WideAt.IsKeyLit]) _, fun z => Maps.atKey_put_same hIs (by simp [WideAt.IsKeyLit]) _ z, hv, hg⟩
    · rename_i hji
      obtain ⟨v', h1, h2, h3, h4⟩ := h.cof.yes j x hx
      refine ⟨v', by rw [Maps.has_put_other (hne j hji)]; exact h1, fun z => by rw [Maps.atKey_put_other (hne j hji)]; exact h2 z, h3.kept hk (fun g hgv hm => ?_), fun g hg => ⟨hF g (h4 g hg).1, (h4 g hg).2⟩⟩
      have n1 := Own.ne_cells h3 h.blk (by decide)
      have n2 := Own.ne_map h3 h.cac
      simp at hm
      rcases hm with rfl | rfl
      · exact n1 hgv
      · exact n2 hgv
  · intro kl hkl
    by_cases e : kl = .int .i64 (i : Int)
    · exact ⟨i, by show i < (s.cach.set i (some l)).length; simpa using hi, e⟩
    · rw [Maps.has_put_other e] at hkl
      obtain ⟨j, hj, e⟩ := h.cof.key kl hkl
      exact ⟨j, by show j < (s.cach.set i (some l)).length; simpa using hj, e⟩
  · simp; exact ⟨fun e => hb3 e.symm, fun e => h.ne e.symm⟩
theorem DiskX.drew {w : World} {b : Nat} {F : List Nat} {s : DiskS} {vl : Value} {bc bp nc : Nat} {Dc : DataW Value} {np : Nat} {Dp : DataW Value} (h : DiskX w b F s vl bc bp nc Dc np Dp) : DiskX w.drew b F s vl bc bp nc Dc np Dp :=
  h.kept (S := []) (Kept.refl w []).drew (by simp)
/-- what a Write, a Crash .. leaves: the disk, with blocks that it had or new ones -/
def DiskOn (w : World) (n b : Nat) (F : List Nat) (s : DiskS) : Prop := ∃ F', (∀ g, g ∈ F' → g ∈ F ∨ n ≤ g) ∧ DiskAt w b F' s
theorem DiskX.store {w w3 : World} {b : Nat} {F : List Nat} {s : DiskS} {vl : Value} {bc bp nc : Nat} {Dc : DataW Value} {np : Nat} {Dp : DataW Value} (h : DiskX w b F s vl bc bp nc Dc np Dp) (k3 : Kept w w3 []) (j : Nat) (hj : j < s.last.length) (v : Value) :
    ∃ w4, (Instr.mapUpdate 57 (.map (some bc)) (.int .i64 j) v).run Try.prog w3 = .ok () w4 ∧ w4.ownsMap Try.prog 3 heldR bc (nc + 1) (Dc.put (.int .i64 j) (.held v)) ∧ Kept w w4 [bc] ∧ Kept w3 w4 [bc] ∧ w4.cell? ⟨b, 2, none⟩ = some (.map (some bc)) := by
  have hm3 := map_kept h.cac k3 (by simp)
  have h1 := h.ncl
  have h2 := h.ok.wr
  have h3 := h.ok.op
  have h4 := h.ok.n1
  obtain ⟨w4, hrun, hm4, ht4⟩ := hm3.store keyedI Try.underlying57 (by unfold maxLen; omega) (keyi (x := j) (by omega) (by omega)) (val := v) (d := .held v) (ps := []) rfl
  have k4 := kept_turned (Kept.refl w3 [bc]) ht4 (.inl (by simp))
  have k5 := kept_turned (k3.mono (S2 := [bc]) (by simp)) ht4 (.inl (by simp))
  exact ⟨w4, hrun, hm4, k5, k4, k5.cell (h.blk.cell 2 rfl) (by have := Blk.ne_map h.blk h.cac; simpa using this)⟩
set_option maxRecDepth 100000 in
set_option maxHeartbeats 4000000 in
theorem write_any (w : World) (b : Nat) (F : List Nat) (s : DiskS) (h : DiskAt w b F s) (ho : s.ops < 1000000000) (i : Int) (v : Value) (bq off : Nat) (l : List Int) (hs : Sl .u8 w v bq off l) (hq : l = [] ∨ bq ∉ F) (hB : Bts l) :
    Calls Try.prog 20 #[.pointer (some ⟨b, 0, none⟩), .int .i64 i, v] w (Post w F fun r W => r = .int .i64 (s.write i l).2 ∧ DiskOn W w.heap.size b F (s.write i l).1) := by
  have hok := h.ok
  have hn1 := hok.n1
  have hs1 := hok.s1
  have hs2 := hok.s2
  have hfb := h.fb
  have HLEN := Lib.hid hs.len
  have HQ := Lib.hid hq
  have HBT := Lib.hid hB
  have HSL := Lib.hid hs
  have HO := Lib.hid hok
  have hn1i : (s.last.length : Int) ≤ 4096 := by omega
  obtain ⟨A, c, rfl, h1, h2, h3, h4⟩ := hs
  have HF := Lib.hid hfb
  clear hok h1 h2 h3 h4 hq hB hfb
  go_enter Try.func20, Try.ntmps20
  go_wp2_with fail
  refine (fails_any w b F s h ho).mono ?_
  rintro _ w1 ⟨_, rfl, ⟨rfl, h1⟩, k1⟩
  have K1 := Lib.hid (k1.mono (S2 := F) (fun g hg => by simp at hg; subst hg; exact .inl HF.out))
  have HSL1 := Lib.hid (HSL.out.kept k1 (HQ.out.imp id (fun hq hm => by simp at hm; subst hm; exact hq HF.out)))
  have H1 := Lib.hid h1
  clear h h1 k1 HSL
  by_cases hf : s.fails = true
  · go_wp2_with fail
    go_ret
    have e : s.write i l = (s.tick, 3) := by simp [DiskS.write, hf]
    refine ⟨_, rfl, ⟨by rw [e]; rfl, ?_⟩, K1.out⟩
    rw [e]; exact ⟨F, fun g hg => .inl hg, H1.out⟩
  replace hf : s.fails = false := by simpa using hf
  by_cases hneg : i < 0
  · go_wp2_with fail
    go_ret
    have e : s.write i l = (s.tick, 2) := by simp [DiskS.write, hf, hneg]
    refine ⟨_, rfl, ⟨by rw [e]; rfl, ?_⟩, K1.out⟩
    rw [e]; exact ⟨F, fun g hg => .inl hg, H1.out⟩
  have hpos : 0 ≤ i := by omega
  go_wp2_with fail
  refine (sectors_any w1 b F s.tick H1.out).mono ?_
  rintro _ w2 ⟨_, rfl, rfl, k2⟩
  have h2 := H1.out.kept k2 (by simp)
  have K2 := Lib.hid (K1.out.trans k2 (by simp))
  have HSL2 := Lib.hid (HSL1.out.kept k2 (.inr (by simp)))
  have e0 : s.tick.last = s.last := rfl
  rw [e0]
  clear e0 k2 HSL1 K1 H1
  replace h2 := Lib.hid h2
  by_cases hout : (s.last.length : Int) ≤ i
  · go_wp2_with fail
    go_ret
    have e : s.write i l = (s.tick, 4) := by simp [DiskS.write, hf, hout, hneg]
    refine ⟨_, rfl, ⟨by rw [e]; rfl, ?_⟩, K2.out⟩
    rw [e]; exact ⟨F, fun g hg => .inl hg, h2.out⟩
  have hin : i < (s.last.length : Int) := by omega
  obtain ⟨j, rfl⟩ := Int.eq_ofNat_of_zero_le hpos
  have hj : j < s.last.length := by omega
  obtain ⟨vl, bc, bp, nc, Dc, np, Dp, hx⟩ := h2.out
  have c0 : w2.cell? ⟨b, 0, none⟩ = some (.int .i64 s.size) := hx.blk.cell 0 rfl
  have c2 := hx.blk.cell 2 rfl
  have HX := Lib.hid hx
  clear hx h2
  by_cases hln : l.length ≠ s.size
  · have hd : ((l.length : Int) != (s.size : Int)) = true := by simp; omega
    go_wp2_with fail
    go_ret
    have e : s.write (j : Int) l = (s.tick, 1) := by unfold DiskS.write; rw [if_neg (by simp [hf]), if_neg (by omega), if_neg (by omega), if_pos hln]
    refine ⟨_, rfl, ⟨by rw [e]; rfl, ?_⟩, K2.out⟩
    rw [e]; exact ⟨F, fun g hg => .inl hg, vl, bc, bp, nc, Dc, np, Dp, HX.out⟩
  replace hln : l.length = s.size := by omega
  have hd : ((l.length : Int) != (s.size : Int)) = false := by simp; omega
  have e : s.write (j : Int) l = ({ s.tick with cach := s.cach.set j (some l), writes := s.writes + 1 }, 0) := by
    unfold DiskS.write
    rw [if_neg (by simp [hf]), if_neg (by omega), if_neg (by omega), if_neg (by omega)]
    rfl
  have E := Lib.hid e
  have HLN := Lib.hid hln
  have hwr := HO.out.wr
  clear e hln
  have C3 := HX.out.cac
  have hgx := HSL2.out
  have c2d : w2.drew.cell? ⟨b, 2, none⟩ = some (.map (some bc)) := c2
  go_wp2_with fail
  go_region_held3 (fun W => W.cell? ⟨b, 2, none⟩ = some (.map (some bc))) (first | (with_reducible exact c2d) | (with_reducible exact c3) | (with_reducible exact c4) | go_keep) (first | (
    go_at_call 33
    refine (clone_any _ _ bq off l HSL2.out.drew (by have := HLN.out; omega)).mono ?_
    rintro _ w3 ⟨v, rfl, hv, k3⟩
    have c3 := k3.cell (w := w2.drew) c2 (by simp)
    obtain ⟨w4, hrun, hm4, k5, k4, c4⟩ := HX.out.drew.store k3 j hj v
    replace hm4 := Lib.hid hm4
    ))
  have hc5 : w4.cell? ⟨b, 5, none⟩ = some (.int .i64 s.writes) := k5.cell (HX.out.drew.blk.cell 5 rfl) (by have := Blk.ne_map HX.out.blk HX.out.cac; simpa using this)
  have hb4 := HX.out.drew.blk.kept k5 (by have := Blk.ne_map HX.out.blk HX.out.cac; simpa using this)
  have f5 := hb4.free 5
  have w0 : (0 : Int) ≤ s.writes := by omega
  have w1' : (s.writes : Int) ≤ 1000000000 := by omega
  have HB5 := Lib.hid (hb4.set 5 (.int .i64 ((s.writes : Int) + 1)))
  have K5 := Lib.hid k5
  have KG := Lib.hid k4
  clear hb4 k5 k4 c4 c3 hrun k3
  go_wp2_with fail
  go_ret
  have hx := HX.out
  have kk := (K5.out.mono (S2 := [b, bc]) (by simp)).setCell (p := ⟨b, 5, none⟩) (by simp) (.int .i64 ((s.writes : Int) + 1))
  have hgv : ∀ g, v.ownBlock = some g → w2.heap.size ≤ g ∧ g < w4.heap.size := by
    intro g hg
    have h1 := Own.lt hv g hg
    exact ⟨h1.1, Nat.lt_of_lt_of_le h1.2 KG.out.size⟩
  have hv4 := (Own.mono (hv.kept KG.out (by
    intro g hg hm
    have h1 := hgv g hg
    have h2 := hx.lt bc hx.fc
    simp at hm
    omega)) (Nat.zero_le _)).far (p := ⟨b, 5, none⟩) (by
    intro hg
    have h1 := hgv _ hg
    have h2 := hx.lt b hx.fb
    dsimp only at h1
    omega) (.int .i64 ((s.writes : Int) + 1))
  have k6 : Kept w2 w4 [bc] := (Kept.refl w2 [bc]).drew.trans K5.out (fun g hg => .inl hg)
  have hlt : ∀ g, g ∈ v.ownBlock.toList ++ F → g < w2.heap.size ∨ v.ownBlock = some g := by
    intro g hg
    simp only [List.mem_append, Option.mem_toList] at hg
    rcases hg with hg | hg
    · exact .inr hg
    · exact .inl (hx.lt g hg)
  refine ⟨_, rfl, ⟨by rw [E.out]; rfl, ?_⟩, (K2.out.trans (k6.mono (S2 := F) (fun g hg => by simp at hg; subst hg; exact .inl hx.fc)) (fun g hg => .inl hg)).setCell (.inl hx.fb) _⟩
  rw [E.out]
  refine ⟨v.ownBlock.toList ++ F, ?_, vl, bc, bp, nc + 1, Dc.put (.int .i64 j) (.held v), np, Dp, ?_⟩
  · intro g hg
    simp only [List.mem_append, Option.mem_toList] at hg
    rcases hg with hg | hg
    · exact .inr (Nat.le_trans K2.out.size (hgv g hg).1)
    · exact .inl hg
  have hx1 : DiskX (w4.setCell ⟨b, 5, none⟩ (.int .i64 ((s.writes : Int) + 1))) b (v.ownBlock.toList ++ F) { s.tick with cach := s.tick.cach.set j (some l), writes := s.tick.writes + 1 } vl bc bp (nc + 1) (Dc.put (.int .i64 j) (.held v)) np Dp := by
    have hsz := kk.size
    have hx0 := (hx.kept (S := []) (Kept.refl w2 []) (by simp))
    have hbig : ∀ g, g ∈ v.ownBlock.toList ++ F → g < (w4.setCell ⟨b, 5, none⟩ (.int .i64 ((s.writes : Int) + 1))).heap.size := by
      intro g hg
      rcases hlt g hg with h | h
      · have : w2.heap.size ≤ _ := kk.size
        omega
      · have := (hgv g h).2
        simp [World.setCell]
        exact this
    obtain ⟨a1, a2, a3, a4, a5, a6, a7, a8, a9, a10, a11, a12, a13, a14, a15⟩ := hx
    have hx' : DiskX w2 b F s.tick vl bc bp nc Dc np Dp := ⟨a1, a2, a3, a4, a5, a6, a7, a8, a9, a10, a11, a12, a13, a14, a15⟩
    have hst := hx'.stored (F' := v.ownBlock.toList ++ F) (v := v) (l := l) (i := j) (w1 := w4.setCell ⟨b, 5, none⟩ (.int .i64 ((s.writes : Int) + 1)))
      (fun g hg => by simp [hg]) hbig ((Kept.refl w2 _).drew.trans kk (fun g hg => .inl hg)) (HB5.out.to (by simp; rfl)) (hm4.out.setCell (by have := Blk.ne_map hx'.blk hx'.cac; exact fun e => this e.symm) _) hv4
      (fun g hg => ⟨by simp [hg], fun e => by have h1 := (hgv g hg).1; have h2 := hx'.lt g (hx'.fl g e); omega⟩) (by have := HO.out.nc; show j < s.cach.length; omega) ⟨HLN.out, HBT.out⟩ (by show s.writes + 1 ≤ s.ops + 1; omega)
    exact hst
  exact hx1
theorem fail_any (w : World) (b : Nat) (F : List Nat) (s : DiskS) (h : DiskAt w b F s) (hm : s.marks < 1000000000) (n : Int) (h0 : -9223372036854775808 ≤ n) (h1 : n ≤ 9223372036854775807) :
    Calls Try.prog 26 #[.pointer (some ⟨b, 0, none⟩), .int .i64 n] w (Post w F fun r W => r = .tuple #[] ∧ DiskAt W b F (s.fail n)) := by
  obtain ⟨vl, bc, bp, nc, Dc, np, Dp, h⟩ := h
  have c3 := h.blk.cell 3 rfl
  have HX := Lib.hid h
  have hz := zeroMark
  obtain ⟨w4, hrun, hm4, ht4⟩ := h.pla.store keyedI Try.underlying58 (by have := h.npl; unfold maxLen; omega) (keyi (x := n) h0 h1) (val := .agg #[]) Go.unitElem_mk
  have k4 := Lib.hid (kept_turned (Kept.refl w [bp]) ht4 (.inl (by simp)))
  replace hm4 := Lib.hid hm4
  clear h ht4
  go_enter Try.func26, Try.ntmps26
  go_wp2_with fail
  refine bodyPost_ret (v := .tuple #[]) (by simp [results, Try.results26, go_sem]) rfl ?_
  have hx := HX.out
  have hbp := Blk.ne_map hx.blk hx.pla
  have hne : ∀ m : Int, m ≠ n → (Lit.int .i64 m) ≠ .int .i64 n := fun m hj e => hj (by injection e)
  refine ⟨_, rfl, ⟨rfl, vl, bc, bp, nc, Dc, np + 1, Dp.put (.int .i64 n) (.agg []), ?_⟩, k4.out.mono (fun g hg => by simp at hg; subst hg; exact .inl hx.fp)⟩
  refine ⟨⟨hx.ok.s1, hx.ok.s2, hx.ok.n1, hx.ok.nc, hx.ok.ls, hx.ok.cs, hx.ok.op, hx.ok.wr, by show s.marks + 1 ≤ _; omega⟩, hx.blk.kept k4.out (by simpa using hbp), hx.las.kept k4.out ?_, map_kept hx.cac k4.out (by simpa using hx.ne), hx.ncl,
    hx.cof.kept' k4.out ?_, hm4.out, Nat.succ_le_succ hx.npl, ?_, hx.ne, hx.fb, hx.fc, hx.fp, hx.fl, fun g hg => Nat.lt_of_lt_of_le (hx.lt g hg) k4.out.size⟩
  · intro g hg hm
    have := Own.ne_map hx.las hx.pla
    simp at hm
    subst hm
    exact this hg
  · intro v l g hv hg hF hn
    refine ⟨fun hm => ?_, hF, hn⟩
    have := Own.ne_map hv hx.pla
    simp at hm
    subst hm
    exact this hg
  · intro m
    show Maps.has (Dp.put (.int .i64 n) (.agg [])) (.int .i64 m) = (s.plan m || m == n)
    by_cases e : m = n
    · subst e
      rw [Maps.has_put_same hx.pla.isMap (by simp [WideAt.IsKeyLit])]
      simp
    · rw [Maps.has_put_other (hne m e), hx.pof]
      simp [e]
end Go.Proofs.Ytcbngmfbbdmlgaa
