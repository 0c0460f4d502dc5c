/- PROVED: the contracts of disk.fails, Sectors, Size, Ops, Writes, at, Bytes and Read. No conditions beyond those that each theorem states. -/
import Derived.Test.YtcbngmfbbdmlgaaDkA
namespace Go.Proofs.Ytcbngmfbbdmlgaa
open Go.RowKit Go.Proofs.YtcbngmfbbdmlgaaLib Go.WideElems Go.Maps
set_option linter.unusedSimpArgs false
set_option linter.unusedVariables false

theorem zeroMark (w : World) : (zeroValue 69).run Try.prog w = .ok (.agg #[]) w := by kernel_rfl
theorem zero8s (w : World) : (zeroValue 31).run Try.prog w = .ok (.slice none 0 0) w := by kernel_rfl
/-- is a number planned? -/
theorem look_plan {w : World} {b n : Nat} {D : DataW Value} (h : w.ownsMap Try.prog 3 Go.unitElem b n D) {x : Int} (h0 : -9223372036854775808 ≤ x) (h1 : x ≤ 9223372036854775807) :
    (Instr.lookup 58 (.map (some b)) (.int .i64 x) true).run Try.prog w = .ok (.tuple #[.agg #[], .bool (Maps.has D (.int .i64 x))]) w := by
  obtain ⟨v, ps, hr, hv⟩ := h.look_ok keyedI Try.underlying58 (zeroMark w) Go.unitElem_mk (keyi h0 h1)
  obtain ⟨rfl, _⟩ := Go.unitElem_inv hv
  exact hr
theorem CachOf.kept' {w w1 : World} {F F' : List Nat} {vl vl' : Value} {D : DataW Value} {c : List (Option (List Int))} {S : List Nat} (h : CachOf w F vl D c) (hk : Kept w w1 S)
    (hS : ∀ v l g, Row8 w v l → v.ownBlock = some g → g ∈ F → vl.ownBlock ≠ some g → g ∉ S ∧ g ∈ F' ∧ vl'.ownBlock ≠ some g) : CachOf w1 F' vl' D c :=
  ⟨h.no, fun i l hi => let ⟨v, h1, h2, h3, h4⟩ := h.yes i l hi; ⟨v, h1, h2, h3.kept hk (fun g hg => (hS v l g h3 hg (h4 g hg).1 (h4 g hg).2).1), fun g hg => (hS v l g h3 hg (h4 g hg).1 (h4 g hg).2).2⟩, h.key⟩
/-- only the counts have turned -/
theorem DiskX.counts {w w1 : World} {b : Nat} {F : List Nat} {s : DiskS} {vl : Value} {bc bp nc : Nat} {Dc : DataW Value} {np : Nat} {Dp : DataW Value} (h : DiskX w b F s vl bc bp nc Dc np Dp) (hk : Kept w w1 [b]) {o r : Nat}
    (hb : Blk w1 b 60 [.int .i64 s.size, vl, .map (some bc), .map (some bp), .int .i64 o, .int .i64 r]) (ho : o ≤ 1000000000) (hr : r ≤ o) (hso : s.writes ≤ r) : DiskX w1 b F { s with ops := o, writes := r } vl bc bp nc Dc np Dp :=
  ⟨⟨h.ok.s1, h.ok.s2, h.ok.n1, h.ok.nc, h.ok.ls, h.ok.cs, ho, hr, h.ok.ma⟩, hb, h.las.kept hk (fun g hg => by have := Own.ne_cells h.las h.blk (by decide); rw [hg] at this; simpa using this), map_kept h.cac hk (by have := Blk.ne_map h.blk h.cac; simp; exact fun e => this e.symm), Nat.le_trans h.ncl hso,
    h.cof.kept' hk (fun v l g hv hg hF hn => ⟨by have := Own.ne_cells hv h.blk (by decide); rw [hg] at this; simpa using this, hF, hn⟩), map_kept h.pla hk (by have := Blk.ne_map h.blk h.pla; simp; exact fun e => this e.symm), h.npl, h.pof, h.ne, h.fb, h.fc, h.fp, h.fl, fun g hg => Nat.lt_of_lt_of_le (h.lt g hg) hk.size⟩

set_option maxHeartbeats 1000000 in
theorem fails_any (w : World) (b : Nat) (F : List Nat) (s : DiskS) (h : DiskAt w b F s) (ho : s.ops < 1000000000) :
    Calls Try.prog 34 #[.pointer (some ⟨b, 0, none⟩)] w (Post w [b] fun v W => v = .bool s.fails ∧ DiskAt W b F s.tick) := by
  obtain ⟨vl, bc, bp, nc, Dc, np, Dp, h⟩ := h
  have c3 := h.blk.cell 3 rfl
  have c4 := h.blk.cell 4 rfl
  have f4 := h.blk.free 4
  have hb1 := h.blk.set 4 (.int .i64 ((s.ops : Int) + 1))
  have d3 := hb1.cell 3 rfl
  have d4 := hb1.cell 4 rfl
  have k0 : Kept w (w.setCell ⟨b, 4, none⟩ (.int .i64 ((s.ops : Int) + 1))) [b] := (Kept.refl w [b]).setCell (by simp) _
  have hp1 := map_kept h.pla k0 (by have := Blk.ne_map h.blk h.pla; simp; exact fun e => this e.symm)
  have hr := look_plan hp1.drew (x := (s.ops : Int) + 1) (by omega) (by omega)
  have hr2 := look_plan (hp1.alloc (.cells #[] 69)).drew (x := (s.ops : Int) + 1) (by omega) (by omega)
  rw [h.pof] at hr hr2
  have hbl := h.blk.lt
  have o0 : (0 : Int) ≤ s.ops := by omega
  have o1 : (s.ops : Int) < 1000000000 := by omega
  have H := Lib.hid h
  have K0 := Lib.hid k0
  have HB := Lib.hid hb1
  clear h k0 hb1 hp1 ho
  go_enter Try.func34, Try.ntmps34
  go_wp2_with fail
  go_region
  all_goals (
    go_wp2_with fail
    go_ret
    refine ⟨_, rfl, ⟨rfl, ?_⟩, (K0.out.alloc _).drew⟩
    exact ⟨vl, bc, bp, nc, Dc, np, Dp, H.out.counts (o := s.ops + 1) (r := s.writes) ((K0.out.alloc _).drew) (((HB.out.alloc _).drew).to (by simp)) (by omega) (by have := H.out.ok.wr; omega) (Nat.le_refl _)⟩)

set_option maxHeartbeats 1000000 in
theorem size_any (w : World) (b : Nat) (F : List Nat) (s : DiskS) (h : DiskAt w b F s) :
    Calls Try.prog 19 #[.pointer (some ⟨b, 0, none⟩)] w (Post w [] fun v W => v = .int .i64 s.size) := by
  obtain ⟨vl, bc, bp, nc, Dc, np, Dp, h⟩ := h
  have c0 := h.blk.cell 0 rfl
  clear h
  go_enter Try.func19, Try.ntmps19
  go_wp2
  go_ret
  exact ⟨_, rfl, rfl, Kept.refl _ _⟩
theorem ops_any (w : World) (b : Nat) (F : List Nat) (s : DiskS) (h : DiskAt w b F s) :
    Calls Try.prog 11 #[.pointer (some ⟨b, 0, none⟩)] w (Post w [] fun v W => v = .int .i64 s.ops) := by
  obtain ⟨vl, bc, bp, nc, Dc, np, Dp, h⟩ := h
  have c0 := h.blk.cell 4 rfl
  clear h
  go_enter Try.func11, Try.ntmps11
  go_wp2
  go_ret
  exact ⟨_, rfl, rfl, Kept.refl _ _⟩
theorem writes_any (w : World) (b : Nat) (F : List Nat) (s : DiskS) (h : DiskAt w b F s) :
    Calls Try.prog 12 #[.pointer (some ⟨b, 0, none⟩)] w (Post w [] fun v W => v = .int .i64 s.writes) := by
  obtain ⟨vl, bc, bp, nc, Dc, np, Dp, h⟩ := h
  have c0 := h.blk.cell 5 rfl
  clear h
  go_enter Try.func12, Try.ntmps12
  go_wp2
  go_ret
  exact ⟨_, rfl, rfl, Kept.refl _ _⟩
theorem bytes_bd {s : DiskS} (h : s.Ok) : s.bytes.length ≤ 16777216 := by
  rw [h.bytes_len]
  exact Nat.mul_le_mul h.n1 h.s2
set_option maxHeartbeats 1000000 in
theorem sectors_any (w : World) (b : Nat) (F : List Nat) (s : DiskS) (h : DiskAt w b F s) :
    Calls Try.prog 18 #[.pointer (some ⟨b, 0, none⟩)] w (Post w [] fun v W => v = .int .i64 s.last.length) := by
  obtain ⟨vl, bc, bp, nc, Dc, np, Dp, h⟩ := h
  obtain ⟨bl, ⟨A, c, rfl, h1, h2, h3, h4⟩, h5⟩ := h.las.sl
  have c0 := h.blk.cell 0 rfl
  have c1 := h.blk.cell 1 rfl
  have bd := bytes_bd h.ok
  have e := h.ok.bytes_len
  have s1 := h.ok.s1
  have s2 := h.ok.s2
  have N1 := Lib.hid h.ok.n1
  clear h h3 h4 h5 h1 h2
  have E := Lib.hid e
  clear e
  generalize s.bytes.length = m at *
  have m0 : (0 : Int) ≤ m := by omega
  have m1 : (m : Int) ≤ 16777216 := by omega
  have t1 : (1 : Int) ≤ s.size := by omega
  have t2 : (s.size : Int) ≤ 4096 := by omega
  have t3 : ((s.size : Int) == 0) = false := by rw [beq_eq_false_iff_ne]; omega
  go_enter Try.func18, Try.ntmps18
  go_wp2_with fail
  go_region
  all_goals (
    go_wp2_with fail
    go_ret
    refine ⟨_, rfl, ?_, (Kept.refl _ _).drew⟩
    congr 1
    have e := E.out
    rw [e]
    simp
    rw [Int.mul_ediv_cancel _ (by omega)]
    have := N1.out
    unfold wrap64
    omega)
set_option maxHeartbeats 1000000 in
theorem bytes_any (w : World) (b : Nat) (F : List Nat) (s : DiskS) (h : DiskAt w b F s) :
    Calls Try.prog 16 #[.pointer (some ⟨b, 0, none⟩)] w (Post w [] fun v W => Own 5 .u8 W w.heap.size v s.bytes) := by
  obtain ⟨vl, bc, bp, nc, Dc, np, Dp, h⟩ := h
  have c1 := h.blk.cell 1 rfl
  obtain ⟨bl, hl, _⟩ := h.las.sl
  have HL := Lib.hid hl
  have bd := bytes_bd h.ok
  have BD := Lib.hid bd
  clear h hl bd
  go_enter Try.func16, Try.ntmps16
  go_wp2_with fail
  refine (clone_any _ _ bl 0 s.bytes HL.out (by have := BD.out; omega)).mono ?_
  rintro _ w1 ⟨_, rfl, ho, k⟩
  replace ho := Lib.hid ho
  go_wp2_with fail
  go_ret
  exact ⟨_, rfl, ho.out, k⟩
set_option maxHeartbeats 1000000 in
/-- the place of a sector -/
theorem at_any (w : World) (b : Nat) (F : List Nat) (s : DiskS) (vl : Value) (bc bp nc : Nat) (Dc : DataW Value) (np : Nat) (Dp : DataW Value) (h : DiskX w b F s vl bc bp nc Dc np Dp) (i : Nat) (hi : i < s.last.length) :
    Calls Try.prog 35 #[.pointer (some ⟨b, 0, none⟩), .int .i64 i] w (Post w [] fun v W => ∃ bl c, vl.ownBlock = some bl ∧ v = .slice (some ⟨bl, i * s.size, none⟩) s.size c ∧ s.size ≤ c ∧ c ≤ maxLen) := by
  obtain ⟨bl, ⟨A, c, rfl, h1, h2, h3, h4⟩, h5⟩ := h.las.sl
  have c0 := h.blk.cell 0 rfl
  have c1 := h.blk.cell 1 rfl
  have bd := bytes_bd h.ok
  have e := h.ok.bytes_len
  have s1 := h.ok.s1
  have s2 := h.ok.s2
  have n1 := h.ok.n1
  have hne : s.bytes ≠ [] := by
    intro h0
    rw [h0] at e
    have := Nat.mul_pos (show 0 < s.last.length by omega) s1
    simp at e
    omega
  have hA := h3 hne
  have hb5 : (Value.slice A s.bytes.length c).ownBlock = some bl := by
    rcases h5 with h5 | h5
    · exact absurd h5 hne
    · exact h5.1
  subst hA
  have hm : (i + 1) * s.size ≤ s.last.length * s.size := Nat.mul_le_mul_right _ hi
  rw [← e, Nat.succ_mul] at hm
  have e1 : ((i : Int) * (s.size : Int)) = ((i * s.size : Nat) : Int) := by simp
  have e2 : (((i : Int) + 1) * (s.size : Int)) = ((i * s.size : Nat) : Int) + (s.size : Int) := by rw [Int.add_mul]; simp
  generalize i * s.size = m at *
  generalize s.bytes.length = L at *
  have HB := Lib.hid hb5
  have H2 := Lib.hid h2
  clear h h3 h4 h5 hb5 h2 e hne
  have i0 : (0 : Int) ≤ i := by omega
  have i1 : (i : Int) ≤ 4096 := by omega
  have m0 : (0 : Int) ≤ m := by omega
  have m1 : (m : Int) ≤ 16777216 := by omega
  have t1 : (1 : Int) ≤ s.size := by omega
  have t2 : (s.size : Int) ≤ 4096 := by omega
  have hmc : m + s.size ≤ c := by omega
  have hmi : (m : Int) + (s.size : Int) ≤ c := by omega
  have hlt : m < c := by omega
  go_enter Try.func35, Try.ntmps35
  go_wp2_with fail
  go_region
  all_goals (
    go_wp2_with fail
    go_ret
    exact ⟨_, rfl, ⟨bl, c - m, HB.out, congrArg (fun n => Value.slice (some ⟨bl, m, none⟩) n (c - m)) (Nat.add_sub_cancel_left m s.size), by omega, by have := H2.out; omega⟩, (Kept.refl _ _).drew⟩)
/-- a sector that is cached -/
theorem look_some {w : World} {b : Nat} {F : List Nat} {s : DiskS} {vl : Value} {bc bp nc : Nat} {Dc : DataW Value} {np : Nat} {Dp : DataW Value} (h : DiskX w b F s vl bc bp nc Dc np Dp) {i : Nat} {l : List Int} (hl : s.cach[i]?.join = some l) :
    ∃ v, (∀ n, (Instr.lookup 57 (.map (some bc)) (.int .i64 i) true).run Try.prog (w.drewN n) = .ok (.tuple #[v, .bool true]) (w.drewN n)) ∧ (∀ n, (Instr.lookup 57 (.map (some bc)) (.int .i64 i) false).run Try.prog (w.drewN n) = .ok v (w.drewN n)) ∧
      Row8 w v l ∧ (∀ g, v.ownBlock = some g → g ∈ F ∧ vl.ownBlock ≠ some g) := by
  have hi : i < s.cach.length := by
    cases hc : s.cach[i]? with
    | none => rw [hc] at hl; simp at hl
    | some o => exact (List.getElem?_eq_some_iff.1 hc).1
  have := h.ok.nc
  have := h.ok.n1
  obtain ⟨v, h1, h2, h3, h4⟩ := h.cof.yes i l hl
  refine ⟨v, fun n => ?_, fun n => ?_, h3, h4⟩
  · have hd : (w.drewN n).ownsMap Try.prog 3 heldR bc nc Dc := h.cac
    obtain ⟨v', ps, hr, hv⟩ := hd.look_ok keyedI Try.underlying57 (zero8s _) (zd := .held (.slice none 0 0)) (zp := []) rfl (keyi (x := i) (by omega) (by omega))
    rw [h1, h2] at *
    simp only [heldR, Option.some.injEq, Prod.mk.injEq, DataW.held.injEq] at hv
    rw [hr, hv.1]
  · have hd : (w.drewN n).ownsMap Try.prog 3 heldR bc nc Dc := h.cac
    obtain ⟨v', ps, hr, hv⟩ := hd.lookup keyedI Try.underlying57 (zero8s _) (zd := .held (.slice none 0 0)) (zp := []) rfl (keyi (x := i) (by omega) (by omega))
    rw [h2] at hv
    simp only [heldR, Option.some.injEq, Prod.mk.injEq, DataW.held.injEq] at hv
    rw [hr, hv.1]
theorem look_none {w : World} {b : Nat} {F : List Nat} {s : DiskS} {vl : Value} {bc bp nc : Nat} {Dc : DataW Value} {np : Nat} {Dp : DataW Value} (h : DiskX w b F s vl bc bp nc Dc np Dp) {i : Nat} (hi : i < s.last.length) (hl : s.cach[i]?.join = none) :
    ∀ n, (Instr.lookup 57 (.map (some bc)) (.int .i64 i) true).run Try.prog (w.drewN n) = .ok (.tuple #[.slice none 0 0, .bool false]) (w.drewN n) := by
  intro n
  have := h.ok.nc
  have := h.ok.n1
  have h1 := h.cof.no i (by omega) hl
  have hd : (w.drewN n).ownsMap Try.prog 3 heldR bc nc Dc := h.cac
  obtain ⟨v', ps, hr, hv⟩ := hd.look_ok keyedI Try.underlying57 (zero8s _) (zd := .held (.slice none 0 0)) (zp := []) rfl (keyi (x := i) (by omega) (by omega))
  rw [Maps.atKey_of_not_has h1] at hv
  rw [h1] at hr
  simp only [heldR, Option.some.injEq, Prod.mk.injEq, DataW.held.injEq] at hv
  rw [hr, hv.1]
theorem DiskS.tick_ok {s : DiskS} (h : s.Ok) (ho : s.ops < 1000000000) : s.tick.Ok := ⟨h.s1, h.s2, h.n1, h.nc, h.ls, h.cs, by show s.ops + 1 ≤ _; omega, by show s.writes ≤ s.ops + 1; have := h.wr; omega, h.ma⟩
set_option maxRecDepth 100000 in
set_option maxHeartbeats 2000000 in
theorem read_any (w : World) (b : Nat) (F : List Nat) (s : DiskS) (h : DiskAt w b F s) (ho : s.ops < 1000000000) (i : Int) :
    Calls Try.prog 24 #[.pointer (some ⟨b, 0, none⟩), .int .i64 i] w (Post w [b] fun v W => ∃ r, v = .tuple #[r, .int .i64 (s.read i).2] ∧ Own 5 .u8 W w.heap.size r (s.read i).1 ∧ DiskAt W b F s.tick) := by
  have hok := h.ok
  have hn1 := hok.n1
  have hbl := bytes_bd hok
  have HO := Lib.hid hok
  have hn1i : (s.last.length : Int) ≤ 4096 := by omega
  clear hok hbl
  go_enter Try.func24, Try.ntmps24
  go_wp2_with fail
  refine (fails_any w b F s h ho).mono ?_
  rintro _ w1 ⟨_, rfl, ⟨rfl, h1⟩, k1⟩
  have H1 := Lib.hid h1
  have K1 := Lib.hid k1
  clear h h1 k1
  by_cases hf : s.fails = true
  · go_wp2_with fail
    go_ret2
    have e : s.read i = ([], 3) := by simp [DiskS.read, hf]
    refine ⟨_, rfl, ⟨_, by rw [e]; rfl, ?_, H1.out⟩, K1.out⟩
    rw [e]; exact Own.nil _ _ _ _
  replace hf : s.fails = false := by simpa using hf
  by_cases hneg : i < 0
  · go_wp2_with fail
    go_ret2
    have e : s.read i = ([], 2) := by simp [DiskS.read, hf, hneg]
    refine ⟨_, rfl, ⟨_, by rw [e]; rfl, ?_, H1.out⟩, K1.out⟩
    rw [e]; exact Own.nil _ _ _ _
  have hpos : 0 ≤ i := by omega
  go_wp2_with fail
  refine (sectors_any w1 b F s.tick H1.out).mono ?_
  rintro _ w2 ⟨_, rfl, rfl, k2⟩
  have h2 := H1.out.kept k2 (by simp)
  have K2 := Lib.hid (K1.out.trans k2 (by simp))
  have e0 : s.tick.last = s.last := rfl
  rw [e0]
  clear e0 k2
  replace h2 := Lib.hid h2
  by_cases hout : (s.last.length : Int) ≤ i
  · go_wp2_with fail
    go_ret2
    have e : s.read i = ([], 2) := by simp [DiskS.read, hf, hout]
    refine ⟨_, rfl, ⟨_, by rw [e]; rfl, ?_, h2.out⟩, K2.out⟩
    rw [e]; exact Own.nil _ _ _ _
  have hin : i < (s.last.length : Int) := by omega
  obtain ⟨j, rfl⟩ := Int.eq_ofNat_of_zero_le hpos
  have hj : j < s.last.length := by omega
  have h3 := h2.out
  obtain ⟨vl, bc, bp, nc, Dc, np, Dp, hx⟩ := h3
  have c2 := hx.blk.cell 2 rfl
  have HX := Lib.hid hx
  have e0 : s.tick.cach = s.cach := rfl
  cases hc : s.cach[j]?.join with
  | some l =>
    obtain ⟨v, g1, _, g2, g3⟩ := look_some hx (i := j) (l := l) hc
    have e : s.read (j : Int) = (l, 0) := by first | (simp [DiskS.read, hf, hc]; done) | (simp [DiskS.read, hf, hc]; omega) | (simp [DiskS.read, hf, hc]; intro; omega)
    have E := Lib.hid e
    have G1 := g1 0
    obtain ⟨bv, hsl, _⟩ := Own.sl g2
    have HS := Lib.hid hsl
    have hll : l.length = s.size := (HO.out.cs l (mem_join hc)).1
    have hs2 := HO.out.s2
    have HL := Lib.hid (show l.length ≤ 140737488351232 by omega)
    clear g1 g2 g3 hx hc hsl hll hs2 e e0
    change Sem.run _ _ w2 = Result.ok _ w2 at G1
    go_wp2_with fail
    refine (clone_any _ _ bv 0 l HS.out HL.out).mono ?_
    rintro _ w3 ⟨_, rfl, hr, k3⟩
    have h5 := h2.out.kept k3 (by simp)
    have K3 := Lib.hid (K2.out.trans k3 (by simp))
    replace hr := Lib.hid hr
    replace h5 := Lib.hid h5
    clear k3
    go_wp2_with fail
    go_ret2
    refine ⟨_, rfl, ⟨_, by rw [E.out]; rfl, ?_, h5.out⟩, K3.out⟩
    rw [E.out]; exact Own.mono hr.out K2.out.size
  | none =>
    have G1 := look_none hx (i := j) hj hc 0
    have e : s.read (j : Int) = (s.last[j]?.getD [], 0) := by first | (simp [DiskS.read, hf, hc]; done) | (simp [DiskS.read, hf, hc]; omega) | (simp [DiskS.read, hf, hc]; intro; omega)
    have E := Lib.hid e
    have hl := List.getElem?_eq_getElem hj
    have hsec := HO.out.ls _ (List.getElem_mem hj)
    have hs2 := HO.out.s2
    have hpart := flatten_part HO.out.ls j hj
    clear hx hc e e0
    have HP := Lib.hid hpart
    have HSC := Lib.hid hsec
    have HG := Lib.hid hl
    clear hl hsec hpart
    change Sem.run _ _ w2 = Result.ok _ w2 at G1
    go_wp2_with fail
    refine (at_any w2 b F s.tick vl bc bp nc Dc np Dp HX.out j hj).mono ?_
    rintro _ w3 ⟨_, rfl, ⟨bl, c, hbl, rfl, hc1, hc2⟩, k3⟩
    have h5 := h2.out.kept k3 (by simp)
    have K3 := Lib.hid (K2.out.trans k3 (by simp))
    obtain ⟨b', hsl, hb'⟩ := HX.out.las.sl
    have hsz : s.tick.size = s.size := rfl
    have hlen : j * s.size + s.size ≤ s.bytes.length := by
      rw [HO.out.bytes_len, ← Nat.succ_mul]
      exact Nat.mul_le_mul_right _ hj
    have h1s := HO.out.s1
    have hsl2 : Sl .u8 w3 (.slice (some ⟨bl, j * s.size, none⟩) s.size c) bl (j * s.size) s.last[j] := by
      have hp := (hsl.kept k3 (by simp)).part (j * s.size) s.size c (show j * s.size + s.size ≤ s.tick.bytes.length from hlen) hc1 hc2 (by omega)
      have eb : s.tick.bytes = s.last.flatten := rfl
      rw [eb, HP.out] at hp
      rcases hb' with hb' | hb'
      · rw [hb'] at hsl
        have : s.bytes = [] := hb'
        rw [this] at hlen
        simp at hlen
        omega
      · rw [hbl] at hb'
        simp only [Option.some.injEq] at hb'
        rw [← hb'.1] at hp
        simpa using hp
    replace h5 := Lib.hid h5
    replace hsl2 := Lib.hid hsl2
    clear hsl hb' hbl k3 hlen hsz
    go_wp2_with fail
    refine (clone_any _ _ bl (j * s.size) _ hsl2.out (by rw [HSC.out.1]; omega)).mono ?_
    rintro _ w4 ⟨_, rfl, hr, k4⟩
    have h6 := h5.out.kept k4 (by simp)
    have K4 := Lib.hid (K3.out.trans k4 (by simp))
    replace hr := Lib.hid hr
    replace h6 := Lib.hid h6
    clear k4
    go_wp2_with fail
    go_ret2
    refine ⟨_, rfl, ⟨_, by rw [E.out]; rfl, ?_, h6.out⟩, K4.out⟩
    rw [E.out, HG.out]; exact Own.mono hr.out K3.out.size
end Go.Proofs.Ytcbngmfbbdmlgaa
