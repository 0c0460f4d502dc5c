/- PROVED: how a disk lies in memory, and the contracts of slices.Clone at bytes, and of what only looks at a disk; the contracts of disk.fails, Sectors, Size, Ops, Writes, at, Bytes and Read; the contracts of disk.Write and disk.Fail. No conditions beyond those that each theorem states. -/
import Derived.Test.YtcikhnkehglkgaaGreatDoorProg
import Derived.Test.YtcikhnkehglkgaaGreatDoorDkP
import Derived.Test.YtcikhnkehglkgaaGreatDoorClo
import Derived.Lib.SliceRun
import Derived.Lib.Walk
import Derived.OwnWalk
import Derived.Deep.RegionHeld3
namespace Go.Proofs.YtcikhnkehglkgaaGreatDoor
open Go.RowKit Go.Proofs.YtcikhnkehglkgaaGreatDoorLib
set_option linter.unusedSimpArgs false
set_option linter.unusedVariables false

def heldR (v : Value) : Option (DataW Value × List MemPlace) := some (.held v, [])
/-- which values a map of sectors has -/
structure CachOf (w : World) (F : List Nat) (vl : Value) (D : DataW Value) (c : List (Option (List Int))) : Prop where
  no : ∀ i : Nat, i < c.length → c[i]?.join = none → Maps.has D (.int .i64 i) = false
  yes : ∀ (i : Nat) (l : List Int), c[i]?.join = some l → ∃ v, Maps.has D (.int .i64 i) = true ∧ (∀ z, D.atKey (.int .i64 i) z = .held v) ∧ Row8 w v l ∧ (∀ g, v.ownBlock = some g → g ∈ F ∧ vl.ownBlock ≠ some g)
  key : ∀ kl, Maps.has D kl = true → ∃ i : Nat, i < c.length ∧ kl = .int .i64 i
structure DiskX (w : World) (b : Nat) (F : List Nat) (s : DiskS) (vl : Value) (bc bp nc : Nat) (Dc : DataW Value) (np : Nat) (Dp : DataW Value) : Prop where
  ok : s.Ok
  blk : Blk w b 102 [.int .i64 s.size, vl, .map (some bc), .map (some bp), .int .i64 s.ops, .int .i64 s.writes]
  las : Row8 w vl s.bytes
  cac : w.ownsMap Tryz.prog 3 heldR bc nc Dc
  ncl : nc ≤ s.writes
  cof : CachOf w F vl Dc s.cach
  pla : w.ownsMap Tryz.prog 3 Go.unitElem bp np Dp
  npl : np ≤ s.marks
  pof : ∀ n : Int, Maps.has Dp (.int .i64 n) = s.plan n
  ne : bc ≠ bp
  fb : b ∈ F
  fc : bc ∈ F
  fp : bp ∈ F
  fl : ∀ g, vl.ownBlock = some g → g ∈ F
  lt : ∀ g, g ∈ F → g < w.heap.size
/-- the disk s lies at block b, in the blocks F -/
def DiskAt (w : World) (b : Nat) (F : List Nat) (s : DiskS) : Prop := ∃ vl bc bp nc Dc np Dp, DiskX w b F s vl bc bp nc Dc np Dp
theorem CachOf.kept {w w1 : World} {F : List Nat} {vl : Value} {D : DataW Value} {c : List (Option (List Int))} {S : List Nat} (h : CachOf w F vl D c) (hk : Kept w w1 S) (hS : ∀ k, k ∈ S → k ∉ F) : CachOf w1 F vl D c :=
  ⟨h.no, fun i l hi => let ⟨v, h1, h2, h3, h4⟩ := h.yes i l hi; ⟨v, h1, h2, h3.kept hk (fun g hg hm => hS g hm (h4 g hg).1), h4⟩, h.key⟩
theorem DiskX.kept {w w1 : World} {b : Nat} {F : List Nat} {s : DiskS} {vl : Value} {bc bp nc : Nat} {Dc : DataW Value} {np : Nat} {Dp : DataW Value} {S : List Nat} (h : DiskX w b F s vl bc bp nc Dc np Dp) (hk : Kept w w1 S) (hS : ∀ k, k ∈ S → k ∉ F) : DiskX w1 b F s vl bc bp nc Dc np Dp :=
  ⟨h.ok, h.blk.kept hk (fun hm => hS b hm h.fb), h.las.kept hk (fun g hg hm => hS g hm (h.fl g hg)), map_kept h.cac hk (fun hm => hS bc hm h.fc), h.ncl, h.cof.kept hk hS, map_kept h.pla hk (fun hm => hS bp hm h.fp), h.npl, h.pof, h.ne, h.fb, h.fc, h.fp, h.fl,
    fun g hg => Nat.lt_of_lt_of_le (h.lt g hg) hk.size⟩
theorem DiskAt.kept {w w1 : World} {b : Nat} {F : List Nat} {s : DiskS} {S : List Nat} (h : DiskAt w b F s) (hk : Kept w w1 S) (hS : ∀ k, k ∈ S → k ∉ F) : DiskAt w1 b F s := by
  obtain ⟨vl, bc, bp, nc, Dc, np, Dp, h⟩ := h
  exact ⟨vl, bc, bp, nc, Dc, np, Dp, h.kept hk hS⟩
theorem DiskAt.ok {w : World} {b : Nat} {F : List Nat} {s : DiskS} (h : DiskAt w b F s) : s.Ok := let ⟨_, _, _, _, _, _, _, h⟩ := h; h.ok
theorem DiskAt.lt {w : World} {b : Nat} {F : List Nat} {s : DiskS} (h : DiskAt w b F s) : ∀ g, g ∈ F → g < w.heap.size := let ⟨_, _, _, _, _, _, _, h⟩ := h; h.lt
theorem DiskAt.fb {w : World} {b : Nat} {F : List Nat} {s : DiskS} (h : DiskAt w b F s) : b ∈ F := let ⟨_, _, _, _, _, _, _, h⟩ := h; h.fb

end Go.Proofs.YtcikhnkehglkgaaGreatDoor
namespace Go.Proofs.YtcikhnkehglkgaaGreatDoor
open Go.RowKit Go.Proofs.YtcikhnkehglkgaaGreatDoorLib Go.WideElems Go.Maps
set_option linter.unusedSimpArgs false
set_option linter.unusedVariables false

theorem zeroMark (w : World) : (zeroValue 98).run Tryz.prog w = .ok (.agg #[]) w := by kernel_rfl
theorem zero8s (w : World) : (zeroValue 27).run Tryz.prog w = .ok (.slice none 0 0) w := by kernel_rfl
/-- is a number planned? -/
theorem look_plan {w : World} {b n : Nat} {D : DataW Value} (h : w.ownsMap Tryz.prog 3 Go.unitElem b n D) {x : Int} (h0 : -9223372036854775808 ≤ x) (h1 : x ≤ 9223372036854775807) :
    (Instr.lookup 100 (.map (some b)) (.int .i64 x) true).run Tryz.prog w = .ok (.tuple #[.agg #[], .bool (Maps.has D (.int .i64 x))]) w := by
  obtain ⟨v, ps, hr, hv⟩ := h.look_ok keyedI Tryz.underlying100 (zeroMark w) Go.unitElem_mk (keyi h0 h1)
  obtain ⟨rfl, _⟩ := Go.unitElem_inv hv
  exact hr
theorem CachOf.kept' {w w1 : World} {F F' : List Nat} {vl vl' : Value} {D : DataW Value} {c : List (Option (List Int))} {S : List Nat} (h : CachOf w F vl D c) (hk : Kept w w1 S)
    (hS : ∀ v l g, Row8 w v l → v.ownBlock = some g → g ∈ F → vl.ownBlock ≠ some g → g ∉ S ∧ g ∈ F' ∧ vl'.ownBlock ≠ some g) : CachOf w1 F' vl' D c :=
  ⟨h.no, fun i l hi => let ⟨v, h1, h2, h3, h4⟩ := h.yes i l hi; ⟨v, h1, h2, h3.kept hk (fun g hg => (hS v l g h3 hg (h4 g hg).1 (h4 g hg).2).1), fun g hg => (hS v l g h3 hg (h4 g hg).1 (h4 g hg).2).2⟩, h.key⟩
/-- only the counts have turned -/
theorem DiskX.counts {w w1 : World} {b : Nat} {F : List Nat} {s : DiskS} {vl : Value} {bc bp nc : Nat} {Dc : DataW Value} {np : Nat} {Dp : DataW Value} (h : DiskX w b F s vl bc bp nc Dc np Dp) (hk : Kept w w1 [b]) {o r : Nat}
    (hb : Blk w1 b 102 [.int .i64 s.size, vl, .map (some bc), .map (some bp), .int .i64 o, .int .i64 r]) (ho : o ≤ 1000000000) (hr : r ≤ o) (hso : s.writes ≤ r) : DiskX w1 b F { s with ops := o, writes := r } vl bc bp nc Dc np Dp :=
  ⟨⟨h.ok.s1, h.ok.s2, h.ok.n1, h.ok.nc, h.ok.ls, h.ok.cs, ho, hr, h.ok.ma⟩, hb, h.las.kept hk (fun g hg => by have := Own.ne_cells h.las h.blk (by decide); rw [hg] at this; simpa using this), map_kept h.cac hk (by have := Blk.ne_map h.blk h.cac; simp; exact fun e => this e.symm), Nat.le_trans h.ncl hso,
    h.cof.kept' hk (fun v l g hv hg hF hn => ⟨by have := Own.ne_cells hv h.blk (by decide); rw [hg] at this; simpa using this, hF, hn⟩), map_kept h.pla hk (by have := Blk.ne_map h.blk h.pla; simp; exact fun e => this e.symm), h.npl, h.pof, h.ne, h.fb, h.fc, h.fp, h.fl, fun g hg => Nat.lt_of_lt_of_le (h.lt g hg) hk.size⟩

set_option maxHeartbeats 1000000 in
theorem fails_any (w : World) (b : Nat) (F : List Nat) (s : DiskS) (h : DiskAt w b F s) (ho : s.ops < 1000000000) :
    Calls Tryz.prog 76 #[.pointer (some ⟨b, 0, none⟩)] w (Post w [b] fun v W => v = .bool s.fails ∧ DiskAt W b F s.tick) := by
  obtain ⟨vl, bc, bp, nc, Dc, np, Dp, h⟩ := h
  have c3 := h.blk.cell 3 rfl
  have c4 := h.blk.cell 4 rfl
  have f4 := h.blk.free 4
  have hb1 := h.blk.set 4 (.int .i64 ((s.ops : Int) + 1))
  have d3 := hb1.cell 3 rfl
  have d4 := hb1.cell 4 rfl
  have k0 : Kept w (w.setCell ⟨b, 4, none⟩ (.int .i64 ((s.ops : Int) + 1))) [b] := (Kept.refl w [b]).setCell (by simp) _
  have hp1 := map_kept h.pla k0 (by have := Blk.ne_map h.blk h.pla; simp; exact fun e => this e.symm)
  have hr := look_plan hp1.drew (x := (s.ops : Int) + 1) (by omega) (by omega)
  have hr2 := look_plan (hp1.alloc (.cells #[] 98)).drew (x := (s.ops : Int) + 1) (by omega) (by omega)
  rw [h.pof] at hr hr2
  have hbl := h.blk.lt
  have o0 : (0 : Int) ≤ s.ops := by omega
  have o1 : (s.ops : Int) < 1000000000 := by omega
  have H := Lib.hid h
  have K0 := Lib.hid k0
  have HB := Lib.hid hb1
  clear h k0 hb1 hp1 ho
  go_enter Tryz.func76, Tryz.ntmps76
  go_wp2_with fail
  go_region
  all_goals (
    go_wp2_with fail
    go_ret
    refine ⟨_, rfl, ⟨rfl, ?_⟩, (K0.out.alloc _).drew⟩
    exact ⟨vl, bc, bp, nc, Dc, np, Dp, H.out.counts (o := s.ops + 1) (r := s.writes) ((K0.out.alloc _).drew) (((HB.out.alloc _).drew).to (by simp)) (by omega) (by have := H.out.ok.wr; omega) (Nat.le_refl _)⟩)

set_option maxHeartbeats 1000000 in
theorem size_any (w : World) (b : Nat) (F : List Nat) (s : DiskS) (h : DiskAt w b F s) :
    Calls Tryz.prog 82 #[.pointer (some ⟨b, 0, none⟩)] w (Post w [] fun v W => v = .int .i64 s.size) := by
  obtain ⟨vl, bc, bp, nc, Dc, np, Dp, h⟩ := h
  have c0 := h.blk.cell 0 rfl
  clear h
  go_enter Tryz.func82, Tryz.ntmps82
  go_wp2
  go_ret
  exact ⟨_, rfl, rfl, Kept.refl _ _⟩
theorem ops_any (w : World) (b : Nat) (F : List Nat) (s : DiskS) (h : DiskAt w b F s) :
    Calls Tryz.prog 25 #[.pointer (some ⟨b, 0, none⟩)] w (Post w [] fun v W => v = .int .i64 s.ops) := by
  obtain ⟨vl, bc, bp, nc, Dc, np, Dp, h⟩ := h
  have c0 := h.blk.cell 4 rfl
  clear h
  go_enter Tryz.func25, Tryz.ntmps25
  go_wp2
  go_ret
  exact ⟨_, rfl, rfl, Kept.refl _ _⟩
theorem bytes_bd {s : DiskS} (h : s.Ok) : s.bytes.length ≤ 16777216 := by
  rw [h.bytes_len]
  exact Nat.mul_le_mul h.n1 h.s2
set_option maxHeartbeats 1000000 in
theorem sectors_any (w : World) (b : Nat) (F : List Nat) (s : DiskS) (h : DiskAt w b F s) :
    Calls Tryz.prog 83 #[.pointer (some ⟨b, 0, none⟩)] w (Post w [] fun v W => v = .int .i64 s.last.length) := by
  obtain ⟨vl, bc, bp, nc, Dc, np, Dp, h⟩ := h
  obtain ⟨bl, ⟨A, c, rfl, h1, h2, h3, h4⟩, h5⟩ := h.las.sl
  have c0 := h.blk.cell 0 rfl
  have c1 := h.blk.cell 1 rfl
  have bd := bytes_bd h.ok
  have e := h.ok.bytes_len
  have s1 := h.ok.s1
  have s2 := h.ok.s2
  have N1 := Lib.hid h.ok.n1
  clear h h3 h4 h5 h1 h2
  have E := Lib.hid e
  clear e
  generalize s.bytes.length = m at *
  have m0 : (0 : Int) ≤ m := by omega
  have m1 : (m : Int) ≤ 16777216 := by omega
  have t1 : (1 : Int) ≤ s.size := by omega
  have t2 : (s.size : Int) ≤ 4096 := by omega
  have t3 : ((s.size : Int) == 0) = false := by rw [beq_eq_false_iff_ne]; omega
  go_enter Tryz.func83, Tryz.ntmps83
  go_wp2_with fail
  go_region
  all_goals (
    go_wp2_with fail
    go_ret
    refine ⟨_, rfl, ?_, (Kept.refl _ _).drew⟩
    congr 1
    have e := E.out
    rw [e]
    simp
    rw [Int.mul_ediv_cancel _ (by omega)]
    have := N1.out
    unfold wrap64
    omega)
set_option maxHeartbeats 1000000 in
theorem bytes_any (w : World) (b : Nat) (F : List Nat) (s : DiskS) (h : DiskAt w b F s) :
    Calls Tryz.prog 40 #[.pointer (some ⟨b, 0, none⟩)] w (Post w [] fun v W => Own 5 .u8 W w.heap.size v s.bytes) := by
  obtain ⟨vl, bc, bp, nc, Dc, np, Dp, h⟩ := h
  have c1 := h.blk.cell 1 rfl
  obtain ⟨bl, hl, _⟩ := h.las.sl
  have HL := Lib.hid hl
  have bd := bytes_bd h.ok
  have BD := Lib.hid bd
  clear h hl bd
  go_enter Tryz.func40, Tryz.ntmps40
  go_wp2_with fail
  refine (clone_any _ _ bl 0 s.bytes HL.out (by have := BD.out; omega)).mono ?_
  rintro _ w1 ⟨_, rfl, ho, k⟩
  replace ho := Lib.hid ho
  go_wp2_with fail
  go_ret
  exact ⟨_, rfl, ho.out, k⟩
set_option maxHeartbeats 1000000 in
/-- the place of a sector -/
theorem at_any (w : World) (b : Nat) (F : List Nat) (s : DiskS) (vl : Value) (bc bp nc : Nat) (Dc : DataW Value) (np : Nat) (Dp : DataW Value) (h : DiskX w b F s vl bc bp nc Dc np Dp) (i : Nat) (hi : i < s.last.length) :
    Calls Tryz.prog 63 #[.pointer (some ⟨b, 0, none⟩), .int .i64 i] w (Post w [] fun v W => ∃ bl c, vl.ownBlock = some bl ∧ v = .slice (some ⟨bl, i * s.size, none⟩) s.size c ∧ s.size ≤ c ∧ c ≤ maxLen) := by
  obtain ⟨bl, ⟨A, c, rfl, h1, h2, h3, h4⟩, h5⟩ := h.las.sl
  have c0 := h.blk.cell 0 rfl
  have c1 := h.blk.cell 1 rfl
  have bd := bytes_bd h.ok
  have e := h.ok.bytes_len
  have s1 := h.ok.s1
  have s2 := h.ok.s2
  have n1 := h.ok.n1
  have hne : s.bytes ≠ [] := by
    intro h0
    rw [h0] at e
    have := Nat.mul_pos (show 0 < s.last.length by omega) s1
    simp at e
    omega
  have hA := h3 hne
  have hb5 : (Value.slice A s.bytes.length c).ownBlock = some bl := by
    rcases h5 with h5 | h5
    · exact absurd h5 hne
    · exact h5.1
  subst hA
  have hm : (i + 1) * s.size ≤ s.last.length * s.size := Nat.mul_le_mul_right _ hi
  rw [← e, Nat.succ_mul] at hm
  have e1 : ((i : Int) * (s.size : Int)) = ((i * s.size : Nat) : Int) := by simp
  have e2 : (((i : Int) + 1) * (s.size : Int)) = ((i * s.size : Nat) : Int) + (s.size : Int) := by rw [Int.add_mul]; simp
  generalize i * s.size = m at *
  generalize s.bytes.length = L at *
  have HB := Lib.hid hb5
  have H2 := Lib.hid h2
  clear h h3 h4 h5 hb5 h2 e hne
  have i0 : (0 : Int) ≤ i := by omega
  have i1 : (i : Int) ≤ 4096 := by omega
  have m0 : (0 : Int) ≤ m := by omega
  have m1 : (m : Int) ≤ 16777216 := by omega
  have t1 : (1 : Int) ≤ s.size := by omega
  have t2 : (s.size : Int) ≤ 4096 := by omega
  have hmc : m + s.size ≤ c := by omega
  have hmi : (m : Int) + (s.size : Int) ≤ c := by omega
  have hlt : m < c := by omega
  go_enter Tryz.func63, Tryz.ntmps63
  go_wp2_with fail
  go_region
  all_goals (
    go_wp2_with fail
    go_ret
    exact ⟨_, rfl, ⟨bl, c - m, HB.out, congrArg (fun n => Value.slice (some ⟨bl, m, none⟩) n (c - m)) (Nat.add_sub_cancel_left m s.size), by omega, by have := H2.out; omega⟩, (Kept.refl _ _).drew⟩)
/-- a sector that is cached -/
theorem look_some {w : World} {b : Nat} {F : List Nat} {s : DiskS} {vl : Value} {bc bp nc : Nat} {Dc : DataW Value} {np : Nat} {Dp : DataW Value} (h : DiskX w b F s vl bc bp nc Dc np Dp) {i : Nat} {l : List Int} (hl : s.cach[i]?.join = some l) :
    ∃ v, (∀ n, (Instr.lookup 99 (.map (some bc)) (.int .i64 i) true).run Tryz.prog (w.drewN n) = .ok (.tuple #[v, .bool true]) (w.drewN n)) ∧ (∀ n, (Instr.lookup 99 (.map (some bc)) (.int .i64 i) false).run Tryz.prog (w.drewN n) = .ok v (w.drewN n)) ∧
      Row8 w v l ∧ (∀ g, v.ownBlock = some g → g ∈ F ∧ vl.ownBlock ≠ some g) := by
  have hi : i < s.cach.length := by
    cases hc : s.cach[i]? with
    | none => rw [hc] at hl; simp at hl
    | some o => exact (List.getElem?_eq_some_iff.1 hc).1
  have := h.ok.nc
  have := h.ok.n1
  obtain ⟨v, h1, h2, h3, h4⟩ := h.cof.yes i l hl
  refine ⟨v, fun n => ?_, fun n => ?_, h3, h4⟩
  · have hd : (w.drewN n).ownsMap Tryz.prog 3 heldR bc nc Dc := h.cac
    obtain ⟨v', ps, hr, hv⟩ := hd.look_ok keyedI Tryz.underlying99 (zero8s _) (zd := .held (.slice none 0 0)) (zp := []) rfl (keyi (x := i) (by omega) (by omega))
    rw [h1, h2] at *
    simp only [heldR, Option.some.injEq, Prod.mk.injEq, DataW.held.injEq] at hv
    rw [hr, hv.1]
  · have hd : (w.drewN n).ownsMap Tryz.prog 3 heldR bc nc Dc := h.cac
    obtain ⟨v', ps, hr, hv⟩ := hd.lookup keyedI Tryz.underlying99 (zero8s _) (zd := .held (.slice none 0 0)) (zp := []) rfl (keyi (x := i) (by omega) (by omega))
    rw [h2] at hv
    simp only [heldR, Option.some.injEq, Prod.mk.injEq, DataW.held.injEq] at hv
    rw [hr, hv.1]
theorem look_none {w : World} {b : Nat} {F : List Nat} {s : DiskS} {vl : Value} {bc bp nc : Nat} {Dc : DataW Value} {np : Nat} {Dp : DataW Value} (h : DiskX w b F s vl bc bp nc Dc np Dp) {i : Nat} (hi : i < s.last.length) (hl : s.cach[i]?.join = none) :
    ∀ n, (Instr.lookup 99 (.map (some bc)) (.int .i64 i) true).run Tryz.prog (w.drewN n) = .ok (.tuple #[.slice none 0 0, .bool false]) (w.drewN n) := by
  intro n
  have := h.ok.nc
  have := h.ok.n1
  have h1 := h.cof.no i (by omega) hl
  have hd : (w.drewN n).ownsMap Tryz.prog 3 heldR bc nc Dc := h.cac
  obtain ⟨v', ps, hr, hv⟩ := hd.look_ok keyedI Tryz.underlying99 (zero8s _) (zd := .held (.slice none 0 0)) (zp := []) rfl (keyi (x := i) (by omega) (by omega))
  rw [Maps.atKey_of_not_has h1] at hv
  rw [h1] at hr
  simp only [heldR, Option.some.injEq, Prod.mk.injEq, DataW.held.injEq] at hv
  rw [hr, hv.1]
theorem DiskS.tick_ok {s : DiskS} (h : s.Ok) (ho : s.ops < 1000000000) : s.tick.Ok := ⟨h.s1, h.s2, h.n1, h.nc, h.ls, h.cs, by show s.ops + 1 ≤ _; omega, by show s.writes ≤ s.ops + 1; have := h.wr; omega, h.ma⟩
set_option maxRecDepth 100000 in
set_option maxHeartbeats 2000000 in
theorem read_any (w : World) (b : Nat) (F : List Nat) (s : DiskS) (h : DiskAt w b F s) (ho : s.ops < 1000000000) (i : Int) :
    Calls Tryz.prog 103 #[.pointer (some ⟨b, 0, none⟩), .int .i64 i] w (Post w [b] fun v W => ∃ r, v = .tuple #[r, .int .i64 (s.read i).2] ∧ Own 5 .u8 W w.heap.size r (s.read i).1 ∧ DiskAt W b F s.tick) := by
  have hok := h.ok
  have hn1 := hok.n1
  have hbl := bytes_bd hok
  have HO := Lib.hid hok
  have hn1i : (s.last.length : Int) ≤ 4096 := by omega
  clear hok hbl
  go_enter Tryz.func103, Tryz.ntmps103
  go_wp2_with fail
  refine (fails_any w b F s h ho).mono ?_
  rintro _ w1 ⟨_, rfl, ⟨rfl, h1⟩, k1⟩
  have H1 := Lib.hid h1
  have K1 := Lib.hid k1
  clear h h1 k1
  by_cases hf : s.fails = true
  · go_wp2_with fail
    go_ret2
    have e : s.read i = ([], 3) := by simp [DiskS.read, hf]
    refine ⟨_, rfl, ⟨_, by rw [e]; rfl, ?_, H1.out⟩, K1.out⟩
    rw [e]; exact Own.nil _ _ _ _
  replace hf : s.fails = false := by simpa using hf
  by_cases hneg : i < 0
  · go_wp2_with fail
    go_ret2
    have e : s.read i = ([], 2) := by simp [DiskS.read, hf, hneg]
    refine ⟨_, rfl, ⟨_, by rw [e]; rfl, ?_, H1.out⟩, K1.out⟩
    rw [e]; exact Own.nil _ _ _ _
  have hpos : 0 ≤ i := by omega
  go_wp2_with fail
  refine (sectors_any w1 b F s.tick H1.out).mono ?_
  rintro _ w2 ⟨_, rfl, rfl, k2⟩
  have h2 := H1.out.kept k2 (by simp)
  have K2 := Lib.hid (K1.out.trans k2 (by simp))
  have e0 : s.tick.last = s.last := rfl
  rw [e0]
  clear e0 k2
  replace h2 := Lib.hid h2
  by_cases hout : (s.last.length : Int) ≤ i
  · go_wp2_with fail
    go_ret2
    have e : s.read i = ([], 2) := by simp [DiskS.read, hf, hout]
    refine ⟨_, rfl, ⟨_, by rw [e]; rfl, ?_, h2.out⟩, K2.out⟩
    rw [e]; exact Own.nil _ _ _ _
  have hin : i < (s.last.length : Int) := by omega
  obtain ⟨j, rfl⟩ := Int.eq_ofNat_of_zero_le hpos
  have hj : j < s.last.length := by omega
  have h3 := h2.out
  obtain ⟨vl, bc, bp, nc, Dc, np, Dp, hx⟩ := h3
  have c2 := hx.blk.cell 2 rfl
  have HX := Lib.hid hx
  have e0 : s.tick.cach = s.cach := rfl
  cases hc : s.cach[j]?.join with
  | some l =>
    obtain ⟨v, g1, _, g2, g3⟩ := look_some hx (i := j) (l := l) hc
    have e : s.read (j : Int) = (l, 0) := by first | (simp [DiskS.read, hf, hc]; done) | (simp [DiskS.read, hf, hc]; omega) | (simp [DiskS.read, hf, hc]; intro; omega)
    have E := Lib.hid e
    have G1 := g1 0
    obtain ⟨bv, hsl, _⟩ := Own.sl g2
    have HS := Lib.hid hsl
    have hll : l.length = s.size := (HO.out.cs l (mem_join hc)).1
    have hs2 := HO.out.s2
    have HL := Lib.hid (show l.length ≤ 140737488351232 by omega)
    clear g1 g2 g3 hx hc hsl hll hs2 e e0
    change Sem.run _ _ w2 = Result.ok _ w2 at G1
    go_wp2_with fail
    refine (clone_any _ _ bv 0 l HS.out HL.out).mono ?_
    rintro _ w3 ⟨_, rfl, hr, k3⟩
    have h5 := h2.out.kept k3 (by simp)
    have K3 := Lib.hid (K2.out.trans k3 (by simp))
    replace hr := Lib.hid hr
    replace h5 := Lib.hid h5
    clear k3
    go_wp2_with fail
    go_ret2
    refine ⟨_, rfl, ⟨_, by rw [E.out]; rfl, ?_, h5.out⟩, K3.out⟩
    rw [E.out]; exact Own.mono hr.out K2.out.size
  | none =>
    have G1 := look_none hx (i := j) hj hc 0
    have e : s.read (j : Int) = (s.last[j]?.getD [], 0) := by first | (simp [DiskS.read, hf, hc]; done) | (simp [DiskS.read, hf, hc]; omega) | (simp [DiskS.read, hf, hc]; intro; omega)
    have E := Lib.hid e
    have hl := List.getElem?_eq_getElem hj
    have hsec := HO.out.ls _ (List.getElem_mem hj)
    have hs2 := HO.out.s2
    have hpart := flatten_part HO.out.ls j hj
    clear hx hc e e0
    have HP := Lib.hid hpart
    have HSC := Lib.hid hsec
    have HG := Lib.hid hl
    clear hl hsec hpart
    change Sem.run _ _ w2 = Result.ok _ w2 at G1
    go_wp2_with fail
    refine (at_any w2 b F s.tick vl bc bp nc Dc np Dp HX.out j hj).mono ?_
    rintro _ w3 ⟨_, rfl, ⟨bl, c, hbl, rfl, hc1, hc2⟩, k3⟩
    have h5 := h2.out.kept k3 (by simp)
    have K3 := Lib.hid (K2.out.trans k3 (by simp))
    obtain ⟨b', hsl, hb'⟩ := HX.out.las.sl
    have hsz : s.tick.size = s.size := rfl
    have hlen : j * s.size + s.size ≤ s.bytes.length := by
      rw [HO.out.bytes_len, ← Nat.succ_mul]
      exact Nat.mul_le_mul_right _ hj
    have h1s := HO.out.s1
    have hsl2 : Sl .u8 w3 (.slice (some ⟨bl, j * s.size, none⟩) s.size c) bl (j * s.size) s.last[j] := by
      have hp := (hsl.kept k3 (by simp)).part (j * s.size) s.size c (show j * s.size + s.size ≤ s.tick.bytes.length from hlen) hc1 hc2 (by omega)
      have eb : s.tick.bytes = s.last.flatten := rfl
      rw [eb, HP.out] at hp
      rcases hb' with hb' | hb'
      · rw [hb'] at hsl
        have : s.bytes = [] := hb'
        rw [this] at hlen
        simp at hlen
        omega
      · rw [hbl] at hb'
        simp only [Option.some.injEq] at hb'
        rw [← hb'.1] at hp
        simpa using hp
    replace h5 := Lib.hid h5
    replace hsl2 := Lib.hid hsl2
    clear hsl hb' hbl k3 hlen hsz
    go_wp2_with fail
    refine (clone_any _ _ bl (j * s.size) _ hsl2.out (by rw [HSC.out.1]; omega)).mono ?_
    rintro _ w4 ⟨_, rfl, hr, k4⟩
    have h6 := h5.out.kept k4 (by simp)
    have K4 := Lib.hid (K3.out.trans k4 (by simp))
    replace hr := Lib.hid hr
    replace h6 := Lib.hid h6
    clear k4
    go_wp2_with fail
    go_ret2
    refine ⟨_, rfl, ⟨_, by rw [E.out]; rfl, ?_, h6.out⟩, K4.out⟩
    rw [E.out, HG.out]; exact Own.mono hr.out K3.out.size
end Go.Proofs.YtcikhnkehglkgaaGreatDoor
namespace Go.Proofs.YtcikhnkehglkgaaGreatDoor
open Go.RowKit Go.Proofs.YtcikhnkehglkgaaGreatDoorLib Go.WideElems Go.Maps Go.ChangeMaps
set_option linter.unusedSimpArgs false
set_option linter.unusedVariables false

theorem DiskX.more {w : World} {b : Nat} {F F' : List Nat} {s : DiskS} {vl : Value} {bc bp nc : Nat} {Dc : DataW Value} {np : Nat} {Dp : DataW Value} (h : DiskX w b F s vl bc bp nc Dc np Dp) (hF : ∀ g, g ∈ F → g ∈ F') (hl : ∀ g, g ∈ F' → g < w.heap.size) : DiskX w b F' s vl bc bp nc Dc np Dp :=
  ⟨h.ok, h.blk, h.las, h.cac, h.ncl, ⟨h.cof.no, fun i l hi => let ⟨v, h1, h2, h3, h4⟩ := h.cof.yes i l hi; ⟨v, h1, h2, h3, fun g hg => ⟨hF g (h4 g hg).1, (h4 g hg).2⟩⟩, h.cof.key⟩, h.pla, h.npl, h.pof, h.ne, hF _ h.fb, hF _ h.fc, hF _ h.fp, fun g hg => hF g (h.fl g hg), hl⟩
/-- a sector is cached -/
theorem DiskX.stored {w w1 : World} {b : Nat} {F F' : List Nat} {s : DiskS} {vl : Value} {bc bp nc : Nat} {Dc : DataW Value} {np : Nat} {Dp : DataW Value} (h : DiskX w b F s vl bc bp nc Dc np Dp) {i : Nat} {v : Value} {l : List Int} (hF : ∀ g, g ∈ F → g ∈ F') (hlt : ∀ g, g ∈ F' → g < w1.heap.size) (hk : Kept w w1 [b, bc])
    (hb : Blk w1 b 102 [.int .i64 s.size, vl, .map (some bc), .map (some bp), .int .i64 s.ops, .int .i64 (s.writes + 1 : Nat)]) (hm : w1.ownsMap Tryz.prog 3 heldR bc (nc + 1) (Dc.put (.int .i64 i) (.held v))) (hv : Row8 w1 v l)
    (hg : ∀ g, v.ownBlock = some g → g ∈ F' ∧ vl.ownBlock ≠ some g) (hi : i < s.cach.length) (hl : Sec s.size l) (hw : s.writes + 1 ≤ s.ops) : DiskX w1 b F' { s with cach := s.cach.set i (some l), writes := s.writes + 1 } vl bc bp (nc + 1) (Dc.put (.int .i64 i) (.held v)) np Dp := by
  have hne : ∀ j : Nat, j ≠ i → (Lit.int .i64 (j : Int)) ≠ .int .i64 (i : Int) := fun j hj e => hj (by injection e with _ e; omega)
  have hIs := h.cac.isMap
  have hb1 := Own.ne_cells h.las h.blk (by decide)
  have hb2 := Own.ne_map h.las h.cac
  have hb3 := Blk.ne_map h.blk h.pla
  have hget : ∀ (j : Nat), (s.cach.set i (some l))[j]?.join = if j = i then some l else s.cach[j]?.join := by
    intro j
    rw [List.getElem?_set]
    by_cases hj : i = j
    · subst hj; simp [hi]
    · rw [if_neg hj, if_neg (fun e => hj e.symm)]
  refine ⟨⟨h.ok.s1, h.ok.s2, h.ok.n1, ?_, h.ok.ls, ?_, h.ok.op, hw, h.ok.ma⟩, hb, h.las.kept hk ?_, hm, Nat.succ_le_succ h.ncl, ⟨?_, ?_, ?_⟩, map_kept h.pla hk ?_, h.npl, h.pof, h.ne, hF _ h.fb, hF _ h.fc, hF _ h.fp, fun g hg => hF g (h.fl g hg), hlt⟩
  · show (s.cach.set i (some l)).length = s.last.length
    rw [List.length_set]; exact h.ok.nc
  · intro x hx
    rcases List.mem_or_eq_of_mem_set hx with h1 | h1
    · exact h.ok.cs x h1
    · simp only [Option.some.injEq] at h1; exact h1 ▸ hl
  · intro g hgl hm
    simp at hm
    rcases hm with rfl | rfl
    · exact hb1 hgl
    · exact hb2 hgl
  · intro j hj hn
    change j < (s.cach.set i (some l)).length at hj
    change (s.cach.set i (some l))[j]?.join = none at hn
    rw [hget] at hn
    split at hn
    · cases hn
    · rename_i hji
      rw [Maps.has_put_other (hne j hji)]
      exact h.cof.no j (by simpa using hj) hn
  · intro j x hx
    change (s.cach.set i (some l))[j]?.join = some x at hx
    rw [hget] at hx
    split at hx
    · rename_i hji
      subst hji
      simp only [Option.some.injEq] at hx
      subst hx
      exact ⟨v, Maps.has_put_same hIs (by simp [WideAt.IsKeyLit]) _, fun z => Maps.atKey_put_same hIs (by simp [WideAt.IsKeyLit]) _ z, hv, hg⟩
    · rename_i hji
      obtain ⟨v', h1, h2, h3, h4⟩ := h.cof.yes j x hx
      refine ⟨v', by rw [Maps.has_put_other (hne j hji)]; exact h1, fun z => by rw [Maps.atKey_put_other (hne j hji)]; exact h2 z, h3.kept hk (fun g hgv hm => ?_), fun g hg => ⟨hF g (h4 g hg).1, (h4 g hg).2⟩⟩
      have n1 := Own.ne_cells h3 h.blk (by decide)
      have n2 := Own.ne_map h3 h.cac
      simp at hm
      rcases hm with rfl | rfl
      · exact n1 hgv
      · exact n2 hgv
  · intro kl hkl
    by_cases e : kl = .int .i64 (i : Int)
    · exact ⟨i, by show i < (s.cach.set i (some l)).length; simpa using hi, e⟩
    · rw [Maps.has_put_other e] at hkl
      obtain ⟨j, hj, e⟩ := h.cof.key kl hkl
      exact ⟨j, by show j < (s.cach.set i (some l)).length; simpa using hj, e⟩
  · simp; exact ⟨fun e => hb3 e.symm, fun e => h.ne e.symm⟩
theorem DiskX.drew {w : World} {b : Nat} {F : List Nat} {s : DiskS} {vl : Value} {bc bp nc : Nat} {Dc : DataW Value} {np : Nat} {Dp : DataW Value} (h : DiskX w b F s vl bc bp nc Dc np Dp) : DiskX w.drew b F s vl bc bp nc Dc np Dp :=
  h.kept (S := []) (Kept.refl w []).drew (by simp)
/-- what a Write, a Crash .. leaves: the disk, with blocks that it had or new ones -/
def DiskOn (w : World) (n b : Nat) (F : List Nat) (s : DiskS) : Prop := ∃ F', (∀ g, g ∈ F' → g ∈ F ∨ n ≤ g) ∧ DiskAt w b F' s
theorem DiskX.store {w w3 : World} {b : Nat} {F : List Nat} {s : DiskS} {vl : Value} {bc bp nc : Nat} {Dc : DataW Value} {np : Nat} {Dp : DataW Value} (h : DiskX w b F s vl bc bp nc Dc np Dp) (k3 : Kept w w3 []) (j : Nat) (hj : j < s.last.length) (v : Value) :
    ∃ w4, (Instr.mapUpdate 99 (.map (some bc)) (.int .i64 j) v).run Tryz.prog w3 = .ok () w4 ∧ w4.ownsMap Tryz.prog 3 heldR bc (nc + 1) (Dc.put (.int .i64 j) (.held v)) ∧ Kept w w4 [bc] ∧ Kept w3 w4 [bc] ∧ w4.cell? ⟨b, 2, none⟩ = some (.map (some bc)) := by
  have hm3 := map_kept h.cac k3 (by simp)
  have h1 := h.ncl
  have h2 := h.ok.wr
  have h3 := h.ok.op
  have h4 := h.ok.n1
  obtain ⟨w4, hrun, hm4, ht4⟩ := hm3.store keyedI Tryz.underlying99 (by unfold maxLen; omega) (keyi (x := j) (by omega) (by omega)) (val := v) (d := .held v) (ps := []) rfl
  have k4 := kept_turned (Kept.refl w3 [bc]) ht4 (.inl (by simp))
  have k5 := kept_turned (k3.mono (S2 := [bc]) (by simp)) ht4 (.inl (by simp))
  exact ⟨w4, hrun, hm4, k5, k4, k5.cell (h.blk.cell 2 rfl) (by have := Blk.ne_map h.blk h.cac; simpa using this)⟩
set_option maxRecDepth 100000 in
set_option maxHeartbeats 4000000 in
theorem write_any (w : World) (b : Nat) (F : List Nat) (s : DiskS) (h : DiskAt w b F s) (ho : s.ops < 1000000000) (i : Int) (v : Value) (bq off : Nat) (l : List Int) (hs : Sl .u8 w v bq off l) (hq : l = [] ∨ bq ∉ F) (hB : Bts l) :
    Calls Tryz.prog 105 #[.pointer (some ⟨b, 0, none⟩), .int .i64 i, v] w (Post w F fun r W => r = .int .i64 (s.write i l).2 ∧ DiskOn W w.heap.size b F (s.write i l).1) := by
  have hok := h.ok
  have hn1 := hok.n1
  have hs1 := hok.s1
  have hs2 := hok.s2
  have hfb := h.fb
  have HLEN := Lib.hid hs.len
  have HQ := Lib.hid hq
  have HBT := Lib.hid hB
  have HSL := Lib.hid hs
  have HO := Lib.hid hok
  have hn1i : (s.last.length : Int) ≤ 4096 := by omega
  obtain ⟨A, c, rfl, h1, h2, h3, h4⟩ := hs
  have HF := Lib.hid hfb
  clear hok h1 h2 h3 h4 hq hB hfb
  go_enter Tryz.func105, Tryz.ntmps105
  go_wp2_with fail
  refine (fails_any w b F s h ho).mono ?_
  rintro _ w1 ⟨_, rfl, ⟨rfl, h1⟩, k1⟩
  have K1 := Lib.hid (k1.mono (S2 := F) (fun g hg => by simp at hg; subst hg; exact .inl HF.out))
  have HSL1 := Lib.hid (HSL.out.kept k1 (HQ.out.imp id (fun hq hm => by simp at hm; subst hm; exact hq HF.out)))
  have H1 := Lib.hid h1
  clear h h1 k1 HSL
  by_cases hf : s.fails = true
  · go_wp2_with fail
    go_ret
    have e : s.write i l = (s.tick, 3) := by simp [DiskS.write, hf]
    refine ⟨_, rfl, ⟨by rw [e]; rfl, ?_⟩, K1.out⟩
    rw [e]; exact ⟨F, fun g hg => .inl hg, H1.out⟩
  replace hf : s.fails = false := by simpa using hf
  by_cases hneg : i < 0
  · go_wp2_with fail
    go_ret
    have e : s.write i l = (s.tick, 2) := by simp [DiskS.write, hf, hneg]
    refine ⟨_, rfl, ⟨by rw [e]; rfl, ?_⟩, K1.out⟩
    rw [e]; exact ⟨F, fun g hg => .inl hg, H1.out⟩
  have hpos : 0 ≤ i := by omega
  go_wp2_with fail
  refine (sectors_any w1 b F s.tick H1.out).mono ?_
  rintro _ w2 ⟨_, rfl, rfl, k2⟩
  have h2 := H1.out.kept k2 (by simp)
  have K2 := Lib.hid (K1.out.trans k2 (by simp))
  have HSL2 := Lib.hid (HSL1.out.kept k2 (.inr (by simp)))
  have e0 : s.tick.last = s.last := rfl
  rw [e0]
  clear e0 k2 HSL1 K1 H1
  replace h2 := Lib.hid h2
  by_cases hout : (s.last.length : Int) ≤ i
  · go_wp2_with fail
    go_ret
    have e : s.write i l = (s.tick, 4) := by simp [DiskS.write, hf, hout, hneg]
    refine ⟨_, rfl, ⟨by rw [e]; rfl, ?_⟩, K2.out⟩
    rw [e]; exact ⟨F, fun g hg => .inl hg, h2.out⟩
  have hin : i < (s.last.length : Int) := by omega
  obtain ⟨j, rfl⟩ := Int.eq_ofNat_of_zero_le hpos
  have hj : j < s.last.length := by omega
  obtain ⟨vl, bc, bp, nc, Dc, np, Dp, hx⟩ := h2.out
  have c0 : w2.cell? ⟨b, 0, none⟩ = some (.int .i64 s.size) := hx.blk.cell 0 rfl
  have c2 := hx.blk.cell 2 rfl
  have HX := Lib.hid hx
  clear hx h2
  by_cases hln : l.length ≠ s.size
  · have hd : ((l.length : Int) != (s.size : Int)) = true := by simp; omega
    go_wp2_with fail
    go_ret
    have e : s.write (j : Int) l = (s.tick, 1) := by unfold DiskS.write; rw [if_neg (by simp [hf]), if_neg (by omega), if_neg (by omega), if_pos hln]
    refine ⟨_, rfl, ⟨by rw [e]; rfl, ?_⟩, K2.out⟩
    rw [e]; exact ⟨F, fun g hg => .inl hg, vl, bc, bp, nc, Dc, np, Dp, HX.out⟩
  replace hln : l.length = s.size := by omega
  have hd : ((l.length : Int) != (s.size : Int)) = false := by simp; omega
  have e : s.write (j : Int) l = ({ s.tick with cach := s.cach.set j (some l), writes := s.writes + 1 }, 0) := by
    unfold DiskS.write
    rw [if_neg (by simp [hf]), if_neg (by omega), if_neg (by omega), if_neg (by omega)]
    rfl
  have E := Lib.hid e
  have HLN := Lib.hid hln
  have hwr := HO.out.wr
  clear e hln
  have C3 := HX.out.cac
  have hgx := HSL2.out
  have c2d : w2.drew.cell? ⟨b, 2, none⟩ = some (.map (some bc)) := c2
  go_wp2_with fail
  go_region_held3 (fun W => W.cell? ⟨b, 2, none⟩ = some (.map (some bc))) (first | (with_reducible exact c2d) | (with_reducible exact c3) | (with_reducible exact c4) | go_keep) (first | (
    go_at_call 56
    refine (clone_any _ _ bq off l HSL2.out.drew (by have := HLN.out; omega)).mono ?_
    rintro _ w3 ⟨v, rfl, hv, k3⟩
    have c3 := k3.cell (w := w2.drew) c2 (by simp)
    obtain ⟨w4, hrun, hm4, k5, k4, c4⟩ := HX.out.drew.store k3 j hj v
    replace hm4 := Lib.hid hm4
    ))
  have hc5 : w4.cell? ⟨b, 5, none⟩ = some (.int .i64 s.writes) := k5.cell (HX.out.drew.blk.cell 5 rfl) (by have := Blk.ne_map HX.out.blk HX.out.cac; simpa using this)
  have hb4 := HX.out.drew.blk.kept k5 (by have := Blk.ne_map HX.out.blk HX.out.cac; simpa using this)
  have f5 := hb4.free 5
  have w0 : (0 : Int) ≤ s.writes := by omega
  have w1' : (s.writes : Int) ≤ 1000000000 := by omega
  have HB5 := Lib.hid (hb4.set 5 (.int .i64 ((s.writes : Int) + 1)))
  have K5 := Lib.hid k5
  have KG := Lib.hid k4
  clear hb4 k5 k4 c4 c3 hrun k3
  go_wp2_with fail
  go_ret
  have hx := HX.out
  have kk := (K5.out.mono (S2 := [b, bc]) (by simp)).setCell (p := ⟨b, 5, none⟩) (by simp) (.int .i64 ((s.writes : Int) + 1))
  have hgv : ∀ g, v.ownBlock = some g → w2.heap.size ≤ g ∧ g < w4.heap.size := by
    intro g hg
    have h1 := Own.lt hv g hg
    exact ⟨h1.1, Nat.lt_of_lt_of_le h1.2 KG.out.size⟩
  have hv4 := (Own.mono (hv.kept KG.out (by
    intro g hg hm
    have h1 := hgv g hg
    have h2 := hx.lt bc hx.fc
    simp at hm
    omega)) (Nat.zero_le _)).far (p := ⟨b, 5, none⟩) (by
    intro hg
    have h1 := hgv _ hg
    have h2 := hx.lt b hx.fb
    dsimp only at h1
    omega) (.int .i64 ((s.writes : Int) + 1))
  have k6 : Kept w2 w4 [bc] := (Kept.refl w2 [bc]).drew.trans K5.out (fun g hg => .inl hg)
  have hlt : ∀ g, g ∈ v.ownBlock.toList ++ F → g < w2.heap.size ∨ v.ownBlock = some g := by
    intro g hg
    simp only [List.mem_append, Option.mem_toList] at hg
    rcases hg with hg | hg
    · exact .inr hg
    · exact .inl (hx.lt g hg)
  refine ⟨_, rfl, ⟨by rw [E.out]; rfl, ?_⟩, (K2.out.trans (k6.mono (S2 := F) (fun g hg => by simp at hg; subst hg; exact .inl hx.fc)) (fun g hg => .inl hg)).setCell (.inl hx.fb) _⟩
  rw [E.out]
  refine ⟨v.ownBlock.toList ++ F, ?_, vl, bc, bp, nc + 1, Dc.put (.int .i64 j) (.held v), np, Dp, ?_⟩
  · intro g hg
    simp only [List.mem_append, Option.mem_toList] at hg
    rcases hg with hg | hg
    · exact .inr (Nat.le_trans K2.out.size (hgv g hg).1)
    · exact .inl hg
  have hx1 : DiskX (w4.setCell ⟨b, 5, none⟩ (.int .i64 ((s.writes : Int) + 1))) b (v.ownBlock.toList ++ F) { s.tick with cach := s.tick.cach.set j (some l), writes := s.tick.writes + 1 } vl bc bp (nc + 1) (Dc.put (.int .i64 j) (.held v)) np Dp := by
    have hsz := kk.size
    have hx0 := (hx.kept (S := []) (Kept.refl w2 []) (by simp))
    have hbig : ∀ g, g ∈ v.ownBlock.toList ++ F → g < (w4.setCell ⟨b, 5, none⟩ (.int .i64 ((s.writes : Int) + 1))).heap.size := by
      intro g hg
      rcases hlt g hg with h | h
      · have : w2.heap.size ≤ _ := kk.size
        omega
      · have := (hgv g h).2
        simp [World.setCell]
        exact this
    obtain ⟨a1, a2, a3, a4, a5, a6, a7, a8, a9, a10, a11, a12, a13, a14, a15⟩ := hx
    have hx' : DiskX w2 b F s.tick vl bc bp nc Dc np Dp := ⟨a1, a2, a3, a4, a5, a6, a7, a8, a9, a10, a11, a12, a13, a14, a15⟩
    have hst := hx'.stored (F' := v.ownBlock.toList ++ F) (v := v) (l := l) (i := j) (w1 := w4.setCell ⟨b, 5, none⟩ (.int .i64 ((s.writes : Int) + 1)))
      (fun g hg => by simp [hg]) hbig ((Kept.refl w2 _).drew.trans kk (fun g hg => .inl hg)) (HB5.out.to (by simp; rfl)) (hm4.out.setCell (by have := Blk.ne_map hx'.blk hx'.cac; exact fun e => this e.symm) _) hv4
      (fun g hg => ⟨by simp [hg], fun e => by have h1 := (hgv g hg).1; have h2 := hx'.lt g (hx'.fl g e); omega⟩) (by have := HO.out.nc; show j < s.cach.length; omega) ⟨HLN.out, HBT.out⟩ (by show s.writes + 1 ≤ s.ops + 1; omega)
    exact hst
  exact hx1
theorem fail_any (w : World) (b : Nat) (F : List Nat) (s : DiskS) (h : DiskAt w b F s) (hm : s.marks < 1000000000) (n : Int) (h0 : -9223372036854775808 ≤ n) (h1 : n ≤ 9223372036854775807) :
    Calls Tryz.prog 24 #[.pointer (some ⟨b, 0, none⟩), .int .i64 n] w (Post w F fun r W => r = .tuple #[] ∧ DiskAt W b F (s.fail n)) := by
  obtain ⟨vl, bc, bp, nc, Dc, np, Dp, h⟩ := h
  have c3 := h.blk.cell 3 rfl
  have HX := Lib.hid h
  have hz := zeroMark
  obtain ⟨w4, hrun, hm4, ht4⟩ := h.pla.store keyedI Tryz.underlying100 (by have := h.npl; unfold maxLen; omega) (keyi (x := n) h0 h1) (val := .agg #[]) Go.unitElem_mk
  have k4 := Lib.hid (kept_turned (Kept.refl w [bp]) ht4 (.inl (by simp)))
  replace hm4 := Lib.hid hm4
  clear h ht4
  go_enter Tryz.func24, Tryz.ntmps24
  go_wp2_with fail
  refine bodyPost_ret (v := .tuple #[]) (by simp [results, Tryz.results24, go_sem]) rfl ?_
  have hx := HX.out
  have hbp := Blk.ne_map hx.blk hx.pla
  have hne : ∀ m : Int, m ≠ n → (Lit.int .i64 m) ≠ .int .i64 n := fun m hj e => hj (by injection e)
  refine ⟨_, rfl, ⟨rfl, vl, bc, bp, nc, Dc, np + 1, Dp.put (.int .i64 n) (.agg []), ?_⟩, k4.out.mono (fun g hg => by simp at hg; subst hg; exact .inl hx.fp)⟩
  refine ⟨⟨hx.ok.s1, hx.ok.s2, hx.ok.n1, hx.ok.nc, hx.ok.ls, hx.ok.cs, hx.ok.op, hx.ok.wr, by show s.marks + 1 ≤ _; omega⟩, hx.blk.kept k4.out (by simpa using hbp), hx.las.kept k4.out ?_, map_kept hx.cac k4.out (by simpa using hx.ne), hx.ncl,
    hx.cof.kept' k4.out ?_, hm4.out, Nat.succ_le_succ hx.npl, ?_, hx.ne, hx.fb, hx.fc, hx.fp, hx.fl, fun g hg => Nat.lt_of_lt_of_le (hx.lt g hg) k4.out.size⟩
  · intro g hg hm
    have := Own.ne_map hx.las hx.pla
    simp at hm
    subst hm
    exact this hg
  · intro v l g hv hg hF hn
    refine ⟨fun hm => ?_, hF, hn⟩
    have := Own.ne_map hv hx.pla
    simp at hm
    subst hm
    exact this hg
  · intro m
    show Maps.has (Dp.put (.int .i64 n) (.agg [])) (.int .i64 m) = (s.plan m || m == n)
    by_cases e : m = n
    · subst e
      rw [Maps.has_put_same hx.pla.isMap (by simp [WideAt.IsKeyLit])]
      simp
    · rw [Maps.has_put_other (hne m e), hx.pof]
      simp [e]
end Go.Proofs.YtcikhnkehglkgaaGreatDoor
