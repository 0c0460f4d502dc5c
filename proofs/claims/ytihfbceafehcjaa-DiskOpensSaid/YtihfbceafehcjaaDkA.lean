/- PROVED: how a disk lies in memory, and the contracts of slices.Clone at bytes, and of what only looks at a disk. No conditions beyond those that each theorem states. -/
import Derived.Test.YtihfbceafehcjaaProg
import Derived.Test.YtihfbceafehcjaaDkP
import Derived.Lib.SliceRun
import Derived.Lib.Walk
import Derived.OwnWalk

namespace Go.Proofs.Ytihfbceafehcjaa
open Go.RowKit Go.Proofs.YtihfbceafehcjaaLib
set_option linter.unusedSimpArgs false
set_option linter.unusedVariables false

def heldR (v : Value) : Option (DataW Value × List MemPlace) := some (.held v, [])
abbrev Row8 (w : World) (v : Value) (l : List Int) : Prop := Own 5 .u8 w 0 v l
theorem map_kept {R : Value → Option (DataW Value × List MemPlace)} {w w1 : World} {k b n : Nat} {D : DataW Value} {S : List Nat} (h : w.ownsMap Try.prog k R b n D) (hk : Kept w w1 S) (hb : b ∉ S) : w1.ownsMap Try.prog k R b n D := by
  obtain ⟨es, clock, h1, h2⟩ := h
  refine ⟨es, clock, ?_, h2⟩
  rw [hk.block b ((Array.getElem?_eq_some_iff.1 h1).1) hb]
  exact h1
/-- which values a map of sectors has -/
structure CachOf (w : World) (F : List Nat) (vl : Value) (D : DataW Value) (c : List (Option (List Int))) : Prop where
  no : ∀ i : Nat, i < c.length → c[i]?.join = none → Maps.has D (.int .i64 i) = false
  yes : ∀ (i : Nat) (l : List Int), c[i]?.join = some l → ∃ v, Maps.has D (.int .i64 i) = true ∧ (∀ z, D.atKey (.int .i64 i) z = .held v) ∧ Row8 w v l ∧ (∀ g, v.ownBlock = some g → g ∈ F ∧ vl.ownBlock ≠ some g)
  key : ∀ kl, Maps.has D kl = true → ∃ i : Nat, i < c.length ∧ kl = .int .i64 i
structure DiskX (w : World) (b : Nat) (F : List Nat) (s : DiskS) (vl : Value) (bc bp nc : Nat) (Dc : DataW Value) (np : Nat) (Dp : DataW Value) : Prop where
  ok : s.Ok
  blk : Blk w b 70 [.int .i64 s.size, vl, .map (some bc), .map (some bp), .int .i64 s.ops, .int .i64 s.writes]
  las : Row8 w vl s.bytes
  cac : w.ownsMap Try.prog 3 heldR bc nc Dc
  ncl : nc ≤ s.writes
  cof : CachOf w F vl Dc s.cach
  pla : w.ownsMap Try.prog 3 Go.unitElem bp np Dp
  npl : np ≤ s.marks
  pof : ∀ n : Int, Maps.has Dp (.int .i64 n) = s.plan n
  ne : bc ≠ bp
  fb : b ∈ F
  fc : bc ∈ F
  fp : bp ∈ F
  fl : ∀ g, vl.ownBlock = some g → g ∈ F
  lt : ∀ g, g ∈ F → g < w.heap.size
/-- the disk s lies at block b, in the blocks F -/
def DiskAt (w : World) (b : Nat) (F : List Nat) (s : DiskS) : Prop := ∃ vl bc bp nc Dc np Dp, DiskX w b F s vl bc bp nc Dc np Dp
theorem CachOf.kept {w w1 : World} {F : List Nat} {vl : Value} {D : DataW Value} {c : List (Option (List Int))} {S : List Nat} (h : CachOf w F vl D c) (hk : Kept w w1 S) (hS : ∀ k, k ∈ S → k ∉ F) : CachOf w1 F vl D c :=
  ⟨h.no, fun i l hi => let ⟨v, h1, h2, h3, h4⟩ := h.yes i l hi; ⟨v, h1, h2, h3.kept hk (fun g hg hm => hS g hm (h4 g hg).1), h4⟩, h.key⟩
theorem DiskX.kept {w w1 : World} {b : Nat} {F : List Nat} {s : DiskS} {vl : Value} {bc bp nc : Nat} {Dc : DataW Value} {np : Nat} {Dp : DataW Value} {S : List Nat} (h : DiskX w b F s vl bc bp nc Dc np Dp) (hk : Kept w w1 S) (hS : ∀ k, k ∈ S → k ∉ F) : DiskX w1 b F s vl bc bp nc Dc np Dp :=
  ⟨h.ok, h.blk.kept hk (fun hm => hS b hm h.fb), h.las.kept hk (fun g hg hm => hS g hm (h.fl g hg)), map_kept h.cac hk (fun hm => hS bc hm h.fc), h.ncl, h.cof.kept hk hS, map_kept h.pla hk (fun hm => hS bp hm h.fp), h.npl, h.pof, h.ne, h.fb, h.fc, h.fp, h.fl,
    fun g hg => Nat.lt_of_lt_of_le (h.lt g hg) hk.size⟩
theorem DiskAt.kept {w w1 : World} {b : Nat} {F : List Nat} {s : DiskS} {S : List Nat} (h : DiskAt w b F s) (hk : Kept w w1 S) (hS : ∀ k, k ∈ S → k ∉ F) : DiskAt w1 b F s := by
  obtain ⟨vl, bc, bp, nc, Dc, np, Dp, h⟩ := h
  exact ⟨vl, bc, bp, nc, Dc, np, Dp, h.kept hk hS⟩
theorem DiskAt.ok {w : World} {b : Nat} {F : List Nat} {s : DiskS} (h : DiskAt w b F s) : s.Ok := let ⟨_, _, _, _, _, _, _, h⟩ := h; h.ok
theorem DiskAt.lt {w : World} {b : Nat} {F : List Nat} {s : DiskS} (h : DiskAt w b F s) : ∀ g, g ∈ F → g < w.heap.size := let ⟨_, _, _, _, _, _, _, h⟩ := h; h.lt
theorem DiskAt.fb {w : World} {b : Nat} {F : List Nat} {s : DiskS} (h : DiskAt w b F s) : b ∈ F := let ⟨_, _, _, _, _, _, _, h⟩ := h; h.fb

theorem info8 : (Try.prog.info? 5).map (fun i => (i.zero, i.size, i.bytes)) = some (some (.int .u8 0), 1, 1) := by kernel_rfl
theorem eqn8 (w : World) (a : Option Addr) (n c n' c' : Nat) : (binOp .eql 22 (.slice a n c) (.slice none n' c')).run Try.prog w = .ok (.bool a.isNone) w := Lib.run_eql_slice_nil w _ _ a n c n' c' Try.underlying22
set_option maxHeartbeats 2000000 in
set_option maxRecDepth 100000 in
/-- slices.Clone: a row of its own -/
theorem clone_any (w : World) (v : Value) (b off : Nat) (l : List Int) (h : Sl .u8 w v b off l) (hl : l.length ≤ 140737488351232) :
    Calls Try.prog 37 #[v] w (Post w [] fun r W => Own 5 .u8 W w.heap.size r l) := by
  have HS := Lib.hid h
  have HL := Lib.hid hl
  obtain ⟨A, c, rfl, h1, h2, h3, h4⟩ := h
  obtain ⟨i0, hi, hz0, hz1, hz2⟩ := info_parts info8
  have q22 := eqn8
  have u22 : ∀ w, Sem.run Try.prog (underlying 22) w = .ok (TypeDesc.slice 5) w := run_underlying Try.underlying22
  replace h3 := Lib.hid h3
  replace hi := Lib.hid hi
  replace hz0 := Lib.hid hz0
  replace hz1 := Lib.hid hz1
  replace hz2 := Lib.hid hz2
  clear h4 h2 h1 hl
  cases A with
  | none =>
    have hl0 : l = [] := by
      by_cases hz : l = []
      · exact hz
      · have := h3.out hz; cases this
    subst hl0
    go_enter Try.func37, Try.ntmps37
    go_wp2
    go_ret
    exact ⟨_, rfl, Own.nil _ _ _ _, Kept.refl _ _⟩
  | some a =>
    go_enter Try.func37, Try.ntmps37
    go_wp2_with (at_builtin; refine wpList_append_own _ rfl _ _ 22 rfl w.heap.size 5 i0 (.int .u8 0) 1 1 Try.underlying22 hi.out hz0.out hz1.out hz2.out rfl (by decide) _ _ _ rfl (World.ownsRow_made w #[] 0 (Nat.le_refl _) (Nat.zero_le _) rfl) a l.length c (l.map (Value.int .u8)) rfl ?qc1 ?qc2 ?qc3 ?qc4 ?qc5 ?qc6 ?_)
    case qc1 => simp
    case qc2 =>
      intro j u hj
      rw [List.getElem?_map] at hj
      cases hx : l[j]? with
      | none => rw [hx] at hj; simp at hj
      | some x =>
        rw [hx] at hj
        simp only [Option.map_some, Option.some.injEq] at hj
        subst hj
        have hne : l ≠ [] := by intro e; subst e; simp at hx
        have ha := h3.out hne
        simp only [Option.some.injEq] at ha
        subst ha
        rw [Addr.add_lit]
        exact Lib.cell?_alloc_some _ (HS.out.cell hx)
    case qc3 => intro u hu; obtain ⟨x, _, rfl⟩ := List.mem_map.1 hu; rfl
    case qc4 => have := HL.out; unfold maxLen; omega
    case qc5 => have := HL.out; omega
    case qc6 => simp
    intro v' w1 hown hgrow hnil
    have HG := Lib.hid hgrow
    have HO := Lib.hid hown
    clear hown hgrow hnil
    go_wp2
    go_ret
    refine ⟨v', rfl, by simpa [Own] using HO.out, ?_⟩
    refine ((Kept.refl w []).alloc _).trans (Kept.grown HG.out [w.heap.size] ?_) (by simp)
    intro g hg
    simp [Value.ownBlock] at hg
    simp [hg]
end Go.Proofs.Ytihfbceafehcjaa
