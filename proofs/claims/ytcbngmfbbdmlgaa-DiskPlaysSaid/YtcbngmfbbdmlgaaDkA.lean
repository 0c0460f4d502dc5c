/- PROVED: how a disk lies in memory, and the contracts of slices.Clone at bytes, and of what only looks at a disk. No conditions beyond those that each theorem states. -/
import Derived.Test.YtcbngmfbbdmlgaaProg
import Derived.Test.YtcbngmfbbdmlgaaDkP
import Derived.Test.YtcbngmfbbdmlgaaClo
import Derived.Lib.SliceRun
import Derived.Lib.Walk
import Derived.OwnWalk

namespace Go.Proofs.Ytcbngmfbbdmlgaa
open Go.RowKit Go.Proofs.YtcbngmfbbdmlgaaLib
set_option linter.unusedSimpArgs false
set_option linter.unusedVariables false

def heldR (v : Value) : Option (DataW Value × List MemPlace) := some (.held v, [])
/-- which values a map of sectors has -/
structure CachOf (w : World) (F : List Nat) (vl : Value) (D : DataW Value) (c : List (Option (List Int))) : Prop where
  no : ∀ i : Nat, i < c.length → c[i]?.join = none → Maps.has D (.int .i64 i) = false
  yes : ∀ (i : Nat) (l : List Int), c[i]?.join = some l → ∃ v, Maps.has D (.int .i64 i) = true ∧ (∀ z, D.atKey (.int .i64 i) z = .held v) ∧ Row8 w v l ∧ (∀ g, v.ownBlock = some g → g ∈ F ∧ vl.ownBlock ≠ some g)
  key : ∀ kl, Maps.has D kl = true → ∃ i : Nat, i < c.length ∧ kl = .int .i64 i
structure DiskX (w : World) (b : Nat) (F : List Nat) (s : DiskS) (vl : Value) (bc bp nc : Nat) (Dc : DataW Value) (np : Nat) (Dp : DataW Value) : Prop where
  ok : s.Ok
  blk : Blk w b 60 [.int .i64 s.size, vl, .map (some bc), .map (some bp), .int .i64 s.ops, .int .i64 s.writes]
  las : Row8 w vl s.bytes
  cac : w.ownsMap Try.prog 3 heldR bc nc Dc
  ncl : nc ≤ s.writes
  cof : CachOf w F vl Dc s.cach
  pla : w.ownsMap Try.prog 3 Go.unitElem bp np Dp
  npl : np ≤ s.marks
  pof : ∀ n : Int, Maps.has Dp (.int .i64 n) = s.plan n
  ne : bc ≠ bp
  fb : b ∈ F
  fc : bc ∈ F
  fp : bp ∈ F
  fl : ∀ g, vl.ownBlock = some g → g ∈ F
  lt : ∀ g, g ∈ F → g < w.heap.size
/-- the disk s lies at block b, in the blocks F -/
def DiskAt (w : World) (b : Nat) (F : List Nat) (s : DiskS) : Prop := ∃ vl bc bp nc Dc np Dp, DiskX w b F s vl bc bp nc Dc np Dp
theorem CachOf.kept {w w1 : World} {F : List Nat} {vl : Value} {D : DataW Value} {c : List (Option (List Int))} {S : List Nat} (h : CachOf w F vl D c) (hk : Kept w w1 S) (hS : ∀ k, k ∈ S → k ∉ F) : CachOf w1 F vl D c :=
  ⟨h.no, fun i l hi => let ⟨v, h1, h2, h3, h4⟩ := h.yes i l hi; ⟨v, h1, h2, h3.kept hk (fun g hg hm => hS g hm (h4 g hg).1), h4⟩, h.key⟩
theorem DiskX.kept {w w1 : World} {b : Nat} {F : List Nat} {s : DiskS} {vl : Value} {bc bp nc : Nat} {Dc : DataW Value} {np : Nat} {Dp : DataW Value} {S : List Nat} (h : DiskX w b F s vl bc bp nc Dc np Dp) (hk : Kept w w1 S) (hS : ∀ k, k ∈ S → k ∉ F) : DiskX w1 b F s vl bc bp nc Dc np Dp :=
  ⟨h.ok, h.blk.kept hk (fun hm => hS b hm h.fb), h.las.kept hk (fun g hg hm => hS g hm (h.fl g hg)), map_kept h.cac hk (fun hm => hS bc hm h.fc), h.ncl, h.cof.kept hk hS, map_kept h.pla hk (fun hm => hS bp hm h.fp), h.npl, h.pof, h.ne, h.fb, h.fc, h.fp, h.fl,
    fun g hg => Nat.lt_of_lt_of_le (h.lt g hg) hk.size⟩
theorem DiskAt.kept {w w1 : World} {b : Nat} {F : List Nat} {s : DiskS} {S : List Nat} (h : DiskAt w b F s) (hk : Kept w w1 S) (hS : ∀ k, k ∈ S → k ∉ F) : DiskAt w1 b F s := by
  obtain ⟨vl, bc, bp, nc, Dc, np, Dp, h⟩ := h
  exact ⟨vl, bc, bp, nc, Dc, np, Dp, h.kept hk hS⟩
theorem DiskAt.ok {w : World} {b : Nat} {F : List Nat} {s : DiskS} (h : DiskAt w b F s) : s.Ok := let ⟨_, _, _, _, _, _, _, h⟩ := h; h.ok
theorem DiskAt.lt {w : World} {b : Nat} {F : List Nat} {s : DiskS} (h : DiskAt w b F s) : ∀ g, g ∈ F → g < w.heap.size := let ⟨_, _, _, _, _, _, _, h⟩ := h; h.lt
theorem DiskAt.fb {w : World} {b : Nat} {F : List Nat} {s : DiskS} (h : DiskAt w b F s) : b ∈ F := let ⟨_, _, _, _, _, _, _, h⟩ := h; h.fb

end Go.Proofs.Ytcbngmfbbdmlgaa
