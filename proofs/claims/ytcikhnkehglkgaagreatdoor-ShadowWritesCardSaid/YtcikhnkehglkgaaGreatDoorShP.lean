/- PROVED: the plain model of a shadow: what laying, formatting, opening, committing answer. No conditions beyond those that each theorem states. -/
import Derived.Test.YtcikhnkehglkgaaGreatDoorSlU
namespace Go.Proofs.YtcikhnkehglkgaaGreatDoor
open Go.RowKit Go.Proofs.YtcikhnkehglkgaaGreatDoorLib
set_option linter.unusedSimpArgs false
set_option linter.unusedVariables false

/-- a new cartridge's image -/
def facL (e f g : Int) : List Int := List.replicate (gE e + 256 * f.toNat) 255 ++ List.replicate (64 * g.toNat) 0
theorem facL_len {e f g : Int} (h : gRight e f g = true) : (facL e f g).length = gTotal e f g := by
  unfold facL gTotal; rw [if_pos h]; simp
theorem facL_bts (e f g : Int) : Bts (facL e f g) := by
  intro x hx
  unfold facL at hx
  rcases List.mem_append.1 hx with h | h
  · have := List.eq_of_mem_replicate h; omega
  · have := List.eq_of_mem_replicate h; omega
def layS (s : DiskS) (which e f g seq : Int) (l : List Int) : DiskS × Int :=
  if (dataM s which e f g l).2 ≠ 0 then dataM s which e f g l else
  if (dataM s which e f g l).1.sync.2 ≠ 0 then (dataM s which e f g l).1.sync else
  if (sealM (dataM s which e f g l).1.sync.1 which e f g seq l).2 ≠ 0 then sealM (dataM s which e f g l).1.sync.1 which e f g seq l else
  (sealM (dataM s which e f g l).1.sync.1 which e f g seq l).1.sync
def wipesM (s : DiskS) (e f g : Int) : DiskS × Int :=
  if (wipeM s 0 e f g).2 ≠ 0 then wipeM s 0 e f g else
  if (wipeM (wipeM s 0 e f g).1 1 e f g).2 ≠ 0 then wipeM (wipeM s 0 e f g).1 1 e f g else
  (wipeM (wipeM s 0 e f g).1 1 e f g).1.sync
def formatM (s : DiskS) (e f g : Int) : DiskS × Int :=
  if (wipesM s e f g).2 ≠ 0 then wipesM s e f g else layS (wipesM s e f g).1 0 e f g 1 (facL e f g)
def canM (s : DiskS) (e f g : Int) : Int :=
  if gRight e f g = false then 9 else if s.size < 32 then 1 else if s.last.length < 2 * spanN s.size e f g then 4 else 0
/-- a shadow's own -/
structure ShS where
  now : List Int
  seq : Int
  which : Int
  stale : Bool
def bestM (a b : SlotR) : SlotR × Int := if b.st = 2 ∧ (a.st ≠ 2 ∨ a.seq < b.seq) then (b, 1) else if a.st = 2 ∨ a.st = 1 then (a, 0) else (b, 1)
/-- both slots are read -/
def bothM (s : DiskS) (e f g : Int) : DiskS × SlotR × SlotR × Int :=
  if s.sync.2 ≠ 0 then (s.sync.1, SlotR.zero, SlotR.zero, s.sync.2) else
  if (readM s.sync.1 0 e f g).2.2 ≠ 0 then ((readM s.sync.1 0 e f g).1, SlotR.zero, SlotR.zero, (readM s.sync.1 0 e f g).2.2) else
  ((readM (readM s.sync.1 0 e f g).1 1 e f g).1, (readM s.sync.1 0 e f g).2.1, (readM (readM s.sync.1 0 e f g).1 1 e f g).2.1, (readM (readM s.sync.1 0 e f g).1 1 e f g).2.2)
def openM (s : DiskS) (e f g : Int) : DiskS × ShS × Int :=
  if canM s e f g ≠ 0 then (s, ⟨[], 0, 0, false⟩, canM s e f g) else
  if (bothM s e f g).2.2.2 ≠ 0 then ((bothM s e f g).1, ⟨[], 0, 0, false⟩, (bothM s e f g).2.2.2) else
  if (bestM (bothM s e f g).2.1 (bothM s e f g).2.2.1).1.st = 1 then ((bothM s e f g).1, ⟨[], 0, 0, false⟩, 9) else
  if (bestM (bothM s e f g).2.1 (bothM s e f g).2.2.1).1.st = 0 then ((bothM s e f g).1, ⟨[], 0, 0, false⟩, 10) else
  ((bothM s e f g).1, ⟨(bestM (bothM s e f g).2.1 (bothM s e f g).2.2.1).1.img, (bestM (bothM s e f g).2.1 (bothM s e f g).2.2.1).1.seq, (bestM (bothM s e f g).2.1 (bothM s e f g).2.2.1).2, false⟩, 0)
/-- why nothing is done, or that something is -/
def commitWhy (h : ShS) (l : List Int) : Int := if h.stale = true then 11 else if l.length ≠ h.now.length then 1 else if l = h.now then 0 else if h.seq = 18446744073709551615 then 12 else -1
def commitM (s : DiskS) (h : ShS) (e f g : Int) (l : List Int) : DiskS × ShS × Int :=
  if commitWhy h l ≠ -1 then (s, h, commitWhy h l) else
  if (layS s (1 - h.which) e f g (h.seq + 1) l).2 ≠ 0 then ((layS s (1 - h.which) e f g (h.seq + 1) l).1, ⟨h.now, h.seq, h.which, true⟩, (layS s (1 - h.which) e f g (h.seq + 1) l).2) else
  ((layS s (1 - h.which) e f g (h.seq + 1) l).1, ⟨l, h.seq + 1, 1 - h.which, false⟩, 0)
end Go.Proofs.YtcikhnkehglkgaaGreatDoor
