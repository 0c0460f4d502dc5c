/- PROVED: plain laws on slots: laid, sealed, wiped. No conditions beyond those that each theorem states. -/
import Derived.Test.YtlglbgemmljmlaaDoorSlP
namespace Go.Proofs.YtlglbgemmljmlaaDoor
open Go.RowKit Go.Proofs.YtlglbgemmljmlaaDoorLib
set_option linter.unusedSimpArgs false
set_option linter.unusedVariables false

theorem atWhy_wrote {s t : DiskS} {n : Nat} (h : Wrote s t n) (which e f g : Int) : atWhy t which e f g = atWhy s which e f g := by
  unfold atWhy; rw [h.size, h.last]
/-- a slot's first sector -/
def slotAt (s : DiskS) (which e f g : Int) : Nat := which.toNat * spanN s.size e f g
theorem slotAt_wrote {s t : DiskS} {n : Nat} (h : Wrote s t n) (which e f g : Int) : slotAt t which e f g = slotAt s which e f g := by
  unfold slotAt; rw [h.size]
theorem slot_fits {s : DiskS} {which e f g : Int} (hw : atWhy s which e f g = 0) : slotAt s which e f g + spanN s.size e f g ≤ s.last.length := by
  obtain ⟨hr, ⟨wh0, wh1⟩, hsz, hrm⟩ := atWhy_yes hw
  unfold slotAt
  have h1 : (which.toNat + 1) * spanN s.size e f g ≤ 2 * spanN s.size e f g := Nat.mul_le_mul_right _ (by omega)
  rw [Nat.succ_mul] at h1
  omega
theorem slot_span {s : DiskS} (hs2 : s.size ≤ 4096) {which e f g : Int} (hw : atWhy s which e f g = 0) : spanN s.size e f g = 1 + secs (gTotal e f g) s.size :=
  spanN_eq (atWhy_yes hw).1 (atWhy_yes hw).2.2.1 hs2
/-- behind Data -/
theorem laid_law {s : DiskS} (hn : s.NoFail) (hc : s.cach.length = s.last.length) (hs2 : s.size ≤ 4096) {which e f g : Int} (hw : atWhy s which e f g = 0) {l : List Int} (hl : l.length = gTotal e f g) (hB : Bts l) :
    (writesM s (slotAt s which e f g + 1) (imgL l s.size)).2 = 0 ∧ Wrote s (writesM s (slotAt s which e f g + 1) (imgL l s.size)).1 (secs l.length s.size) ∧
    ∀ j, (writesM s (slotAt s which e f g + 1) (imgL l s.size)).1.get j = if slotAt s which e f g + 1 ≤ j ∧ j < slotAt s which e f g + spanN s.size e f g then (imgL l s.size)[j - (slotAt s which e f g + 1)]?.getD [] else s.get j := by
  have h32 := (atWhy_yes hw).2.2.1
  have hsp := slot_span hs2 hw
  have hf := slot_fits hw
  have hlen := imgL_len l s.size
  have h := writesM_ok hn hc (slotAt s which e f g + 1) (imgL l s.size) (fun x hx => (imgL_sec l s.size (by omega) hB x hx).1) (by rw [hlen, hl]; omega)
  rw [hlen] at h
  refine ⟨h.1, h.2.1, fun j => ?_⟩
  rw [h.2.2 j]
  have e1 : slotAt s which e f g + 1 + secs l.length s.size = slotAt s which e f g + spanN s.size e f g := by rw [hsp, hl]; omega
  rw [e1]
/-- one sector written -/
theorem put_law {s : DiskS} (hn : s.NoFail) (hc : s.cach.length = s.last.length) {i : Nat} (hi : i < s.last.length) {l : List Int} (hl : l.length = s.size) :
    (s.write (i : Int) l).2 = 0 ∧ Wrote s (s.write (i : Int) l).1 1 ∧ ∀ j, (s.write (i : Int) l).1.get j = if j = i then l else s.get j := by
  refine ⟨by rw [write_ok (NoFail.fails hn) hi hl], write_wrote s _ l, fun j => ?_⟩
  rw [write_ok (NoFail.fails hn) hi hl]
  exact get_set hc hi l (s.ops + 1) (s.writes + 1) j
/-- a head that is none -/
theorem read_bad {s : DiskS} (hn : s.NoFail) (hs2 : s.size ≤ 4096) {which e f g : Int} (hw : atWhy s which e f g = 0) (hh : s.get (slotAt s which e f g) = List.replicate s.size 0) : readM s which e f g = (s.tick, ⟨0, 6, 0, []⟩, 0) := by
  have hf := slot_fits hw
  have h32 := (atWhy_yes hw).2.2.1
  have hlt : slotAt s which e f g < s.last.length := by have := slot_span hs2 hw; omega
  have hrd := read_ok (NoFail.fails hn) hlt
  unfold slotAt at hrd hh
  unfold readM
  rw [if_neg (by simp [hw]), hrd, hh, if_neg (by simp), if_pos (by rw [dec_zero _ (by omega)]; simp), dec_zero _ (by omega)]
end Go.Proofs.YtlglbgemmljmlaaDoor
