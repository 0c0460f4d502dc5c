/- PROVED: the plain law of a chip that nobody starts. No conditions beyond those that each theorem states. -/
import Derived.Test.YtdpiaibjpaalhaaDoorEpZ
namespace Go.Proofs.YtdpiaibjpaalhaaDoorLib
set_option linter.unusedSimpArgs false
set_option linter.unusedVariables false

/-- it was never started, the lines' levels are these -/
structure EpS.Still (s : EpS) (d : List Int) (c e : Bool) (n : Nat) : Prop where
  ev : s.ev = .idle
  pu : s.pulls = false
  le : s.left = 0
  po : s.pointer = 0
  da : s.data = d
  co : s.coll = []
  sc : s.scl = c
  sd : s.sda = e
  ck : s.clock = n
theorem new_still (k : Nat) (d : List Int) : (EpS.new k d).Still d true true 0 := ⟨rfl, rfl, rfl, rfl, rfl, rfl, rfl, rfl, rfl⟩
theorem event_idle (u : EpS) (e : Int) (l : Bool) (hu : u.ev = .idle) : u.event e l = u := by
  unfold EpS.event
  rw [hu]
theorem still_step {s : EpS} {d : List Int} {c e : Bool} {n : Nat} (h : s.Still d c e n) (c' d' wp : Bool) (hn : tellW c e c' d' ≠ 1) : (s.step c' d' wp).Still d c' d' (n + 1) ∧ (s.step c' d' wp).line d' = d' := by
  have hs : (s.step c' d' wp) = ({ s with left := s.left - 1, scl := c', sda := d', clock := s.clock + 1 } : EpS).meets (tellW c e c' d') d' wp := by
    rw [step_calm s c' d' wp (by rw [h.le]; decide), h.pu, h.sc, h.sd, Bool.not_false, Bool.and_true]
  have key : (s.step c' d' wp).Still d c' d' (n + 1) := by
    rw [hs]
    have hle : s.left - 1 = 0 := by rw [h.le]
    unfold EpS.meets
    rw [if_neg hn]
    split
    · have hst : EpS.stopped { s with left := s.left - 1, scl := c', sda := d', clock := s.clock + 1 } wp = false := by
        show (!s.coll.isEmpty && !s.pulls && s.bits == 1 && !wp) = false
        rw [h.co]; rfl
      unfold EpS.stop
      rw [if_neg (by rw [hst]; decide)]
      exact ⟨rfl, rfl, hle, h.po, h.da, rfl, rfl, rfl, by show s.clock + 1 = n + 1; rw [h.ck]⟩
    · rw [event_idle _ _ _ (show ({ s with left := s.left - 1, scl := c', sda := d', clock := s.clock + 1 } : EpS).ev = .idle from h.ev)]
      exact ⟨h.ev, h.pu, hle, h.po, h.da, h.co, rfl, rfl, by show s.clock + 1 = n + 1; rw [h.ck]⟩
  refine ⟨key, ?_⟩
  unfold EpS.line
  rw [key.pu, Bool.not_false, Bool.and_true]
end Go.Proofs.YtdpiaibjpaalhaaDoorLib
