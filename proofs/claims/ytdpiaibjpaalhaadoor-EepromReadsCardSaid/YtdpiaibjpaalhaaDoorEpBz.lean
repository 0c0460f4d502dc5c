/- PROVED: plain laws of a chip that is busy, or protected. No conditions beyond those that each theorem states. -/
import Derived.Test.YtdpiaibjpaalhaaDoorEpZ
namespace Go.Proofs.YtdpiaibjpaalhaaDoorLib
set_option linter.unusedSimpArgs false
set_option linter.unusedVariables false

/-- it rests, and nothing waits -/
structure EpS.Ready (s : EpS) (k : Nat) (d : List Int) : Prop where
  rs : s.Rests
  kd : s.kind = k
  da : s.data = d
  wa : s.waits = []
  le : s.left = 0
theorem new_ready (k : Nat) (d : List Int) : (EpS.new k d).Ready k d := ⟨⟨rfl, rfl, rfl, rfl⟩, rfl, rfl, rfl, rfl⟩
theorem EpS.Rests.calm {s : EpS} (h : s.Rests) : s.Calm := ⟨h.hp, .inl h.hv⟩
theorem ready_aimed {s : EpS} {k : Nat} {d : List Int} (h1 : 1 ≤ k) (h2 : k ≤ 10) (h : s.Ready k d) (hd : d.length = geoBytes k) (at' : Nat) (hat : at' < geoBytes k) : (s.aimed k at').Armed k d at' [] [] ∧ s.aimAcks k at' = 1 + geoWide k := by
  have := aimed_armed h1 h2 h.rs.calm h.le h.kd (by rw [h.da]; exact hd) at' hat
  rw [h.da, h.wa] at this
  exact this
theorem stop_none (s : EpS) (wp : Bool) (h : s.stopped wp = false) : s.stop wp = EpS.rest { s with hasMap := true, coll := [] } := by
  unfold EpS.stop
  rw [if_neg (by rw [h]; decide)]
/-- a Stop behind bytes, with the pin high -/
theorem armed_pin {s : EpS} {k : Nat} {d : List Int} {p : Nat} {C : List (Nat × Int)} (h : s.Armed k d p C []) : (s.runs true endL).Ready k d := by
  rw [end_listens s .store true h.li (.inl h.le), stop_none _ _ (by simp [EpS.stopped])]
  exact ⟨⟨rfl, rfl, rfl, rfl⟩, h.kd, h.da, h.wa, by show s.left - 3 = 0; have := h.le; omega⟩
/-- a Start in place of the Stop -/
theorem armed_begin {s : EpS} {k : Nat} {d : List Int} {p : Nat} {C : List (Nat × Int)} (h : s.Armed k d p C []) : ((s.runs false beginL).runs false endL).Ready k d := by
  have e : s.runs false beginL = s.begun := runs_begin s false ⟨h.li.hp, .inr ⟨h.li.hv, h.li.hb, h.li.hs⟩⟩ (.inl h.le)
  rw [e, end_listens _ .device false (begun_listens s) (.inl (by show s.left - 4 = 0; have := h.le; omega)), stop_none _ _ (by simp [EpS.stopped, EpS.begun])]
  exact ⟨⟨rfl, rfl, rfl, rfl⟩, h.kd, h.da, h.wa, by show s.left - 4 - 3 = 0; have := h.le; omega⟩
/-- while it is busy it doesn't answer -/
theorem busy_refuses {s : EpS} (h : s.Rests) (hl : s.left = 50) : ((s.runs false beginL).put1 160).data = s.data ∧ (s.runs false beginL).ack 160 = 0 := by
  rw [runs_begin s false h.calm (by omega)]
  have hle : s.begun.left = 46 := by show s.left - 4 = 46; omega
  have hok : (s.begun.eight 160).devOk 160 = false := by
    show ((160 : Int) / 16 == 10 && decide (devBlock 160 < 2 ^ geoBlocks s.kind) && s.left - 4 - 24 == 0) = false
    rw [hl]
    simp
  have hj : (s.begun.eight 160).judge 160 .device = ({ s.begun.eight 160 with block := devBlock 160 }, false) := by
    show EpS.device _ 160 = _
    unfold EpS.device
    rw [if_pos hok]
  obtain ⟨e1, e2⟩ := put_no s.begun 160 .device (begun_listens s) (by decide) (by decide) (by omega) (by rw [hj]) (by rw [hj]; rfl) (by rw [hj]; rfl)
  refine ⟨?_, e2⟩
  unfold EpS.put1
  rw [e1, hj]
  rfl
theorem armed_put {s : EpS} {k : Nat} {d : List Int} {p : Nat} {C : List (Nat × Int)} (h : s.Armed k d p C []) (y : Int) (h0 : 0 ≤ y) (h1 : y ≤ 255) : (s.put1 y).Armed k d (nextIn (geoPage k) p) ((p, y) :: C) [] := (put_armed h y h0 h1).1
/-- the plain law: three tries, and one while it is busy -/
theorem busy_law {k : Nat} (h1 : 1 ≤ k) (h2 : k ≤ 10) (d : List Int) (hd : d.length = geoBytes k) (a : Nat) (hat : a < geoBytes k) (x : Int) (x0 : 0 ≤ x) (x1 : x ≤ 255) (s0 s1 s2 s3 s4 s5 s6 s7 s8 s9 s10 s11 s12 : EpS)
    (e0 : EpS.new k d = s0) (e1 : s0.aimed k a = s1) (e2 : s1.put1 x = s2) (e3 : s2.runs true endL = s3) (e4 : s3.aimed k a = s4) (e5 : s4.put1 x = s5) (e6 : s5.runs false beginL = s6) (e7 : s6.runs false endL = s7) (e8 : s7.aimed k a = s8) (e9 : s8.put1 x = s9) (e10 : s9.runs false endL = s10) (e11 : s10.runs false beginL = s11) (e12 : s11.put1 160 = s12) :
    s3.left = 0 ∧ s7.left = 0 ∧ s10.left = 50 ∧ s11.ack 160 = 0 ∧ s12.data = d := by
  subst e0
  have a1 := (ready_aimed h1 h2 (new_ready k d) hd a hat).1
  rw [e1] at a1
  have a2 := armed_put a1 x x0 x1
  rw [e2] at a2
  have a3 := armed_pin a2
  rw [e3] at a3
  have a4 := (ready_aimed h1 h2 a3 hd a hat).1
  rw [e4] at a4
  have a5 := armed_put a4 x x0 x1
  rw [e5] at a5
  have a7 := armed_begin a5
  rw [e6, e7] at a7
  have a8 := (ready_aimed h1 h2 a7 hd a hat).1
  rw [e8] at a8
  have a9 := armed_put a8 x x0 x1
  rw [e9] at a9
  obtain ⟨c1, c2, c3, _⟩ := stop_armed a9 (by simp)
  rw [e10] at c1 c2 c3
  obtain ⟨f1, f2⟩ := busy_refuses c1 c3
  rw [e11] at f1 f2
  rw [e12] at f1
  exact ⟨a3.le, a7.le, c3, f2, f1.trans c2⟩
end Go.Proofs.YtdpiaibjpaalhaaDoorLib
