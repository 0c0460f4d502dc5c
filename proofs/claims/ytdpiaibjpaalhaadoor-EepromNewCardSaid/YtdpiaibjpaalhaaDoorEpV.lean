/- PROVED: the contract of keepsakelaw10's aim. No conditions beyond those that each theorem states. -/
import Derived.Test.YtdpiaibjpaalhaaDoorEpU
namespace Go.Proofs.YtdpiaibjpaalhaaDoor
open Go.RowKit Go.Proofs.YtdpiaibjpaalhaaDoorLib Go.WideElems Go.Maps Go.ChangeMaps
set_option linter.unusedSimpArgs false
set_option linter.unusedVariables false

/-- the chip that lay in F lies in F' now, as s -/
structure Ran (w : World) (b : Nat) (F : List Nat) (W : World) (F' : List Nat) (s : EpS) : Prop where
  gr : Grows w F F'
  ch : ChipAt W b F' s
  kp : Kept w W F
theorem Ran.start {w : World} {b : Nat} {F : List Nat} {s : EpS} (h : ChipAt w b F s) : Ran w b F w F s := ⟨Grows.refl _ _, h, Kept.refl _ _⟩
theorem Ran.next {w W W2 : World} {b : Nat} {F F1 : List Nat} {s1 s2 : EpS} (h : Ran w b F W F1 s1) (l : Leaves W b F1 s2 W2) (k : Kept W W2 F1) : ∃ F2, Ran w b F W2 F2 s2 := by
  obtain ⟨F2, g, c⟩ := l
  exact ⟨F2, h.gr.trans g h.kp.size, c, Kept.grows h.kp h.gr k⟩
theorem Ran.same {w W W2 : World} {b : Nat} {F F1 : List Nat} {s1 : EpS} (h : Ran w b F W F1 s1) (k : Kept W W2 []) : Ran w b F W2 F1 s1 :=
  ⟨h.gr, h.ch.kept k (by simp), h.kp.trans k (by simp)⟩
theorem Ran.post {w W : World} {b : Nat} {F F1 : List Nat} {s s1 : EpS} (h : Ran w b F W F1 s1) (v : Value) (e : s1 = s) : Post w F (fun r W => r = v ∧ Leaves w b F s W) (.returned v) W := by
  subst e
  exact ⟨_, rfl, ⟨rfl, F1, h.gr, h.ch⟩, h.kp⟩
theorem Ran.geo {w W : World} {b : Nat} {F F1 : List Nat} {s1 : EpS} (h : Ran w b F W F1 s1) (hg : GeoLaid w) (hlo : ∀ g, g ∈ F → nGlobals ≤ g) : GeoLaid W := hg.kept h.kp hlo
theorem Ran.new {w W : World} {b : Nat} {F F1 : List Nat} {s1 : EpS} (h : Ran w b F W F1 s1) {g : Nat} (hg : W.heap.size ≤ g) : g ∉ F1 := fun hm => by
  have := h.ch.lt g hm
  omega
theorem ack_int (s : EpS) (y : Int) : ∃ n : Nat, s.ack y = n ∧ n ≤ 1 := by
  unfold EpS.ack
  split
  · exact ⟨0, rfl, by omega⟩
  · exact ⟨1, rfl, by omega⟩
def aimS0 (s : EpS) : EpS := s.runs false beginL
def aimS (s : EpS) (y : Int) : EpS := s.runs false (putL y true)
theorem aimS0_clock (s : EpS) : (aimS0 s).clock = s.clock + 4 := by rw [aimS0, (runs_clock _ _ _).1]; rfl
theorem aimS_clock (s : EpS) (y : Int) : (aimS s y).clock = s.clock + 27 := by rw [aimS, (runs_clock _ _ _).1, putL_len]
set_option maxRecDepth 100000 in
set_option maxHeartbeats 4000000 in
theorem aim_blocks (w : World) (b : Nat) (F : List Nat) (s : EpS) (k at' : Nat) (h1 : 1 ≤ k) (h2 : k ≤ 10) (hat : at' < geoBytes k) (hb : 0 < geoBlocks k) (hw : geoWide k = 1) (hgl : GeoLaid w) (h : ChipAt w b F s) (hc : s.clock + 100 ≤ 1000000000) :
    Calls Tryd.prog 14 #[.pointer (some ⟨b, 0, none⟩), .int .i64 k, .int .i64 at'] w (Post w F fun r W => r = .int .i64 (s.aimAcks k at') ∧ Leaves w b F (s.aimed k at') W) := by
  have hgb := geo_bd h1 h2
  have HRB := Lib.hid (fun w1 => rBlocks_any w1 k h1 h2)
  have HRW := Lib.hid (fun w1 => rWide_any w1 k h1 h2)
  have HG := Lib.hid hgl
  have HC := Lib.hid hc
  have HLO := Lib.hid h.lo
  have R := Lib.hid (Ran.start h)
  have a0 : (0 : Int) ≤ at' := by omega
  have a1 : (at' : Int) < 65536 := by omega
  have hlen : geoBytes k = 256 * 2 ^ geoBlocks k := hgb.2.2.2.2.2.2.2.2 hb
  have hp8 : 2 ^ geoBlocks k ≤ 8 := by
    have h3 := hgb.2.2.2.2.2.2.1
    have : geoBlocks k = 1 ∨ geoBlocks k = 2 ∨ geoBlocks k = 3 := by omega
    rcases this with e | e | e <;> rw [e] <;> decide
  have a2 : (at' : Int) / 256 ≤ 7 := by omega
  have hbd : decide (0 < geoBlocks k) = true := by rw [decide_eq_true_iff]; exact hb
  have hbi : (0 : Int) < geoBlocks k := by omega
  have hwe : ((geoWide k : Int) == 2) = false := by rw [beq_eq_false_iff_ne, hw]; decide
  have q0 : (0 : Int) ≤ (at' : Int) / 256 := by omega
  have q1 : (at' : Int) / 256 ≤ 255 := by omega
  have q2 : (0 : Int) ≤ (at' : Int) % 256 := by omega
  have q3 : (at' : Int) % 256 ≤ 255 := by omega
  have HA : Hid (s.aimed k at' = (s.runs false beginL).puts (aimL k at') ∧ s.aimAcks k at' = (s.runs false beginL).acks (aimL k at')) := Lib.hid ⟨rfl, rfl⟩
  have HL : Hid (aimL k at' = [(160 + 2 * ((at' : Int) / 256)), ((at' : Int) % 256)]) := Lib.hid (by
    unfold aimL aimB
    simp [hw, hb])
  have hbb := hb
  clear hgl h hc hgb hlen hp8 hw hb hat
  go_enter Tryd.func14, Tryd.ntmps14
  go_wp2_with fail
  refine (begin_any w).mono ?_
  rintro _ w1 ⟨v1, rfl, ⟨g1, hl1, hg1⟩, k1⟩
  have R1 := Lib.hid (R.out.same k1)
  have HL1 := Lib.hid hl1
  have HN1 := Lib.hid (R.out.new hg1)
  clear hl1 hg1 k1
  go_wp2_with fail
  refine (steps_any w1 b F s false v1 g1 beginL (R1.out.geo HG.out HLO.out) R1.out.ch HL1.out HN1.out (by have := HC.out; simp only [beginL, List.length_cons, List.length_nil]; omega)).mono ?_
  rintro _ w2 ⟨_, rfl, ⟨rfl, l2⟩, k2⟩
  obtain ⟨F2, r2⟩ := R1.out.next l2 k2
  have r2' : Ran w b F w2 F2 (aimS0 s) := r2
  have R2 := Lib.hid r2'
  clear l2 k2 r2 r2'
  go_wp2_with fail
  refine (HRB.out w2).mono ?_
  rintro _ w3 ⟨_, rfl, rfl, k3⟩
  have R3 := Lib.hid (R2.out.same k3)
  clear k3
  have c1 : (160 + 2 * ((at' : Int) / 256)) % 256 = 160 + 2 * ((at' : Int) / 256) := by omega
  go_wp2_with fail
  refine (lput_any _ b F2 (aimS0 s) (160 + 2 * ((at' : Int) / 256)) ?p4a ?p4b ?p4c R3.out.ch ?p4d).mono ?_
  case p4a => omega
  case p4b => omega
  case p4c => exact R3.out.geo HG.out HLO.out
  case p4d => have := HC.out; simp only [aimS_clock, aimS0_clock]; omega
  rintro _ w4 ⟨_, rfl, ⟨rfl, l4⟩, k4⟩
  obtain ⟨F4, r4⟩ := R3.out.next l4 k4
  have R4 := Lib.hid r4
  clear l4 k4 r4
  obtain ⟨n4, en4, n41⟩ := ack_int ((aimS0 s)) (160 + 2 * ((at' : Int) / 256))
  rw [en4]
  have En4 := Lib.hid en4
  clear en4
  go_wp2_with fail
  refine (HRW.out w4).mono ?_
  rintro _ w5 ⟨_, rfl, rfl, k5⟩
  have R5 := Lib.hid (R4.out.same k5)
  clear k5
  go_wp2_with fail
  refine (lput_any _ b F4 (aimS (aimS0 s) (160 + 2 * ((at' : Int) / 256))) ((at' : Int) % 256) ?p7a ?p7b ?p7c R5.out.ch ?p7d).mono ?_
  case p7a => omega
  case p7b => omega
  case p7c => exact R5.out.geo HG.out HLO.out
  case p7d => have := HC.out; simp only [aimS_clock, aimS0_clock]; omega
  rintro _ w7 ⟨_, rfl, ⟨rfl, l7⟩, k7⟩
  obtain ⟨F7, r7⟩ := R5.out.next l7 k7
  have R7 := Lib.hid r7
  clear l7 k7 r7
  obtain ⟨n7, en7, n71⟩ := ack_int ((aimS (aimS0 s) (160 + 2 * ((at' : Int) / 256)))) ((at' : Int) % 256)
  rw [en7]
  have En7 := Lib.hid en7
  clear en7
  go_wp2_with fail
  go_ret
  have e1 : s.aimAcks k at' = (n4 : Int) + n7 := by
    rw [HA.out.2, HL.out]
    have h4 := En4.out
    skip
    have h7 := En7.out
    unfold aimS0 aimS at *
    simp only [acks_cons, acks_nil, EpS.put1]
    rw [h4, h7]
    omega
  rw [e1]
  exact R7.out.post _ (by rw [HA.out.1, HL.out]; simp only [puts_cons, puts_nil, EpS.put1, aimS, aimS0])
set_option maxRecDepth 100000 in
set_option maxHeartbeats 4000000 in
theorem aim_one (w : World) (b : Nat) (F : List Nat) (s : EpS) (k at' : Nat) (h1 : 1 ≤ k) (h2 : k ≤ 10) (hat : at' < geoBytes k) (hb : geoBlocks k = 0) (hw : geoWide k = 1) (hgl : GeoLaid w) (h : ChipAt w b F s) (hc : s.clock + 100 ≤ 1000000000) :
    Calls Tryd.prog 14 #[.pointer (some ⟨b, 0, none⟩), .int .i64 k, .int .i64 at'] w (Post w F fun r W => r = .int .i64 (s.aimAcks k at') ∧ Leaves w b F (s.aimed k at') W) := by
  have hgb := geo_bd h1 h2
  have HRB := Lib.hid (fun w1 => rBlocks_any w1 k h1 h2)
  have HRW := Lib.hid (fun w1 => rWide_any w1 k h1 h2)
  have HG := Lib.hid hgl
  have HC := Lib.hid hc
  have HLO := Lib.hid h.lo
  have R := Lib.hid (Ran.start h)
  have a0 : (0 : Int) ≤ at' := by omega
  have a1 : (at' : Int) < 65536 := by omega
  have hlen : True := trivial
  have hbd : decide (0 < geoBlocks k) = false := by rw [decide_eq_false_iff_not]; omega
  have hbi : ¬ (0 : Int) < geoBlocks k := by omega
  have hwe : ((geoWide k : Int) == 2) = false := by rw [beq_eq_false_iff_ne, hw]; decide
  have q0 : (0 : Int) ≤ (at' : Int) / 256 := by omega
  have q1 : (at' : Int) / 256 ≤ 255 := by omega
  have q2 : (0 : Int) ≤ (at' : Int) % 256 := by omega
  have q3 : (at' : Int) % 256 ≤ 255 := by omega
  have HA : Hid (s.aimed k at' = (s.runs false beginL).puts (aimL k at') ∧ s.aimAcks k at' = (s.runs false beginL).acks (aimL k at')) := Lib.hid ⟨rfl, rfl⟩
  have HL : Hid (aimL k at' = [160, ((at' : Int) % 256)]) := Lib.hid (by
    unfold aimL aimB
    simp [hw, hb])
  have hbb := hb
  clear hgl h hc hgb hlen  hw hb hat
  go_enter Tryd.func14, Tryd.ntmps14
  go_wp2_with fail
  refine (begin_any w).mono ?_
  rintro _ w1 ⟨v1, rfl, ⟨g1, hl1, hg1⟩, k1⟩
  have R1 := Lib.hid (R.out.same k1)
  have HL1 := Lib.hid hl1
  have HN1 := Lib.hid (R.out.new hg1)
  clear hl1 hg1 k1
  go_wp2_with fail
  refine (steps_any w1 b F s false v1 g1 beginL (R1.out.geo HG.out HLO.out) R1.out.ch HL1.out HN1.out (by have := HC.out; simp only [beginL, List.length_cons, List.length_nil]; omega)).mono ?_
  rintro _ w2 ⟨_, rfl, ⟨rfl, l2⟩, k2⟩
  obtain ⟨F2, r2⟩ := R1.out.next l2 k2
  have r2' : Ran w b F w2 F2 (aimS0 s) := r2
  have R2 := Lib.hid r2'
  clear l2 k2 r2 r2'
  go_wp2_with fail
  refine (HRB.out w2).mono ?_
  rintro _ w3 ⟨_, rfl, rfl, k3⟩
  have R3 := Lib.hid (R2.out.same k3)
  clear k3
  go_wp2_with fail
  refine (lput_any _ b F2 (aimS0 s) 160 ?p4a ?p4b ?p4c R3.out.ch ?p4d).mono ?_
  case p4a => omega
  case p4b => omega
  case p4c => exact R3.out.geo HG.out HLO.out
  case p4d => have := HC.out; simp only [aimS_clock, aimS0_clock]; omega
  rintro _ w4 ⟨_, rfl, ⟨rfl, l4⟩, k4⟩
  obtain ⟨F4, r4⟩ := R3.out.next l4 k4
  have R4 := Lib.hid r4
  clear l4 k4 r4
  obtain ⟨n4, en4, n41⟩ := ack_int ((aimS0 s)) 160
  rw [en4]
  have En4 := Lib.hid en4
  clear en4
  go_wp2_with fail
  refine (HRW.out w4).mono ?_
  rintro _ w5 ⟨_, rfl, rfl, k5⟩
  have R5 := Lib.hid (R4.out.same k5)
  clear k5
  go_wp2_with fail
  refine (lput_any _ b F4 (aimS (aimS0 s) 160) ((at' : Int) % 256) ?p7a ?p7b ?p7c R5.out.ch ?p7d).mono ?_
  case p7a => omega
  case p7b => omega
  case p7c => exact R5.out.geo HG.out HLO.out
  case p7d => have := HC.out; simp only [aimS_clock, aimS0_clock]; omega
  rintro _ w7 ⟨_, rfl, ⟨rfl, l7⟩, k7⟩
  obtain ⟨F7, r7⟩ := R5.out.next l7 k7
  have R7 := Lib.hid r7
  clear l7 k7 r7
  obtain ⟨n7, en7, n71⟩ := ack_int ((aimS (aimS0 s) 160)) ((at' : Int) % 256)
  rw [en7]
  have En7 := Lib.hid en7
  clear en7
  go_wp2_with fail
  go_ret
  have e1 : s.aimAcks k at' = (n4 : Int) + n7 := by
    rw [HA.out.2, HL.out]
    have h4 := En4.out
    skip
    have h7 := En7.out
    unfold aimS0 aimS at *
    simp only [acks_cons, acks_nil, EpS.put1]
    rw [h4, h7]
    omega
  rw [e1]
  exact R7.out.post _ (by rw [HA.out.1, HL.out]; simp only [puts_cons, puts_nil, EpS.put1, aimS, aimS0])
set_option maxRecDepth 100000 in
set_option maxHeartbeats 4000000 in
theorem aim_two (w : World) (b : Nat) (F : List Nat) (s : EpS) (k at' : Nat) (h1 : 1 ≤ k) (h2 : k ≤ 10) (hat : at' < geoBytes k) (hb : geoBlocks k = 0) (hw : geoWide k = 2) (hgl : GeoLaid w) (h : ChipAt w b F s) (hc : s.clock + 100 ≤ 1000000000) :
    Calls Tryd.prog 14 #[.pointer (some ⟨b, 0, none⟩), .int .i64 k, .int .i64 at'] w (Post w F fun r W => r = .int .i64 (s.aimAcks k at') ∧ Leaves w b F (s.aimed k at') W) := by
  have hgb := geo_bd h1 h2
  have HRB := Lib.hid (fun w1 => rBlocks_any w1 k h1 h2)
  have HRW := Lib.hid (fun w1 => rWide_any w1 k h1 h2)
  have HG := Lib.hid hgl
  have HC := Lib.hid hc
  have HLO := Lib.hid h.lo
  have R := Lib.hid (Ran.start h)
  have a0 : (0 : Int) ≤ at' := by omega
  have a1 : (at' : Int) < 65536 := by omega
  have hlen : True := trivial
  have hbd : decide (0 < geoBlocks k) = false := by rw [decide_eq_false_iff_not]; omega
  have hbi : ¬ (0 : Int) < geoBlocks k := by omega
  have hwe : ((geoWide k : Int) == 2) = true := by rw [beq_iff_eq, hw]; rfl
  have q0 : (0 : Int) ≤ (at' : Int) / 256 := by omega
  have q1 : (at' : Int) / 256 ≤ 255 := by omega
  have q2 : (0 : Int) ≤ (at' : Int) % 256 := by omega
  have q3 : (at' : Int) % 256 ≤ 255 := by omega
  have HA : Hid (s.aimed k at' = (s.runs false beginL).puts (aimL k at') ∧ s.aimAcks k at' = (s.runs false beginL).acks (aimL k at')) := Lib.hid ⟨rfl, rfl⟩
  have HL : Hid (aimL k at' = [160, ((at' : Int) / 256), ((at' : Int) % 256)]) := Lib.hid (by
    unfold aimL aimB
    simp [hw, hb])
  have hbb := hb
  clear hgl h hc hgb hlen  hw hb hat
  go_enter Tryd.func14, Tryd.ntmps14
  go_wp2_with fail
  refine (begin_any w).mono ?_
  rintro _ w1 ⟨v1, rfl, ⟨g1, hl1, hg1⟩, k1⟩
  have R1 := Lib.hid (R.out.same k1)
  have HL1 := Lib.hid hl1
  have HN1 := Lib.hid (R.out.new hg1)
  clear hl1 hg1 k1
  go_wp2_with fail
  refine (steps_any w1 b F s false v1 g1 beginL (R1.out.geo HG.out HLO.out) R1.out.ch HL1.out HN1.out (by have := HC.out; simp only [beginL, List.length_cons, List.length_nil]; omega)).mono ?_
  rintro _ w2 ⟨_, rfl, ⟨rfl, l2⟩, k2⟩
  obtain ⟨F2, r2⟩ := R1.out.next l2 k2
  have r2' : Ran w b F w2 F2 (aimS0 s) := r2
  have R2 := Lib.hid r2'
  clear l2 k2 r2 r2'
  go_wp2_with fail
  refine (HRB.out w2).mono ?_
  rintro _ w3 ⟨_, rfl, rfl, k3⟩
  have R3 := Lib.hid (R2.out.same k3)
  clear k3
  go_wp2_with fail
  refine (lput_any _ b F2 (aimS0 s) 160 ?p4a ?p4b ?p4c R3.out.ch ?p4d).mono ?_
  case p4a => omega
  case p4b => omega
  case p4c => exact R3.out.geo HG.out HLO.out
  case p4d => have := HC.out; simp only [aimS_clock, aimS0_clock]; omega
  rintro _ w4 ⟨_, rfl, ⟨rfl, l4⟩, k4⟩
  obtain ⟨F4, r4⟩ := R3.out.next l4 k4
  have R4 := Lib.hid r4
  clear l4 k4 r4
  obtain ⟨n4, en4, n41⟩ := ack_int ((aimS0 s)) 160
  rw [en4]
  have En4 := Lib.hid en4
  clear en4
  go_wp2_with fail
  refine (HRW.out w4).mono ?_
  rintro _ w5 ⟨_, rfl, rfl, k5⟩
  have R5 := Lib.hid (R4.out.same k5)
  clear k5
  go_wp2_with fail
  refine (lput_any _ b F4 (aimS (aimS0 s) 160) ((at' : Int) / 256) ?p6a ?p6b ?p6c R5.out.ch ?p6d).mono ?_
  case p6a => omega
  case p6b => omega
  case p6c => exact R5.out.geo HG.out HLO.out
  case p6d => have := HC.out; simp only [aimS_clock, aimS0_clock]; omega
  rintro _ w6 ⟨_, rfl, ⟨rfl, l6⟩, k6⟩
  obtain ⟨F6, r6⟩ := R5.out.next l6 k6
  have R6 := Lib.hid r6
  clear l6 k6 r6
  obtain ⟨n6, en6, n61⟩ := ack_int ((aimS (aimS0 s) 160)) ((at' : Int) / 256)
  rw [en6]
  have En6 := Lib.hid en6
  clear en6
  go_wp2_with fail
  refine (lput_any _ b F6 (aimS (aimS (aimS0 s) 160) ((at' : Int) / 256)) ((at' : Int) % 256) ?p7a ?p7b ?p7c R6.out.ch ?p7d).mono ?_
  case p7a => omega
  case p7b => omega
  case p7c => exact R6.out.geo HG.out HLO.out
  case p7d => have := HC.out; simp only [aimS_clock, aimS0_clock]; omega
  rintro _ w7 ⟨_, rfl, ⟨rfl, l7⟩, k7⟩
  obtain ⟨F7, r7⟩ := R6.out.next l7 k7
  have R7 := Lib.hid r7
  clear l7 k7 r7
  obtain ⟨n7, en7, n71⟩ := ack_int ((aimS (aimS (aimS0 s) 160) ((at' : Int) / 256))) ((at' : Int) % 256)
  rw [en7]
  have En7 := Lib.hid en7
  clear en7
  go_wp2_with fail
  go_ret
  have e1 : s.aimAcks k at' = (n4 : Int) + n6 + n7 := by
    rw [HA.out.2, HL.out]
    have h4 := En4.out
    have h6 := En6.out
    have h7 := En7.out
    unfold aimS0 aimS at *
    simp only [acks_cons, acks_nil, EpS.put1]
    rw [h4, h6, h7]
    omega
  rw [e1]
  exact R7.out.post _ (by rw [HA.out.1, HL.out]; simp only [puts_cons, puts_nil, EpS.put1, aimS, aimS0])
theorem aim_any (w : World) (b : Nat) (F : List Nat) (s : EpS) (k at' : Nat) (h1 : 1 ≤ k) (h2 : k ≤ 10) (hat : at' < geoBytes k) (hgl : GeoLaid w) (h : ChipAt w b F s) (hc : s.clock + 100 ≤ 1000000000) :
    Calls Tryd.prog 14 #[.pointer (some ⟨b, 0, none⟩), .int .i64 k, .int .i64 at'] w (Post w F fun r W => r = .int .i64 (s.aimAcks k at') ∧ Leaves w b F (s.aimed k at') W) := by
  by_cases hb : 0 < geoBlocks k
  · have hw : geoWide k = 1 := by rcases geo_cases h1 h2 with rfl | rfl | rfl | rfl | rfl | rfl | rfl | rfl | rfl | rfl <;> first | rfl | (exact absurd hb (by decide))
    exact aim_blocks w b F s k at' h1 h2 hat hb hw hgl h hc
  · have hgb := geo_bd h1 h2
    by_cases hw : geoWide k = 2
    · exact aim_two w b F s k at' h1 h2 hat (by omega) hw hgl h hc
    · exact aim_one w b F s k at' h1 h2 hat (by omega) (by omega) hgl h hc
end Go.Proofs.YtdpiaibjpaalhaaDoor
