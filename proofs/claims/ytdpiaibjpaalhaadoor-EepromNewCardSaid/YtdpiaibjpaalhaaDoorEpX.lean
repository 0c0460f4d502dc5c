/- PROVED: plain laws of a chip on two wires: what a Start, bytes, and a Stop come to. No conditions beyond those that each theorem states. -/
import Derived.Test.YtdpiaibjpaalhaaDoorEpR
namespace Go.Proofs.YtdpiaibjpaalhaaDoorLib
set_option linter.unusedSimpArgs false
set_option linter.unusedVariables false

/-- time goes by, and nothing is laid -/
theorem tick_calm (s : EpS) (h : s.left ≠ 1) : s.tick = { s with left := s.left - 1 } := by
  unfold EpS.tick
  split
  · rename_i h0
    obtain ⟨kd, da, sc, sd, pu, ev, jd, nx, bi, va, bl, hi, po, hm, co, wa, le, ck⟩ := s
    change le = 0 at h0
    subst h0
    rfl
  · rfl
/-- a cycle while nothing is laid -/
theorem step_calm (s : EpS) (c d wp : Bool) (h : s.left ≠ 1) :
    s.step c d wp = ({ s with left := s.left - 1, scl := c, sda := d && !s.pulls, clock := s.clock + 1 } : EpS).meets (tellW s.scl s.sda c (d && !s.pulls)) (d && !s.pulls) wp := by
  unfold EpS.step
  rw [tick_calm s h]; rfl
theorem tell_low (a b d : Bool) : tellW false a false d = 0 := rfl
theorem tell_rise (a d : Bool) : tellW false a true d = 3 := rfl
theorem tell_fall (a d : Bool) : tellW true a false d = 4 := rfl
theorem tell_same (d : Bool) : tellW true d true d = 0 := by cases d <;> rfl
theorem tell_start : tellW true true true false = 1 := rfl
theorem tell_stop : tellW true false true true = 2 := rfl
theorem meets0 (s : EpS) (l wp : Bool) : s.meets 0 l wp = s := by
  unfold EpS.meets
  rw [if_neg (by decide), if_neg (by decide)]
  unfold EpS.event
  cases s.ev <;> rfl
theorem meets3 (s : EpS) (l wp : Bool) : s.meets 3 l wp = s.event 3 l := rfl
theorem meets4 (s : EpS) (l wp : Bool) : s.meets 4 l wp = s.event 4 l := rfl
/-- a clock of a data's level, while the clock is low, and nothing pulls -/
theorem clock_free (s : EpS) (d wp : Bool) (hs : s.scl = false) (hp : s.pulls = false) (hl : s.left = 0 ∨ 3 < s.left) (hp2 : (({ s with left := s.left - 2, scl := true, sda := d, clock := s.clock + 2 } : EpS).event 3 d).pulls = false)
    (hl2 : (({ s with left := s.left - 2, scl := true, sda := d, clock := s.clock + 2 } : EpS).event 3 d).left = s.left - 2) (hs2 : (({ s with left := s.left - 2, scl := true, sda := d, clock := s.clock + 2 } : EpS).event 3 d).scl = true) :
    s.runs wp (clockL d) = ({ ({ s with left := s.left - 2, scl := true, sda := d, clock := s.clock + 2 } : EpS).event 3 d with left := s.left - 3, scl := false, sda := d, pulls := false, clock := (({ s with left := s.left - 2, scl := true, sda := d, clock := s.clock + 2 } : EpS).event 3 d).clock + 1 } : EpS).event 4 d := by
  have e1 : s.step false d wp = { s with left := s.left - 1, scl := false, sda := d, clock := s.clock + 1 } := by
    rw [step_calm s false d wp (by omega), hs, hp, Bool.not_false, Bool.and_true, tell_low _ true, meets0]
  have e2 : (s.step false d wp).step true d wp = ({ s with left := s.left - 2, scl := true, sda := d, clock := s.clock + 2 } : EpS).event 3 d := by
    rw [e1, step_calm _ true d wp (by show s.left - 1 ≠ 1; omega)]
    show EpS.meets { s with left := s.left - 1 - 1, scl := true, sda := d && !s.pulls, clock := s.clock + 1 + 1 } (tellW false d true (d && !s.pulls)) (d && !s.pulls) wp = _
    rw [hp, Bool.not_false, Bool.and_true, tell_rise, meets3]
    rfl
  unfold clockL
  show (((s.step false d wp).step true d wp).step false d wp) = _
  rw [e2]
  generalize ({ s with left := s.left - 2, scl := true, sda := d, clock := s.clock + 2 } : EpS).event 3 d = u at *
  rw [step_calm u false d wp (by omega), hp2, hs2, hl2, Bool.not_false, Bool.and_true, tell_fall, meets4]
  rfl
/-- a bit is heard -/
def EpS.bit (s : EpS) (d : Bool) : EpS := { s with left := s.left - 3, scl := false, sda := d, clock := s.clock + 3, bits := s.bits + 1, value := s.value * 2 % 256 + (if d then 1 else 0) }
theorem hear_clock (s : EpS) (d wp : Bool) (hv : s.ev = .hears) (hs : s.scl = false) (hp : s.pulls = false) (hl : s.left = 0 ∨ 3 < s.left) :
    s.runs wp (clockL d) = if s.bits + 1 = 8 then (s.bit d).heard else s.bit d := by
  have e : ({ s with left := s.left - 2, scl := true, sda := d, clock := s.clock + 2 } : EpS).event 3 d = { s with left := s.left - 2, scl := true, sda := d, clock := s.clock + 2, bits := s.bits + 1, value := s.value * 2 % 256 + (if d then 1 else 0) } := by
    show (match s.ev with | .idle => _ | .hears => _ | .thanks => _ | .tells => _ | .asks => _) = _
    rw [hv]; rfl
  rw [clock_free s d wp hs hp hl (by rw [e]; exact hp) (by rw [e]) (by rw [e]), e]
  have e2 : ({ s with left := s.left - 3, scl := false, sda := d, pulls := false, clock := s.clock + 3, bits := s.bits + 1, value := s.value * 2 % 256 + (if d then 1 else 0) } : EpS) = s.bit d := by
    unfold EpS.bit
    rw [hp]
  show EpS.event { s with left := s.left - 3, scl := false, sda := d, pulls := false, clock := s.clock + 3, bits := s.bits + 1, value := s.value * 2 % 256 + (if d then 1 else 0) } 4 d = _
  rw [e2]
  have hv2 : (s.bit d).ev = .hears := hv
  have hb2 : (s.bit d).bits = s.bits + 1 := rfl
  unfold EpS.event
  rw [hv2]
  show EpS.hears (s.bit d) 4 d = _
  unfold EpS.hears
  rw [if_neg (by decide), hb2]
  by_cases h8 : s.bits + 1 = 8
  · rw [if_pos ⟨rfl, h8⟩, if_pos h8]
  · rw [if_neg (fun h => h8 h.2), if_neg h8]
/-- what eight bits of a byte come to, ahead of the judgement -/
def EpS.eight (s : EpS) (y : Int) : EpS := { s with left := s.left - 24, scl := false, sda := y % 2 == 1, clock := s.clock + 24, bits := 8, value := y }
theorem bit_val (y : Int) (k : Nat) (h0 : 0 ≤ y) (h1 : y ≤ 255) (hk : k < 8) : y / 2 ^ (8 - k) * 2 % 256 + (if (y / 2 ^ (7 - k) % 2 == 1) = true then 1 else 0) = y / 2 ^ (8 - (k + 1)) := by
  have hc : k = 0 ∨ k = 1 ∨ k = 2 ∨ k = 3 ∨ k = 4 ∨ k = 5 ∨ k = 6 ∨ k = 7 := by omega
  rcases hc with rfl | rfl | rfl | rfl | rfl | rfl | rfl | rfl <;> simp only [Nat.reduceSub, Nat.reduceAdd, Int.reducePow, beq_iff_eq, Nat.sub_zero] <;> split <;> omega
def EpS.part (s : EpS) (y : Int) (k : Nat) : EpS := { s with left := s.left - 3 * k, scl := false, sda := if k = 0 then s.sda else y / 2 ^ (8 - k) % 2 == 1, clock := s.clock + 3 * k, bits := k, value := y / 2 ^ (8 - k) }
theorem runs_bits (s : EpS) (y : Int) (wp : Bool) (h0 : 0 ≤ y) (h1 : y ≤ 255) (hv : s.ev = .hears) (hs : s.scl = false) (hp : s.pulls = false) (hb : s.bits = 0) (hva : s.value = 0) (hl : s.left = 0 ∨ 24 < s.left) (k : Nat) (hk : k < 8) :
    s.runs wp (bitsL y k) = s.part y k := by
  induction k with
  | zero =>
    obtain ⟨kd, da, sc, sd, pu, ev, jd, nx, bi, va, bl, hi, po, hm, co, wa, le, ck⟩ := s
    change bi = 0 at hb
    change va = 0 at hva
    change sc = false at hs
    subst hb; subst hva; subst hs
    have : y / 2 ^ (8 - 0) = 0 := by
      show y / 256 = 0
      omega
    simp [bitsL, EpS.runs, EpS.part, this]
    try omega
  | succ k ih =>
    rw [bitsL, runs_append, ih (by omega), hear_clock (s.part y k) _ wp hv rfl hp (by show s.left - 3 * k = 0 ∨ 3 < s.left - 3 * k; omega)]
    have hbk : (s.part y k).bits = k := rfl
    rw [hbk, if_neg (by omega)]
    have hval := bit_val y k h0 h1 (by omega)
    unfold EpS.bit EpS.part
    simp only [hval]
    have e1 : s.left - 3 * k - 3 = s.left - 3 * (k + 1) := by omega
    have e2 : s.clock + 3 * k + 3 = s.clock + 3 * (k + 1) := by omega
    have e3 : 8 - (k + 1) = 7 - k := by omega
    rw [e1, e2, e3]
    simp
theorem runs_eight (s : EpS) (y : Int) (wp : Bool) (h0 : 0 ≤ y) (h1 : y ≤ 255) (hv : s.ev = .hears) (hs : s.scl = false) (hp : s.pulls = false) (hb : s.bits = 0) (hva : s.value = 0) (hl : s.left = 0 ∨ 24 < s.left) :
    s.runs wp (bitsL y 8) = (s.eight y).heard := by
  rw [bitsL, runs_append, runs_bits s y wp h0 h1 hv hs hp hb hva hl 7 (by omega), hear_clock (s.part y 7) _ wp hv rfl hp (by show s.left - 3 * 7 = 0 ∨ 3 < s.left - 3 * 7; omega)]
  have hbk : (s.part y 7).bits = 7 := rfl
  rw [hbk, if_pos rfl]
  have hval := bit_val y 7 h0 h1 (by omega)
  have e : (s.part y 7).bit (y / 2 ^ (7 - 7) % 2 == 1) = s.eight y := by
    unfold EpS.bit EpS.part EpS.eight
    have e1 : s.left - 3 * 7 - 3 = s.left - 24 := by omega
    have e2 : s.clock + 3 * 7 + 3 = s.clock + 24 := by omega
    have e3 : y / 2 ^ (8 - (7 + 1)) = y := by simp
    rw [e3] at hval
    simp only [hval, e1, e2]
    simp
    split <;> omega
  rw [e]
/-- behind an acknowledgement that is asked for -/
theorem thank_clock (s : EpS) (n : Nx) (wp : Bool) (hv : s.ev = .thanks) (hn : s.nx = some n) (hs : s.scl = false) (hp : s.pulls = true) (hl : s.left = 0 ∨ 3 < s.left) :
    s.runs wp (clockL true) = ({ s with left := s.left - 3, scl := false, sda := false, clock := s.clock + 3 } : EpS).next n ∧ (s.runs wp ((clockL true).take 2)).pulls = true := by
  obtain ⟨kd, da, sc, sd, pu, ev, jd, nx, bi, va, bl, hi, po, hm, co, wa, le, ck⟩ := s
  change ev = _ at hv
  change nx = _ at hn
  change sc = _ at hs
  change pu = _ at hp
  change le = 0 ∨ 3 < le at hl
  subst hv; subst hn; subst hs; subst hp
  have e1 : EpS.step ⟨kd, da, false, sd, true, .thanks, jd, some n, bi, va, bl, hi, po, hm, co, wa, le, ck⟩ false true wp = ⟨kd, da, false, false, true, .thanks, jd, some n, bi, va, bl, hi, po, hm, co, wa, le - 1, ck + 1⟩ := by
    rw [step_calm _ false true wp (by show le ≠ 1; omega)]; rfl
  have e2 : EpS.step ⟨kd, da, false, false, true, .thanks, jd, some n, bi, va, bl, hi, po, hm, co, wa, le - 1, ck + 1⟩ true true wp = ⟨kd, da, true, false, true, .thanks, jd, some n, bi, va, bl, hi, po, hm, co, wa, le - 1 - 1, ck + 1 + 1⟩ := by
    rw [step_calm _ true true wp (by show le - 1 ≠ 1; omega)]; rfl
  have e3 : EpS.step ⟨kd, da, true, false, true, .thanks, jd, some n, bi, va, bl, hi, po, hm, co, wa, le - 1 - 1, ck + 1 + 1⟩ false true wp = EpS.next ⟨kd, da, false, false, true, .thanks, jd, some n, bi, va, bl, hi, po, hm, co, wa, le - 1 - 1 - 1, ck + 1 + 1 + 1⟩ n := by
    rw [step_calm _ false true wp (by show le - 1 - 1 ≠ 1; omega)]; rfl
  constructor
  · show EpS.step (EpS.step (EpS.step _ false true wp) true true wp) false true wp = _
    rw [e1, e2, e3]; rfl
  · show (EpS.step (EpS.step _ false true wp) true true wp).pulls = true
    rw [e1, e2]
theorem idle_clock (s : EpS) (d wp : Bool) (hv : s.ev = .idle) (hs : s.scl = false) (hp : s.pulls = false) (hl : s.left = 0 ∨ 3 < s.left) :
    s.runs wp (clockL d) = { s with left := s.left - 3, scl := false, sda := d, clock := s.clock + 3 } ∧ (s.runs wp ((clockL d).take 2)).pulls = false := by
  obtain ⟨kd, da, sc, sd, pu, ev, jd, nx, bi, va, bl, hi, po, hm, co, wa, le, ck⟩ := s
  change ev = _ at hv
  change sc = _ at hs
  change pu = _ at hp
  change le = 0 ∨ 3 < le at hl
  subst hv; subst hs; subst hp
  have e1 : EpS.step ⟨kd, da, false, sd, false, .idle, jd, nx, bi, va, bl, hi, po, hm, co, wa, le, ck⟩ false d wp = ⟨kd, da, false, d, false, .idle, jd, nx, bi, va, bl, hi, po, hm, co, wa, le - 1, ck + 1⟩ := by
    rw [step_calm _ false d wp (by show le ≠ 1; omega)]; cases d <;> rfl
  have e2 : EpS.step ⟨kd, da, false, d, false, .idle, jd, nx, bi, va, bl, hi, po, hm, co, wa, le - 1, ck + 1⟩ true d wp = ⟨kd, da, true, d, false, .idle, jd, nx, bi, va, bl, hi, po, hm, co, wa, le - 1 - 1, ck + 1 + 1⟩ := by
    rw [step_calm _ true d wp (by show le - 1 ≠ 1; omega)]; cases d <;> rfl
  have e3 : EpS.step ⟨kd, da, true, d, false, .idle, jd, nx, bi, va, bl, hi, po, hm, co, wa, le - 1 - 1, ck + 1 + 1⟩ false d wp = ⟨kd, da, false, d, false, .idle, jd, nx, bi, va, bl, hi, po, hm, co, wa, le - 1 - 1 - 1, ck + 1 + 1 + 1⟩ := by
    rw [step_calm _ false d wp (by show le - 1 - 1 ≠ 1; omega)]; cases d <;> rfl
  constructor
  · show EpS.step (EpS.step (EpS.step _ false d wp) true d wp) false d wp = _
    rw [e1, e2, e3]
    rfl
  · show (EpS.step (EpS.step _ false d wp) true d wp).pulls = false
    rw [e1, e2]
/-- what is so of a chip that listens for a byte, its clock low -/
structure EpS.Listens (s : EpS) (j : Jd) : Prop where
  hv : s.ev = .hears
  hj : s.jd = some j
  hs : s.scl = false
  hp : s.pulls = false
  hb : s.bits = 0
  hva : s.value = 0
/-- behind a byte that was judged well -/
def EpS.thanked (u : EpS) : EpS := { u with pulls := true, ev := .thanks, left := u.left - 3, scl := false, sda := false, clock := u.clock + 3 }
def EpS.refused (u : EpS) : EpS := { u with pulls := false, ev := .idle, left := u.left - 3, scl := false, sda := true, clock := u.clock + 3 }
theorem put_take26 (s : EpS) (y : Int) (a wp : Bool) : s.runs wp ((putL y a).take 26) = (s.runs wp (bitsL y 8)).runs wp ((clockL a).take 2) := by
  unfold putL
  rw [List.take_append, bitsL_len, List.take_of_length_le (by rw [bitsL_len]; decide), runs_append]
theorem put_yes (s : EpS) (y : Int) (j : Jd) (n : Nx) (h : s.Listens j) (h0 : 0 ≤ y) (h1 : y ≤ 255) (hl : s.left = 0 ∨ 27 < s.left) (hy : ((s.eight y).judge y j).2 = true) (hn : ((s.eight y).judge y j).1.nx = some n)
    (hl2 : ((s.eight y).judge y j).1.left = s.left - 24) (hs2 : ((s.eight y).judge y j).1.scl = false) :
    s.runs false (putL y true) = ((s.eight y).judge y j).1.thanked.next n ∧ s.ack y = 1 := by
  have hh : (s.eight y).heard = { ((s.eight y).judge y j).1 with pulls := true, ev := .thanks } := by
    unfold EpS.heard
    have e1 : (s.eight y).jd = some j := h.hj
    have e2 : (s.eight y).value = y := rfl
    rw [e1, e2]
    simp only
    rw [if_pos hy]
  have h8 := runs_eight s y false h0 h1 h.hv h.hs h.hp h.hb h.hva (by omega)
  rw [hh] at h8
  have ht := thank_clock ({ ((s.eight y).judge y j).1 with pulls := true, ev := .thanks } : EpS) n false rfl hn hs2 rfl (by show _ = 0 ∨ 3 < _; rw [show ({ ((s.eight y).judge y j).1 with pulls := true, ev := .thanks } : EpS).left = ((s.eight y).judge y j).1.left from rfl, hl2]; omega)
  constructor
  · unfold putL
    rw [runs_append, h8, ht.1]
    rfl
  · unfold EpS.ack
    rw [put_take26, h8]
    unfold EpS.line
    rw [ht.2]
    rfl
theorem put_no (s : EpS) (y : Int) (j : Jd) (h : s.Listens j) (h0 : 0 ≤ y) (h1 : y ≤ 255) (hl : s.left = 0 ∨ 27 < s.left) (hy : ((s.eight y).judge y j).2 = false)
    (hl2 : ((s.eight y).judge y j).1.left = s.left - 24) (hs2 : ((s.eight y).judge y j).1.scl = false) :
    s.runs false (putL y true) = ((s.eight y).judge y j).1.refused ∧ s.ack y = 0 := by
  have hh : (s.eight y).heard = ((s.eight y).judge y j).1.rest := by
    unfold EpS.heard
    have e1 : (s.eight y).jd = some j := h.hj
    have e2 : (s.eight y).value = y := rfl
    rw [e1, e2]
    simp only
    rw [if_neg (by rw [hy]; decide)]
  have h8 := runs_eight s y false h0 h1 h.hv h.hs h.hp h.hb h.hva (by omega)
  rw [hh] at h8
  have ht := idle_clock ((s.eight y).judge y j).1.rest true false rfl hs2 rfl (by show ((s.eight y).judge y j).1.left = 0 ∨ 3 < ((s.eight y).judge y j).1.left; rw [hl2]; omega)
  constructor
  · unfold putL
    rw [runs_append, h8, ht.1]
    rfl
  · unfold EpS.ack
    rw [put_take26, h8]
    unfold EpS.line
    rw [ht.2]
    rfl
end Go.Proofs.YtdpiaibjpaalhaaDoorLib
