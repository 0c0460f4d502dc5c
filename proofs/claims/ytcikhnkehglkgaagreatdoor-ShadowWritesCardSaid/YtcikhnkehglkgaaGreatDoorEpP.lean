/- PROVED: plain lemmas on a chip on two wires: what it does from cycle to cycle. No conditions beyond those that each theorem states. -/
import Derived.Test.YtcikhnkehglkgaaGreatDoorBy
namespace Go.Proofs.YtcikhnkehglkgaaGreatDoorLib
set_option linter.unusedSimpArgs false
set_option linter.unusedVariables false

/-- what it does at an event; who judges a byte; what is next behind an acknowledgement -/
inductive Ev where | idle | hears | thanks | tells | asks
  deriving DecidableEq
inductive Jd where | device | higher | lower | store
  deriving DecidableEq
inductive Nx where | send | higher | lower | store
  deriving DecidableEq
/-- the kinds: the bytes' power of 2, a page's, an address's bytes, its bits elsewhere -/
def geoRow (k : Nat) : Nat × Nat × Nat × Nat :=
  match k with
  | 1 => (7, 3, 1, 0) | 2 => (8, 3, 1, 0) | 3 => (9, 4, 1, 1) | 4 => (10, 4, 1, 2) | 5 => (11, 4, 1, 3)
  | 6 => (12, 5, 2, 0) | 7 => (13, 5, 2, 0) | 8 => (14, 6, 2, 0) | 9 => (15, 6, 2, 0) | 10 => (16, 7, 2, 0)
  | _ => (0, 0, 0, 0)
def geoBytes (k : Nat) : Nat := 2 ^ (geoRow k).1
def geoPage (k : Nat) : Nat := 2 ^ (geoRow k).2.1
def geoWide (k : Nat) : Nat := (geoRow k).2.2.1
def geoBlocks (k : Nat) : Nat := (geoRow k).2.2.2
/-- a chip; coll: what was collected, the last one first; hasMap: it has a map to collect in; clock: how many cycles there were -/
structure EpS where
  kind : Nat
  data : List Int
  scl : Bool
  sda : Bool
  pulls : Bool
  ev : Ev
  jd : Option Jd
  nx : Option Nx
  bits : Nat
  value : Int
  block : Nat
  high : Nat
  pointer : Nat
  hasMap : Bool
  coll : List (Nat × Int)
  waits : List (Nat × Int)
  left : Nat
  clock : Nat
def EpS.rest (s : EpS) : EpS := { s with pulls := false, ev := .idle }
def EpS.listen (s : EpS) (j : Jd) : EpS := { s with pulls := false, bits := 0, value := 0, jd := some j, ev := .hears }
def EpS.tell (s : EpS) : EpS := { s with pulls := decide (s.value / 2 ^ (7 - s.bits) % 2 = 0) }
def EpS.send (s : EpS) : EpS := EpS.tell { s with value := s.data[s.pointer]?.getD 0, pointer := (s.pointer + 1) % s.data.length, bits := 0, ev := .tells }
def EpS.next (s : EpS) : Nx → EpS
  | .send => s.send
  | .higher => s.listen .higher
  | .lower => s.listen .lower
  | .store => s.listen .store
def devBlock (b : Int) : Nat := (b / 2 % 8).toNat
def EpS.devOk (s : EpS) (b : Int) : Bool := b / 16 == 10 && decide (devBlock b < 2 ^ geoBlocks s.kind) && s.left == 0
def EpS.device (s : EpS) (b : Int) : EpS × Bool :=
  if s.devOk b = false then ({ s with block := devBlock b }, false)
  else if b % 2 = 1 then ({ s with block := devBlock b, pointer := if 0 < geoBlocks s.kind then 256 * devBlock b + s.pointer % 256 else s.pointer, nx := some .send }, true)
  else if 1 < geoWide s.kind then ({ s with block := devBlock b, nx := some .higher }, true)
  else ({ s with block := devBlock b, high := devBlock b, nx := some .lower }, true)
def EpS.higher (s : EpS) (b : Int) : EpS × Bool := ({ s with high := b.toNat, nx := some .lower }, true)
def EpS.lower (s : EpS) (b : Int) : EpS × Bool := ({ s with pointer := (256 * s.high + b.toNat) % s.data.length, hasMap := true, coll := [], nx := some .store }, true)
def nextIn (page p : Nat) : Nat := p / page * page + (p + 1 - p / page * page) % page
def EpS.store (s : EpS) (b : Int) : EpS × Bool := ({ s with coll := (s.pointer, b) :: s.coll, pointer := nextIn (geoPage s.kind) s.pointer }, true)
def EpS.judge (s : EpS) (b : Int) : Jd → EpS × Bool
  | .device => s.device b
  | .higher => s.higher b
  | .lower => s.lower b
  | .store => s.store b
/-- what the lines tell: 0 nothing, 1 Start, 2 Stop, 3 the clock rises, 4 it falls -/
def tellW (c d c' d' : Bool) : Int :=
  if c && c' then (if d == d' then 0 else if d' then 2 else 1) else if c then 4 else if c' then 3 else 0
def EpS.heard (s : EpS) : EpS :=
  match s.jd with
  | some j => if (s.judge s.value j).2 = true then { (s.judge s.value j).1 with pulls := true, ev := .thanks } else (s.judge s.value j).1.rest
  | none => s
def EpS.hears (s : EpS) (e : Int) (line : Bool) : EpS :=
  if e = 3 then { s with bits := s.bits + 1, value := s.value * 2 % 256 + (if line then 1 else 0) }
  else if e = 4 ∧ s.bits = 8 then s.heard else s
def EpS.thanks (s : EpS) (e : Int) : EpS :=
  if e = 4 then (match s.nx with | some n => s.next n | none => s) else s
def EpS.tells (s : EpS) (e : Int) : EpS :=
  if e = 4 then (if s.bits + 1 < 8 then EpS.tell { s with bits := s.bits + 1 } else { s with bits := s.bits + 1, pulls := false, ev := .asks }) else s
def EpS.asks (s : EpS) (e : Int) (line : Bool) : EpS :=
  if e = 3 ∧ line = true then s.rest else if e = 4 then s.send else s
def EpS.event (s : EpS) (e : Int) (line : Bool) : EpS :=
  match s.ev with
  | .idle => s
  | .hears => s.hears e line
  | .thanks => s.thanks e
  | .tells => s.tells e
  | .asks => s.asks e line
def EpS.start (s : EpS) : EpS := EpS.listen { s with coll := [] } .device
def EpS.stopped (s : EpS) (wp : Bool) : Bool := !s.coll.isEmpty && !s.pulls && s.bits == 1 && !wp
def EpS.stop (s : EpS) (wp : Bool) : EpS :=
  EpS.rest (if s.stopped wp = true then { s with waits := s.coll, left := 50, hasMap := true, coll := [] } else { s with hasMap := true, coll := [] })
def laid (d : List Int) (L : List (Nat × Int)) : List Int := d.mapIdx fun i x => (L.lookup i).getD x
def EpS.tick (s : EpS) : EpS :=
  if s.left = 0 then s else if s.left = 1 then { s with left := 0, data := laid s.data s.waits, waits := [] } else { s with left := s.left - 1 }
def EpS.line (s : EpS) (sda : Bool) : Bool := sda && !s.pulls
def EpS.wired (s : EpS) (scl sda : Bool) : EpS := { s with scl := scl, sda := sda, clock := s.clock + 1 }
def EpS.meets (s : EpS) (e : Int) (line wp : Bool) : EpS := if e = 1 then s.start else if e = 2 then s.stop wp else s.event e line
def EpS.step (s : EpS) (scl sda wp : Bool) : EpS :=
  (s.tick.wired scl (s.tick.line sda)).meets (tellW s.tick.scl s.tick.sda scl (s.tick.line sda)) (s.tick.line sda) wp
def EpS.new (k : Nat) (d : List Int) : EpS := ⟨k, d, true, true, false, .idle, none, none, 0, 0, 0, 0, 0, false, [], [], 0, 0⟩

/-- what is always so -/
structure EpS.Ok (s : EpS) : Prop where
  k1 : 1 ≤ s.kind
  k2 : s.kind ≤ 10
  len : s.data.length = geoBytes s.kind
  bts : Bts s.data
  hj : s.ev = .hears → s.jd ≠ none
  tn : s.ev = .thanks → s.nx ≠ none
  tb : s.ev = .tells → s.bits < 8
  js : s.jd = some .store → s.nx = some .store
  ns : s.nx = some .store → s.hasMap = true
  cm : s.hasMap = false → s.coll = []
  bi : s.bits ≤ s.clock + 8
  vl : 0 ≤ s.value ∧ s.value ≤ 255
  bl : s.block ≤ 255
  hi : s.high ≤ 255
  po : s.pointer < s.data.length
  cl : s.coll.length ≤ s.clock
  cb : ∀ p, p ∈ s.coll → p.1 < s.data.length ∧ 0 ≤ p.2 ∧ p.2 ≤ 255
  wl : s.waits.length ≤ s.clock
  wb : ∀ p, p ∈ s.waits → p.1 < s.data.length ∧ 0 ≤ p.2 ∧ p.2 ≤ 255
  le : s.left ≤ 50
  lw : s.left = 0 ↔ s.waits = []
  ck : s.clock ≤ 1000000000
theorem geo_cases {k : Nat} (h1 : 1 ≤ k) (h2 : k ≤ 10) : k = 1 ∨ k = 2 ∨ k = 3 ∨ k = 4 ∨ k = 5 ∨ k = 6 ∨ k = 7 ∨ k = 8 ∨ k = 9 ∨ k = 10 := by omega
theorem geo_bd {k : Nat} (h1 : 1 ≤ k) (h2 : k ≤ 10) : 128 ≤ geoBytes k ∧ geoBytes k ≤ 65536 ∧ 8 ≤ geoPage k ∧ geoPage k ≤ 128 ∧ 1 ≤ geoWide k ∧ geoWide k ≤ 2 ∧ geoBlocks k ≤ 3 ∧ geoPage k ∣ geoBytes k ∧ (0 < geoBlocks k → geoBytes k = 256 * 2 ^ geoBlocks k) := by
  rcases geo_cases h1 h2 with rfl | rfl | rfl | rfl | rfl | rfl | rfl | rfl | rfl | rfl <;> decide
theorem EpS.Ok.rest {s : EpS} (h : s.Ok) : s.rest.Ok :=
  ⟨h.k1, h.k2, h.len, h.bts, fun e => (by cases e), fun e => (by cases e), fun e => (by cases e), h.js, h.ns, h.cm, h.bi, h.vl, h.bl, h.hi, h.po, h.cl, h.cb, h.wl, h.wb, h.le, h.lw, h.ck⟩
theorem EpS.Ok.listen {s : EpS} (h : s.Ok) (j : Jd) (hj : j = .store → s.nx = some .store) : (s.listen j).Ok :=
  ⟨h.k1, h.k2, h.len, h.bts, fun _ e => (by cases e), fun e => (by cases e), fun e => (by cases e), fun e => hj (by injection e), h.ns, h.cm, Nat.zero_le _, ⟨Int.le_refl _, (by show (0 : Int) ≤ 255; decide)⟩, h.bl, h.hi, h.po, h.cl, h.cb, h.wl, h.wb, h.le, h.lw, h.ck⟩
theorem EpS.Ok.at {s : EpS} (h : s.Ok) : s.data[s.pointer]? = some (s.data[s.pointer]?.getD 0) := by
  have := h.po
  simp [this]
theorem EpS.Ok.send {s : EpS} (h : s.Ok) : s.send.Ok := by
  have hp := h.po
  have hv := h.bts.get h.at
  exact ⟨h.k1, h.k2, h.len, h.bts, fun e => (by cases e), fun e => (by cases e), fun _ => (by show 0 < 8; decide), h.js, h.ns, h.cm, Nat.zero_le _, hv, h.bl, h.hi, Nat.mod_lt _ (by omega), h.cl, h.cb, h.wl, h.wb, h.le, h.lw, h.ck⟩
theorem EpS.Ok.tell {s : EpS} (h : s.Ok) : s.tell.Ok :=
  ⟨h.k1, h.k2, h.len, h.bts, h.hj, h.tn, h.tb, h.js, h.ns, h.cm, h.bi, h.vl, h.bl, h.hi, h.po, h.cl, h.cb, h.wl, h.wb, h.le, h.lw, h.ck⟩
theorem EpS.Ok.next {s : EpS} (h : s.Ok) (n : Nx) (hn : s.nx = some n) : (s.next n).Ok := by
  cases n
  · exact h.send
  · exact h.listen _ (fun e => by cases e)
  · exact h.listen _ (fun e => by cases e)
  · exact h.listen _ (fun _ => hn)
theorem devBlock_le (b : Int) : devBlock b ≤ 7 := by unfold devBlock; omega
theorem EpS.Ok.device {s : EpS} (h : s.Ok) (b : Int) (hj : s.jd = some .device) : (s.device b).1.Ok := by
  have hjs : ∀ (x : Option Nx), s.jd = some .store → x = some .store := fun x e => by rw [hj] at e; cases e
  have hb := devBlock_le b
  have hg := geo_bd h.k1 h.k2
  have hpo := h.po
  have hlen := h.len
  have h0 : ({ s with block := devBlock b } : EpS).Ok := ⟨h.k1, h.k2, h.len, h.bts, h.hj, h.tn, h.tb, h.js, h.ns, h.cm, h.bi, h.vl, by show devBlock b ≤ 255; omega, h.hi, h.po, h.cl, h.cb, h.wl, h.wb, h.le, h.lw, h.ck⟩
  unfold EpS.device
  split
  · exact h0
  rename_i hd
  have hd' : devBlock b < 2 ^ geoBlocks s.kind := by
    simp [EpS.devOk] at hd; exact hd.2.1
  split
  · refine ⟨h.k1, h.k2, h.len, h.bts, h.hj, fun _ e => (by cases e), h.tb, hjs _, fun e => (by cases e), h.cm, h.bi, h.vl, h0.bl, h.hi, ?_, h.cl, h.cb, h.wl, h.wb, h.le, h.lw, h.ck⟩
    show (if 0 < geoBlocks s.kind then 256 * devBlock b + s.pointer % 256 else s.pointer) < s.data.length
    split
    · rename_i hg0
      rw [hlen, hg.2.2.2.2.2.2.2.2 hg0]
      omega
    · exact hpo
  · split
    · exact ⟨h.k1, h.k2, h.len, h.bts, h.hj, fun _ e => (by cases e), h.tb, hjs _, fun e => (by cases e), h.cm, h.bi, h.vl, h0.bl, h.hi, h.po, h.cl, h.cb, h.wl, h.wb, h.le, h.lw, h.ck⟩
    · exact ⟨h.k1, h.k2, h.len, h.bts, h.hj, fun _ e => (by cases e), h.tb, hjs _, fun e => (by cases e), h.cm, h.bi, h.vl, h0.bl, h0.bl, h.po, h.cl, h.cb, h.wl, h.wb, h.le, h.lw, h.ck⟩
theorem EpS.Ok.higher {s : EpS} (h : s.Ok) (b : Int) (hb : 0 ≤ b ∧ b ≤ 255) (hj : s.jd = some .higher) : (s.higher b).1.Ok :=
  ⟨h.k1, h.k2, h.len, h.bts, h.hj, fun _ e => (by cases e), h.tb, fun e => (by change s.jd = _ at e; rw [hj] at e; cases e), fun e => (by cases e), h.cm, h.bi, h.vl, h.bl, by show b.toNat ≤ 255; omega, h.po, h.cl, h.cb, h.wl, h.wb, h.le, h.lw, h.ck⟩
theorem EpS.Ok.lower {s : EpS} (h : s.Ok) (b : Int) : (s.lower b).1.Ok := by
  have hg := geo_bd h.k1 h.k2
  have hlen := h.len
  exact ⟨h.k1, h.k2, h.len, h.bts, h.hj, fun _ e => (by cases e), h.tb, fun _ => rfl, fun _ => rfl, fun e => (by cases e), h.bi, h.vl, h.bl, h.hi, Nat.mod_lt _ (by omega), Nat.zero_le _, fun p hp => (by cases hp), h.wl, h.wb, h.le, h.lw, h.ck⟩
theorem nextIn_lt {page p n : Nat} (hp : 0 < page) (hd : page ∣ n) (h : p < n) : nextIn page p < n ∧ nextIn page p / page = p / page := by
  obtain ⟨q, rfl⟩ := hd
  unfold nextIn
  have h1 : (p + 1 - p / page * page) % page < page := Nat.mod_lt _ hp
  have h2 : p / page < q := Nat.div_lt_of_lt_mul h
  have h3 : (p / page + 1) * page ≤ q * page := Nat.mul_le_mul_right _ h2
  rw [Nat.succ_mul] at h3
  have e : q * page = page * q := Nat.mul_comm _ _
  refine ⟨by omega, ?_⟩
  generalize (p + 1 - p / page * page) % page = r at h1
  rw [Nat.mul_comm, Nat.mul_add_div hp, Nat.div_eq_of_lt h1]; rfl
theorem EpS.Ok.store {s : EpS} (h : s.Ok) (b : Int) (hb : 0 ≤ b ∧ b ≤ 255) (hm : s.hasMap = true) (hc : s.coll.length < s.clock) : (s.store b).1.Ok := by
  have hg := geo_bd h.k1 h.k2
  have hn := nextIn_lt (by omega) (h.len ▸ hg.2.2.2.2.2.2.2.1) h.po
  refine ⟨h.k1, h.k2, h.len, h.bts, h.hj, h.tn, h.tb, h.js, h.ns, fun e => ?_, h.bi, h.vl, h.bl, h.hi, hn.1, hc, fun p hp => ?_, h.wl, h.wb, h.le, h.lw, h.ck⟩
  · change s.hasMap = false at e; rw [hm] at e; cases e
  · rcases List.mem_cons.1 hp with rfl | hp
    · exact ⟨h.po, hb⟩
    · exact h.cb p hp
theorem EpS.Ok.judge {s : EpS} (h : s.Ok) (b : Int) (hb : 0 ≤ b ∧ b ≤ 255) (j : Jd) (hj : s.jd = some j) (hc : s.coll.length < s.clock) : (s.judge b j).1.Ok := by
  cases j
  · exact h.device b hj
  · exact h.higher b hb hj
  · exact h.lower b
  · exact h.store b hb (h.ns (h.js hj)) hc
/-- behind a yes there is something next -/
theorem EpS.judge_nx {s : EpS} (b : Int) (j : Jd) (hj : s.jd = some .store → s.nx = some .store) (h : s.jd = some j) : (s.judge b j).2 = true → (s.judge b j).1.nx ≠ none := by
  intro hy
  cases j
  · simp only [EpS.judge, EpS.device] at hy ⊢
    split
    · rename_i hd; rw [if_pos hd] at hy; cases hy
    · split
      · simp
      · split <;> simp
  · simp [EpS.judge, EpS.higher]
  · simp [EpS.judge, EpS.lower]
  · simp [EpS.judge, EpS.store, hj h]
theorem EpS.Ok.pull {s : EpS} (h : s.Ok) (p : Bool) : ({ s with pulls := p } : EpS).Ok :=
  ⟨h.k1, h.k2, h.len, h.bts, h.hj, h.tn, h.tb, h.js, h.ns, h.cm, h.bi, h.vl, h.bl, h.hi, h.po, h.cl, h.cb, h.wl, h.wb, h.le, h.lw, h.ck⟩
theorem EpS.Ok.wait {s : EpS} (h : s.Ok) (hn : s.nx ≠ none) : ({ s with pulls := true, ev := .thanks } : EpS).Ok :=
  ⟨h.k1, h.k2, h.len, h.bts, fun e => (by cases e), fun _ => hn, fun e => (by cases e), h.js, h.ns, h.cm, h.bi, h.vl, h.bl, h.hi, h.po, h.cl, h.cb, h.wl, h.wb, h.le, h.lw, h.ck⟩
/-- a cycle has just begun -/
def EpS.Go (s : EpS) : Prop := s.coll.length < s.clock ∧ s.bits < s.clock + 8
theorem EpS.Ok.heard {s : EpS} (h : s.Ok) (hg : s.Go) : s.heard.Ok := by
  unfold EpS.heard
  cases hj : s.jd with
  | none => exact h
  | some j =>
    have h1 := h.judge s.value h.vl j hj hg.1
    simp only
    split
    · rename_i hy
      exact h1.wait (EpS.judge_nx s.value j h.js hj hy)
    · exact h1.rest
theorem EpS.Ok.rise {s : EpS} (h : s.Ok) (hg : s.Go) (he : s.ev ≠ .tells) (line : Bool) : ({ s with bits := s.bits + 1, value := s.value * 2 % 256 + (if line then 1 else 0) } : EpS).Ok := by
  have hb := hg.2
  refine ⟨h.k1, h.k2, h.len, h.bts, h.hj, h.tn, fun e => absurd e he, h.js, h.ns, h.cm, hb, ?_, h.bl, h.hi, h.po, h.cl, h.cb, h.wl, h.wb, h.le, h.lw, h.ck⟩
  show 0 ≤ s.value * 2 % 256 + (if line then 1 else 0) ∧ s.value * 2 % 256 + (if line then 1 else 0) ≤ 255
  split <;> omega
theorem EpS.Ok.hears {s : EpS} (h : s.Ok) (hg : s.Go) (he : s.ev ≠ .tells) (e : Int) (line : Bool) : (s.hears e line).Ok := by
  unfold EpS.hears
  split
  · exact h.rise hg he line
  · split
    · exact h.heard hg
    · exact h
theorem EpS.Ok.thanks {s : EpS} (h : s.Ok) (e : Int) : (s.thanks e).Ok := by
  unfold EpS.thanks
  split
  · cases hn : s.nx with
    | none => exact h
    | some n => exact h.next n hn
  · exact h
theorem EpS.Ok.tells {s : EpS} (h : s.Ok) (hg : s.Go) (e : Int) : (s.tells e).Ok := by
  have hb := hg.2
  unfold EpS.tells
  split
  · split
    · rename_i hlt
      exact EpS.Ok.tell ⟨h.k1, h.k2, h.len, h.bts, h.hj, h.tn, fun _ => hlt, h.js, h.ns, h.cm, hb, h.vl, h.bl, h.hi, h.po, h.cl, h.cb, h.wl, h.wb, h.le, h.lw, h.ck⟩
    · exact ⟨h.k1, h.k2, h.len, h.bts, fun e => (by cases e), fun e => (by cases e), fun e => (by cases e), h.js, h.ns, h.cm, hb, h.vl, h.bl, h.hi, h.po, h.cl, h.cb, h.wl, h.wb, h.le, h.lw, h.ck⟩
  · exact h
theorem EpS.Ok.asks {s : EpS} (h : s.Ok) (e : Int) (line : Bool) : (s.asks e line).Ok := by
  unfold EpS.asks
  split
  · exact h.rest
  · split
    · exact h.send
    · exact h
theorem EpS.Ok.event {s : EpS} (h : s.Ok) (hg : s.Go) (e : Int) (line : Bool) : (s.event e line).Ok := by
  unfold EpS.event
  cases hv : s.ev with
  | idle => exact h
  | hears => exact h.hears hg (by rw [hv]; decide) e line
  | thanks => exact h.thanks e
  | tells => exact h.tells hg e
  | asks => exact h.asks e line
theorem EpS.Ok.cleared {s : EpS} (h : s.Ok) : ({ s with coll := [] } : EpS).Ok :=
  ⟨h.k1, h.k2, h.len, h.bts, h.hj, h.tn, h.tb, h.js, h.ns, fun _ => rfl, h.bi, h.vl, h.bl, h.hi, h.po, Nat.zero_le _, fun p hp => (by cases hp), h.wl, h.wb, h.le, h.lw, h.ck⟩
theorem EpS.Ok.start {s : EpS} (h : s.Ok) : s.start.Ok := h.cleared.listen _ (fun e => by cases e)
theorem EpS.Ok.fresh {s : EpS} (h : s.Ok) : ({ s with hasMap := true, coll := [] } : EpS).Ok :=
  ⟨h.k1, h.k2, h.len, h.bts, h.hj, h.tn, h.tb, h.js, fun _ => rfl, fun _ => rfl, h.bi, h.vl, h.bl, h.hi, h.po, Nat.zero_le _, fun p hp => (by cases hp), h.wl, h.wb, h.le, h.lw, h.ck⟩
theorem EpS.Ok.stop {s : EpS} (h : s.Ok) (wp : Bool) : (s.stop wp).Ok := by
  unfold EpS.stop
  split
  · rename_i hs
    have hc : s.coll ≠ [] := by intro e; simp [EpS.stopped, e] at hs
    have h1 : ({ s with waits := s.coll, left := 50 } : EpS).Ok :=
      ⟨h.k1, h.k2, h.len, h.bts, h.hj, h.tn, h.tb, h.js, h.ns, h.cm, h.bi, h.vl, h.bl, h.hi, h.po, h.cl, h.cb, h.cl, h.cb, Nat.le_refl _, ⟨fun e => (by cases e), fun e => absurd e hc⟩, h.ck⟩
    exact h1.fresh.rest
  · exact h.fresh.rest
theorem length_laid (d : List Int) (L : List (Nat × Int)) : (laid d L).length = d.length := by simp [laid]
theorem laid_get (d : List Int) (L : List (Nat × Int)) (i : Nat) : (laid d L)[i]? = d[i]?.map fun x => (L.lookup i).getD x := by
  unfold laid; rw [List.getElem?_mapIdx]
theorem mem_of_lookup {L : List (Nat × Int)} {i : Nat} {v : Int} (h : L.lookup i = some v) : (i, v) ∈ L := by
  induction L with
  | nil => cases h
  | cons p L ih =>
    obtain ⟨a, x⟩ := p
    rw [List.lookup_cons] at h
    split at h
    · rename_i e
      cases h
      have : i = a := by simpa using e
      subst this; exact List.mem_cons_self ..
    · exact List.mem_cons_of_mem _ (ih h)
theorem laid_bts {d : List Int} {L : List (Nat × Int)} (hd : Bts d) (hl : ∀ p, p ∈ L → 0 ≤ p.2 ∧ p.2 ≤ 255) : Bts (laid d L) := by
  intro x hx
  obtain ⟨i, hi⟩ := List.mem_iff_getElem?.1 hx
  rw [laid_get] at hi
  cases hdi : d[i]? with
  | none => rw [hdi] at hi; cases hi
  | some y =>
    rw [hdi] at hi
    simp only [Option.map_some, Option.some.injEq] at hi
    subst hi
    cases hl2 : L.lookup i with
    | none => exact hd.get hdi
    | some v => exact hl _ (mem_of_lookup hl2)
theorem EpS.Ok.tick {s : EpS} (h : s.Ok) : s.tick.Ok := by
  unfold EpS.tick
  split
  · exact h
  · rename_i h0
    split
    · refine ⟨h.k1, h.k2, (length_laid _ _).trans h.len, laid_bts h.bts (fun p hp => (h.wb p hp).2), h.hj, h.tn, h.tb, h.js, h.ns, h.cm, h.bi, h.vl, h.bl, h.hi, ?_, h.cl, fun p hp => ?_, Nat.zero_le _, fun p hp => (by cases hp), Nat.zero_le _, ⟨fun _ => rfl, fun _ => rfl⟩, h.ck⟩
      · show s.pointer < (laid s.data s.waits).length
        rw [length_laid]; exact h.po
      · show p.1 < (laid s.data s.waits).length ∧ _
        rw [length_laid]; exact h.cb p hp
    · rename_i h1
      have := h.le
      exact ⟨h.k1, h.k2, h.len, h.bts, h.hj, h.tn, h.tb, h.js, h.ns, h.cm, h.bi, h.vl, h.bl, h.hi, h.po, h.cl, h.cb, h.wl, h.wb, by show s.left - 1 ≤ 50; omega, ⟨fun e => (by change s.left - 1 = 0 at e; omega), fun e => absurd (h.lw.2 e) h0⟩, h.ck⟩
theorem EpS.Ok.wired {s : EpS} (h : s.Ok) (hc : s.clock < 1000000000) (scl sda : Bool) : (s.wired scl sda).Ok ∧ (s.wired scl sda).Go := by
  have h1 := h.bi
  have h2 := h.cl
  have h3 := h.wl
  exact ⟨⟨h.k1, h.k2, h.len, h.bts, h.hj, h.tn, h.tb, h.js, h.ns, h.cm, by show s.bits ≤ s.clock + 1 + 8; omega, h.vl, h.bl, h.hi, h.po, by show s.coll.length ≤ s.clock + 1; omega, h.cb, by show s.waits.length ≤ s.clock + 1; omega, h.wb, h.le, h.lw, hc⟩, by show s.coll.length < s.clock + 1; omega, by show s.bits < s.clock + 1 + 8; omega⟩
theorem EpS.Ok.meets {s : EpS} (h : s.Ok) (hg : s.Go) (e : Int) (line wp : Bool) : (s.meets e line wp).Ok := by
  unfold EpS.meets
  split
  · exact h.start
  · split
    · exact h.stop wp
    · exact h.event hg e line
theorem tick_clock (s : EpS) : s.tick.clock = s.clock := by
  unfold EpS.tick
  split
  · rfl
  · split <;> rfl
theorem EpS.Ok.step {s : EpS} (h : s.Ok) (hc : s.clock < 1000000000) (scl sda wp : Bool) : (s.step scl sda wp).Ok := by
  have h1 := h.tick.wired (by rw [tick_clock]; exact hc) scl (s.tick.line sda)
  exact h1.1.meets h1.2 _ _ _
theorem EpS.Ok.new {k : Nat} {d : List Int} (h1 : 1 ≤ k) (h2 : k ≤ 10) (hl : d.length = geoBytes k) (hb : Bts d) : (EpS.new k d).Ok := by
  have := geo_bd h1 h2
  exact ⟨h1, h2, hl, hb, fun e => (by cases e), fun e => (by cases e), fun e => (by cases e), fun e => (by cases e), fun e => (by cases e), fun _ => rfl, Nat.zero_le _, ⟨Int.le_refl _, (by show (0 : Int) ≤ 255; decide)⟩, Nat.zero_le _, Nat.zero_le _, by show 0 < d.length; omega, Nat.zero_le _, fun p hp => (by cases hp), Nat.zero_le _, fun p hp => (by cases hp), Nat.zero_le _, ⟨fun _ => rfl, fun _ => rfl⟩, Nat.zero_le _⟩
end Go.Proofs.YtcikhnkehglkgaaGreatDoorLib
