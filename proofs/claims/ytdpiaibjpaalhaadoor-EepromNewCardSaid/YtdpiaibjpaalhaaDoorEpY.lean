/- PROVED: plain laws of a chip on two wires: an address, bytes that are written, and waiting. No conditions beyond those that each theorem states. -/
import Derived.Test.YtdpiaibjpaalhaaDoorEpX
namespace Go.Proofs.YtdpiaibjpaalhaaDoorLib
set_option linter.unusedSimpArgs false
set_option linter.unusedVariables false

def EpS.begun (s : EpS) : EpS := { s with scl := false, sda := false, ev := .hears, jd := some .device, bits := 0, value := 0, pulls := false, coll := [], clock := s.clock + 4, left := s.left - 4 }
/-- nothing goes on: it is idle, or listens, its clock low -/
def EpS.Calm (s : EpS) : Prop := s.pulls = false ∧ (s.ev = .idle ∨ (s.ev = .hears ∧ s.bits = 0 ∧ s.scl = false))
theorem runs_begin (s : EpS) (wp : Bool) (h : s.Calm) (hl : s.left = 0 ∨ 4 < s.left) : s.runs wp beginL = s.begun := by
  obtain ⟨kd, da, sc, sd, pu, ev, jd, nx, bi, va, bl, hi, po, hm, co, wa, le, ck⟩ := s
  obtain ⟨hp, hv⟩ := h
  change pu = _ at hp
  change le = 0 ∨ 4 < le at hl
  subst hp
  rcases hv with hv | ⟨hv, hb, hs⟩
  · change ev = _ at hv
    subst hv
    have e1 : EpS.step ⟨kd, da, sc, sd, false, .idle, jd, nx, bi, va, bl, hi, po, hm, co, wa, le, ck⟩ false true wp = ⟨kd, da, false, true, false, .idle, jd, nx, bi, va, bl, hi, po, hm, co, wa, le - 1, ck + 1⟩ := by
      rw [step_calm _ false true wp (by show le ≠ 1; omega)]; cases sc <;> rfl
    have e2 : EpS.step ⟨kd, da, false, true, false, .idle, jd, nx, bi, va, bl, hi, po, hm, co, wa, le - 1, ck + 1⟩ true true wp = ⟨kd, da, true, true, false, .idle, jd, nx, bi, va, bl, hi, po, hm, co, wa, le - 1 - 1, ck + 1 + 1⟩ := by
      rw [step_calm _ true true wp (by show le - 1 ≠ 1; omega)]; rfl
    have e3 : EpS.step ⟨kd, da, true, true, false, .idle, jd, nx, bi, va, bl, hi, po, hm, co, wa, le - 1 - 1, ck + 1 + 1⟩ true false wp = ⟨kd, da, true, false, false, .hears, some .device, nx, 0, 0, bl, hi, po, hm, [], wa, le - 1 - 1 - 1, ck + 1 + 1 + 1⟩ := by
      rw [step_calm _ true false wp (by show le - 1 - 1 ≠ 1; omega)]; rfl
    have e4 : EpS.step ⟨kd, da, true, false, false, .hears, some .device, nx, 0, 0, bl, hi, po, hm, [], wa, le - 1 - 1 - 1, ck + 1 + 1 + 1⟩ false false wp = ⟨kd, da, false, false, false, .hears, some .device, nx, 0, 0, bl, hi, po, hm, [], wa, le - 1 - 1 - 1 - 1, ck + 1 + 1 + 1 + 1⟩ := by
      rw [step_calm _ false false wp (by show le - 1 - 1 - 1 ≠ 1; omega)]; rfl
    show EpS.step (EpS.step (EpS.step (EpS.step _ false true wp) true true wp) true false wp) false false wp = _
    rw [e1, e2, e3, e4]; rfl
  · change ev = _ at hv
    change bi = _ at hb
    change sc = _ at hs
    subst hv; subst hb; subst hs
    have e1 : EpS.step ⟨kd, da, false, sd, false, .hears, jd, nx, 0, va, bl, hi, po, hm, co, wa, le, ck⟩ false true wp = ⟨kd, da, false, true, false, .hears, jd, nx, 0, va, bl, hi, po, hm, co, wa, le - 1, ck + 1⟩ := by
      rw [step_calm _ false true wp (by show le ≠ 1; omega)]; rfl
    have e2 : EpS.step ⟨kd, da, false, true, false, .hears, jd, nx, 0, va, bl, hi, po, hm, co, wa, le - 1, ck + 1⟩ true true wp = ⟨kd, da, true, true, false, .hears, jd, nx, 1, va * 2 % 256 + 1, bl, hi, po, hm, co, wa, le - 1 - 1, ck + 1 + 1⟩ := by
      rw [step_calm _ true true wp (by show le - 1 ≠ 1; omega)]; rfl
    have e3 : EpS.step ⟨kd, da, true, true, false, .hears, jd, nx, 1, va * 2 % 256 + 1, bl, hi, po, hm, co, wa, le - 1 - 1, ck + 1 + 1⟩ true false wp = ⟨kd, da, true, false, false, .hears, some .device, nx, 0, 0, bl, hi, po, hm, [], wa, le - 1 - 1 - 1, ck + 1 + 1 + 1⟩ := by
      rw [step_calm _ true false wp (by show le - 1 - 1 ≠ 1; omega)]; rfl
    have e4 : EpS.step ⟨kd, da, true, false, false, .hears, some .device, nx, 0, 0, bl, hi, po, hm, [], wa, le - 1 - 1 - 1, ck + 1 + 1 + 1⟩ false false wp = ⟨kd, da, false, false, false, .hears, some .device, nx, 0, 0, bl, hi, po, hm, [], wa, le - 1 - 1 - 1 - 1, ck + 1 + 1 + 1 + 1⟩ := by
      rw [step_calm _ false false wp (by show le - 1 - 1 - 1 ≠ 1; omega)]; rfl
    show EpS.step (EpS.step (EpS.step (EpS.step _ false true wp) true true wp) true false wp) false false wp = _
    rw [e1, e2, e3, e4]; rfl
theorem begun_listens (s : EpS) : s.begun.Listens .device := ⟨rfl, rfl, rfl, rfl, rfl, rfl⟩
/-- a Stop behind bytes that were listened for -/
theorem end_listens (s : EpS) (j : Jd) (wp : Bool) (h : s.Listens j) (hl : s.left = 0 ∨ 3 < s.left) :
    s.runs wp endL = ({ s with scl := true, sda := true, bits := 1, clock := s.clock + 3, left := s.left - 3 } : EpS).stop wp := by
  obtain ⟨kd, da, sc, sd, pu, ev, jd, nx, bi, va, bl, hi, po, hm, co, wa, le, ck⟩ := s
  obtain ⟨h1, h2, h3, h4, h5, h6⟩ := h
  change ev = _ at h1
  change jd = _ at h2
  change sc = _ at h3
  change pu = _ at h4
  change bi = _ at h5
  change va = _ at h6
  change le = 0 ∨ 3 < le at hl
  subst h1; subst h2; subst h3; subst h4; subst h5; subst h6
  have e1 : EpS.step ⟨kd, da, false, sd, false, .hears, some j, nx, 0, 0, bl, hi, po, hm, co, wa, le, ck⟩ false false wp = ⟨kd, da, false, false, false, .hears, some j, nx, 0, 0, bl, hi, po, hm, co, wa, le - 1, ck + 1⟩ := by
    rw [step_calm _ false false wp (by show le ≠ 1; omega)]; rfl
  have e2 : EpS.step ⟨kd, da, false, false, false, .hears, some j, nx, 0, 0, bl, hi, po, hm, co, wa, le - 1, ck + 1⟩ true false wp = ⟨kd, da, true, false, false, .hears, some j, nx, 1, 0, bl, hi, po, hm, co, wa, le - 1 - 1, ck + 1 + 1⟩ := by
    rw [step_calm _ true false wp (by show le - 1 ≠ 1; omega)]; rfl
  have e3 : EpS.step ⟨kd, da, true, false, false, .hears, some j, nx, 1, 0, bl, hi, po, hm, co, wa, le - 1 - 1, ck + 1 + 1⟩ true true wp = EpS.stop ⟨kd, da, true, true, false, .hears, some j, nx, 1, 0, bl, hi, po, hm, co, wa, le - 1 - 1 - 1, ck + 1 + 1 + 1⟩ wp := by
    rw [step_calm _ true true wp (by show le - 1 - 1 ≠ 1; omega)]; rfl
  show EpS.step (EpS.step (EpS.step _ false false wp) true false wp) true true wp = _
  rw [e1, e2, e3]; rfl
theorem end_idle (s : EpS) (wp : Bool) (hv : s.ev = .idle) (hs : s.scl = false) (hp : s.pulls = false) (hl : s.left = 0 ∨ 3 < s.left) :
    s.runs wp endL = ({ s with scl := true, sda := true, clock := s.clock + 3, left := s.left - 3 } : EpS).stop wp := by
  obtain ⟨kd, da, sc, sd, pu, ev, jd, nx, bi, va, bl, hi, po, hm, co, wa, le, ck⟩ := s
  change ev = _ at hv
  change sc = _ at hs
  change pu = _ at hp
  change le = 0 ∨ 3 < le at hl
  subst hv; subst hs; subst hp
  have e1 : EpS.step ⟨kd, da, false, sd, false, .idle, jd, nx, bi, va, bl, hi, po, hm, co, wa, le, ck⟩ false false wp = ⟨kd, da, false, false, false, .idle, jd, nx, bi, va, bl, hi, po, hm, co, wa, le - 1, ck + 1⟩ := by
    rw [step_calm _ false false wp (by show le ≠ 1; omega)]; rfl
  have e2 : EpS.step ⟨kd, da, false, false, false, .idle, jd, nx, bi, va, bl, hi, po, hm, co, wa, le - 1, ck + 1⟩ true false wp = ⟨kd, da, true, false, false, .idle, jd, nx, bi, va, bl, hi, po, hm, co, wa, le - 1 - 1, ck + 1 + 1⟩ := by
    rw [step_calm _ true false wp (by show le - 1 ≠ 1; omega)]; rfl
  have e3 : EpS.step ⟨kd, da, true, false, false, .idle, jd, nx, bi, va, bl, hi, po, hm, co, wa, le - 1 - 1, ck + 1 + 1⟩ true true wp = EpS.stop ⟨kd, da, true, true, false, .idle, jd, nx, bi, va, bl, hi, po, hm, co, wa, le - 1 - 1 - 1, ck + 1 + 1 + 1⟩ wp := by
    rw [step_calm _ true true wp (by show le - 1 - 1 ≠ 1; omega)]; rfl
  show EpS.step (EpS.step (EpS.step _ false false wp) true false wp) true true wp = _
  rw [e1, e2, e3]; rfl
/-- it rests, both lines high -/
structure EpS.Rests (s : EpS) : Prop where
  hv : s.ev = .idle
  hs : s.scl = true
  hd : s.sda = true
  hp : s.pulls = false
theorem rests_step (s : EpS) (h : s.Rests) (hl : s.left ≠ 1) : s.step true true false = { s with left := s.left - 1, clock := s.clock + 1 } := by
  obtain ⟨kd, da, sc, sd, pu, ev, jd, nx, bi, va, bl, hi, po, hm, co, wa, le, ck⟩ := s
  obtain ⟨h1, h2, h3, h4⟩ := h
  change ev = _ at h1
  change sc = _ at h2
  change sd = _ at h3
  change pu = _ at h4
  subst h1; subst h2; subst h3; subst h4
  rw [step_calm _ true true false hl]; rfl
theorem rests_lays (s : EpS) (h : s.Rests) (hl : s.left = 1) : s.step true true false = { s with left := 0, data := laid s.data s.waits, waits := [], clock := s.clock + 1 } := by
  obtain ⟨kd, da, sc, sd, pu, ev, jd, nx, bi, va, bl, hi, po, hm, co, wa, le, ck⟩ := s
  obtain ⟨h1, h2, h3, h4⟩ := h
  change ev = _ at h1
  change sc = _ at h2
  change sd = _ at h3
  change pu = _ at h4
  change le = _ at hl
  subst h1; subst h2; subst h3; subst h4; subst hl
  rfl
theorem idles_calm (s : EpS) (h : s.Rests) (n : Nat) (hl : s.left = 0 ∨ n < s.left) : s.idles n = { s with left := s.left - n, clock := s.clock + n } := by
  induction n with
  | zero => rfl
  | succ n ih =>
    rw [EpS.idles, ih (by omega), rests_step ({ s with left := s.left - n, clock := s.clock + n } : EpS) ⟨h.hv, h.hs, h.hd, h.hp⟩ (by show s.left - n ≠ 1; omega)]
    rfl
theorem idles_lays (s : EpS) (h : s.Rests) (n : Nat) (hl : s.left = n + 1) : s.idles (n + 1) = { s with left := 0, data := laid s.data s.waits, waits := [], clock := s.clock + (n + 1) } := by
  rw [EpS.idles, idles_calm s h n (by omega), rests_lays ({ s with left := s.left - n, clock := s.clock + n } : EpS) ⟨h.hv, h.hs, h.hd, h.hp⟩ (by show s.left - n = 1; omega)]
  rfl
theorem stop_rests (s : EpS) (wp : Bool) (hs : s.scl = true) (hd : s.sda = true) : (s.stop wp).Rests := by
  unfold EpS.stop
  split <;> exact ⟨rfl, hs, hd, rfl⟩
/-- an address was taken, and so many data bytes behind it -/
structure EpS.Armed (s : EpS) (k : Nat) (d : List Int) (p : Nat) (C : List (Nat × Int)) (wa : List (Nat × Int)) : Prop where
  li : s.Listens .store
  nx : s.nx = some .store
  kd : s.kind = k
  da : s.data = d
  po : s.pointer = p
  co : s.coll = C
  wa : s.waits = wa
  le : s.left = 0
theorem zero_or {n m : Nat} (h : n = 0) : n = 0 ∨ m < n := .inl h
theorem put_armed {s : EpS} {k : Nat} {d : List Int} {p : Nat} {C wa : List (Nat × Int)} (h : s.Armed k d p C wa) (y : Int) (h0 : 0 ≤ y) (h1 : y ≤ 255) : (s.runs false (putL y true)).Armed k d (nextIn (geoPage k) p) ((p, y) :: C) wa ∧ s.ack y = 1 := by
  have hn : ((s.eight y).judge y .store).1.nx = some .store := h.nx
  have hle : s.left - 24 = 0 := by rw [h.le]
  obtain ⟨e1, e2⟩ := put_yes s y .store .store h.li h0 h1 (zero_or h.le) rfl hn rfl rfl
  refine ⟨?_, e2⟩
  rw [e1]
  refine ⟨⟨rfl, rfl, rfl, rfl, rfl, rfl⟩, h.nx, h.kd, h.da, ?_, ?_, h.wa, ?_⟩
  · show nextIn (geoPage s.kind) s.pointer = _
    rw [h.kd, h.po]
  · show (s.pointer, y) :: s.coll = _
    rw [h.po, h.co]
  · show s.left - 24 - 3 = 0
    omega
def collL (page : Nat) : Nat → List Int → List (Nat × Int) → List (Nat × Int)
  | _, [], C => C
  | p, y :: l, C => collL page (nextIn page p) l ((p, y) :: C)
def nextL (page : Nat) : Nat → Nat → Nat
  | p, 0 => p
  | p, n + 1 => nextL page (nextIn page p) n
theorem puts_armed {s : EpS} {k : Nat} {d : List Int} {p : Nat} {C wa : List (Nat × Int)} (l : List Int) (h : s.Armed k d p C wa) (hb : Bts l) : (s.puts l).Armed k d (nextL (geoPage k) p l.length) (collL (geoPage k) p l C) wa ∧ s.acks l = l.length := by
  induction l generalizing s p C with
  | nil => rw [puts_nil, acks_nil]; exact ⟨h, rfl⟩
  | cons y l ih =>
    have hy := hb y (List.mem_cons_self ..)
    have h12 : (s.put1 y).Armed k d (nextIn (geoPage k) p) ((p, y) :: C) wa ∧ s.ack y = 1 := put_armed h y hy.1 hy.2
    rw [puts_cons, acks_cons]
    generalize s.put1 y = u at *
    obtain ⟨h3, h4⟩ := ih h12.1 (fun x hx => hb x (List.mem_cons_of_mem _ hx))
    refine ⟨h3, ?_⟩
    rw [h12.2, h4, List.length_cons]
    omega
/-- behind an address -/
theorem lower_armed {s : EpS} {k : Nat} {d : List Int} {wa : List (Nat × Int)} (h : s.Listens .lower) (hk : s.kind = k) (hd : s.data = d) (hw : s.waits = wa) (hl : s.left = 0) (y : Int) (h0 : 0 ≤ y) (h1 : y ≤ 255) :
    (s.runs false (putL y true)).Armed k d ((256 * s.high + y.toNat) % d.length) [] wa ∧ s.ack y = 1 := by
  obtain ⟨e1, e2⟩ := put_yes s y .lower .store h h0 h1 (zero_or hl) rfl rfl rfl rfl
  refine ⟨?_, e2⟩
  rw [e1]
  refine ⟨⟨rfl, rfl, rfl, rfl, rfl, rfl⟩, rfl, hk, hd, ?_, rfl, hw, ?_⟩
  · show (256 * s.high + y.toNat) % s.data.length = _
    rw [hd]
  · show s.left - 24 - 3 = 0
    omega
theorem higher_listens {s : EpS} (h : s.Listens .higher) (hl : s.left = 0) (y : Int) (h0 : 0 ≤ y) (h1 : y ≤ 255) :
    (s.runs false (putL y true)).Listens .lower ∧ (s.runs false (putL y true)).kind = s.kind ∧ (s.runs false (putL y true)).data = s.data ∧ (s.runs false (putL y true)).waits = s.waits ∧ (s.runs false (putL y true)).left = 0 ∧ (s.runs false (putL y true)).high = y.toNat ∧ s.ack y = 1 := by
  obtain ⟨e1, e2⟩ := put_yes s y .higher .lower h h0 h1 (zero_or hl) rfl rfl rfl rfl
  rw [e1]
  exact ⟨⟨rfl, rfl, rfl, rfl, rfl, rfl⟩, rfl, rfl, rfl, by show s.left - 24 - 3 = 0; omega, rfl, e2⟩
theorem dev_160 (bl : Nat) (h : bl ≤ 7) : devBlock ((160 + 2 * bl : Nat) : Int) = bl ∧ (((160 + 2 * bl : Nat) : Int) / 16 == 10) = true ∧ ((160 + 2 * bl : Nat) : Int) % 2 = 0 := by
  unfold devBlock
  refine ⟨by omega, ?_, by omega⟩
  rw [beq_iff_eq]; omega
/-- the device's byte, for writing -/
theorem device_listens {s : EpS} (h : s.Listens .device) (hl : s.left = 0) (bl : Nat) (h7 : bl ≤ 7) (hb : bl < 2 ^ geoBlocks s.kind) :
    (s.runs false (putL ((160 + 2 * bl : Nat) : Int) true)).Listens (if 1 < geoWide s.kind then .higher else .lower) ∧ (s.runs false (putL ((160 + 2 * bl : Nat) : Int) true)).kind = s.kind ∧ (s.runs false (putL ((160 + 2 * bl : Nat) : Int) true)).data = s.data ∧
    (s.runs false (putL ((160 + 2 * bl : Nat) : Int) true)).waits = s.waits ∧ (s.runs false (putL ((160 + 2 * bl : Nat) : Int) true)).left = 0 ∧ (¬ 1 < geoWide s.kind → (s.runs false (putL ((160 + 2 * bl : Nat) : Int) true)).high = bl) ∧ s.ack ((160 + 2 * bl : Nat) : Int) = 1 := by
  obtain ⟨d1, d2, d3⟩ := dev_160 bl h7
  have hy0 : (0 : Int) ≤ ((160 + 2 * bl : Nat) : Int) := by omega
  have hy1 : ((160 + 2 * bl : Nat) : Int) ≤ 255 := by omega
  generalize ((160 + 2 * bl : Nat) : Int) = y at *
  have hok : (s.eight y).devOk y = true := by
    have e : s.left - 24 = 0 := by omega
    show (y / 16 == 10 && decide (devBlock y < 2 ^ geoBlocks s.kind) && s.left - 24 == 0) = true
    rw [d2, d1, e]
    simp [hb]
  by_cases hw : 1 < geoWide s.kind
  · have hj : (s.eight y).judge y .device = ({ s.eight y with block := devBlock y, nx := some .higher }, true) := by
      show EpS.device _ y = _
      unfold EpS.device
      rw [hok, if_neg (by decide), if_neg (by omega), if_pos (show 1 < geoWide (s.eight y).kind from hw)]
    obtain ⟨e1, e2⟩ := put_yes s y .device .higher h hy0 hy1 (zero_or hl) (by rw [hj]) (by rw [hj]) (by rw [hj]; rfl) (by rw [hj]; rfl)
    rw [e1, hj, if_pos hw]
    exact ⟨⟨rfl, rfl, rfl, rfl, rfl, rfl⟩, rfl, rfl, rfl, by show s.left - 24 - 3 = 0; omega, fun h => absurd hw h, e2⟩
  · have hj : (s.eight y).judge y .device = ({ s.eight y with block := devBlock y, high := devBlock y, nx := some .lower }, true) := by
      show EpS.device _ y = _
      unfold EpS.device
      rw [hok, if_neg (by decide), if_neg (by omega), if_neg (show ¬ 1 < geoWide (s.eight y).kind from hw)]
    obtain ⟨e1, e2⟩ := put_yes s y .device .lower h hy0 hy1 (zero_or hl) (by rw [hj]) (by rw [hj]) (by rw [hj]; rfl) (by rw [hj]; rfl)
    rw [e1, hj, if_neg hw]
    exact ⟨⟨rfl, rfl, rfl, rfl, rfl, rfl⟩, rfl, rfl, rfl, by show s.left - 24 - 3 = 0; omega, fun _ => d1, e2⟩
theorem aim_block {k at' : Nat} (h1 : 1 ≤ k) (h2 : k ≤ 10) (hat : at' < geoBytes k) : aimB k at' < 2 ^ geoBlocks k ∧ aimB k at' ≤ 7 ∧ (geoWide k = 2 → aimB k at' = 0) ∧ (geoWide k ≠ 2 → 256 * aimB k at' + at' % 256 = at') := by
  have hgb := geo_bd h1 h2
  unfold aimB
  rcases geo_cases h1 h2 with rfl | rfl | rfl | rfl | rfl | rfl | rfl | rfl | rfl | rfl <;> simp [geoBlocks, geoBytes, geoWide, geoRow] at * <;> omega
/-- an address is aimed at -/
theorem aimed_armed {s : EpS} {k : Nat} (h1 : 1 ≤ k) (h2 : k ≤ 10) (h : s.Calm) (hl : s.left = 0) (hk : s.kind = k) (hd : s.data.length = geoBytes k) (at' : Nat) (hat : at' < geoBytes k) :
    (s.aimed k at').Armed k s.data at' [] s.waits ∧ s.aimAcks k at' = 1 + geoWide k := by
  have hgb := geo_bd h1 h2
  obtain ⟨b1, b2, b3, b4⟩ := aim_block h1 h2 hat
  have e0 := runs_begin s false h (.inl hl)
  unfold EpS.aimed EpS.aimAcks aimL
  rw [e0]
  have put1_eq : ∀ (u : EpS) (y : Int), u.put1 y = u.runs false (putL y true) := fun _ _ => rfl
  have hbl := begun_listens s
  have hbk : s.begun.kind = k := hk
  have hbd : s.begun.data = s.data := rfl
  have hbw : s.begun.waits = s.waits := rfl
  have hbl0 : s.begun.left = 0 := by show s.left - 4 = 0; omega
  generalize s.begun = u at *
  obtain ⟨d1, d2, d3, d4, d5, d6, d7⟩ := device_listens hbl hbl0 (aimB k at') b2 (by rw [hbk]; exact b1)
  by_cases hw : geoWide k = 2
  · rw [if_pos hw]
    rw [hbk, if_pos (by omega)] at d1
    have hq0 : (0 : Int) ≤ ((at' / 256 : Nat) : Int) := by omega
    have hq1 : ((at' / 256 : Nat) : Int) ≤ 255 := by omega
    obtain ⟨f1, f2, f3, f4, f5, f6, f7⟩ := higher_listens d1 d5 _ hq0 hq1
    obtain ⟨g1, g2⟩ := lower_armed f1 (f2.trans (d2.trans hbk)) (f3.trans (d3.trans hbd)) (f4.trans (d4.trans hbw)) f5 ((at' % 256 : Nat) : Int) (by omega) (by omega)
    rw [f6] at g1
    have e : (256 * ((at' / 256 : Nat) : Int).toNat + ((at' % 256 : Nat) : Int).toNat) % s.data.length = at' := by
      rw [Int.toNat_natCast, Int.toNat_natCast, hd, Nat.mod_eq_of_lt (by omega)]
      omega
    rw [e] at g1
    rw [List.cons_append, List.nil_append, puts_cons, puts_cons, puts_cons, puts_nil, acks_cons, acks_cons, acks_cons, acks_nil, put1_eq u, put1_eq]
    generalize u.runs false (putL ((160 + 2 * aimB k at' : Nat) : Int) true) = u1 at *
    rw [put1_eq]
    generalize u1.runs false (putL ((at' / 256 : Nat) : Int) true) = u2 at *
    refine ⟨g1, ?_⟩
    rw [d7, f7, g2, hw]; rfl
  · rw [if_neg hw]
    rw [hbk, if_neg (by omega)] at d1
    obtain ⟨g1, g2⟩ := lower_armed d1 (d2.trans hbk) (d3.trans hbd) (d4.trans hbw) d5 ((at' % 256 : Nat) : Int) (by omega) (by omega)
    rw [d6 (by rw [hbk]; omega)] at g1
    have e : (256 * aimB k at' + ((at' % 256 : Nat) : Int).toNat) % s.data.length = at' := by
      rw [Int.toNat_natCast, hd, b4 hw, Nat.mod_eq_of_lt hat]
    rw [e] at g1
    rw [List.nil_append, puts_cons, puts_cons, puts_nil, acks_cons, acks_cons, acks_nil, put1_eq u, put1_eq]
    generalize u.runs false (putL ((160 + 2 * aimB k at' : Nat) : Int) true) = u1 at *
    refine ⟨g1, ?_⟩
    rw [d7, g2, show geoWide k = 1 by omega]; rfl
end Go.Proofs.YtdpiaibjpaalhaaDoorLib
