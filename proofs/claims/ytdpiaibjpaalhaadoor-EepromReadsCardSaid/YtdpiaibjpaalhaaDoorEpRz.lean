/- PROVED: plain laws of a chip that sends. No conditions beyond those that each theorem states. -/
import Derived.Test.YtdpiaibjpaalhaaDoorEpBz
namespace Go.Proofs.YtdpiaibjpaalhaaDoorLib
set_option linter.unusedSimpArgs false
set_option linter.unusedVariables false

def low7 (v : Int) (i : Nat) : Bool := decide (v / 2 ^ (7 - i) % 2 = 0)
/-- it sends v, so many bits behind -/
structure EpS.Sends (s : EpS) (k : Nat) (d : List Int) (v : Int) (p i : Nat) : Prop where
  ev : s.ev = .tells
  bi : s.bits = i
  va : s.value = v
  sc : s.scl = false
  pu : s.pulls = low7 v i
  le : s.left = 0
  po : s.pointer = p
  da : s.data = d
  kd : s.kind = k
  co : s.coll = []
  wa : s.waits = []
structure EpS.Asks (s : EpS) (k : Nat) (d : List Int) (p : Nat) : Prop where
  ev : s.ev = .asks
  sc : s.scl = false
  pu : s.pulls = false
  le : s.left = 0
  po : s.pointer = p
  da : s.data = d
  kd : s.kind = k
  co : s.coll = []
  wa : s.waits = []
theorem event_idle2 (u : EpS) (e : Int) (l : Bool) (hu : u.ev = .idle) : u.event e l = u := by
  unfold EpS.event
  rw [hu]
theorem event_tells (u : EpS) (e : Int) (l : Bool) (hu : u.ev = .tells) : u.event e l = u.tells e := by
  unfold EpS.event
  rw [hu]
theorem event_asks (u : EpS) (e : Int) (l : Bool) (hu : u.ev = .asks) : u.event e l = u.asks e l := by
  unfold EpS.event
  rw [hu]
/-- two cycles of a clock, while it tells, or asks -/
theorem two_cycles (s : EpS) (x wp : Bool) (hs : s.scl = false) (hl : s.left = 0) :
    s.runs wp ((clockL x).take 2) = ({ s with scl := true, sda := x && !s.pulls, clock := s.clock + 2 } : EpS).event 3 (x && !s.pulls) := by
  obtain ⟨kd, da, sc, sd, pu, ev, jd, nx, bi, va, bl, hi, po, hm, co, wa, le, ck⟩ := s
  change sc = _ at hs
  change le = _ at hl
  subst hs; subst hl
  have e1 : EpS.step ⟨kd, da, false, sd, pu, ev, jd, nx, bi, va, bl, hi, po, hm, co, wa, 0, ck⟩ false x wp = ⟨kd, da, false, x && !pu, pu, ev, jd, nx, bi, va, bl, hi, po, hm, co, wa, 0, ck + 1⟩ := by
    rw [step_calm _ false x wp (by show 0 ≠ 1; decide)]
    show EpS.meets _ (tellW false sd false (x && !pu)) (x && !pu) wp = _
    rw [tell_low _ true, meets0]
    rfl
  have e2 : EpS.step ⟨kd, da, false, x && !pu, pu, ev, jd, nx, bi, va, bl, hi, po, hm, co, wa, 0, ck + 1⟩ true x wp = EpS.event ⟨kd, da, true, x && !pu, pu, ev, jd, nx, bi, va, bl, hi, po, hm, co, wa, 0, ck + 2⟩ 3 (x && !pu) := by
    rw [step_calm _ true x wp (by show 0 ≠ 1; decide)]
    show EpS.meets _ (tellW false (x && !pu) true (x && !pu)) (x && !pu) wp = _
    rw [tell_rise, meets3]
    rfl
  show EpS.step (EpS.step _ false x wp) true x wp = _
  rw [e1, e2]
theorem third_cycle (u : EpS) (x wp : Bool) (hs : u.scl = true) (hl : u.left = 0) : u.step false x wp = ({ u with scl := false, sda := x && !u.pulls, clock := u.clock + 1 } : EpS).event 4 (x && !u.pulls) := by
  obtain ⟨kd, da, sc, sd, pu, ev, jd, nx, bi, va, bl, hi, po, hm, co, wa, le, ck⟩ := u
  change sc = _ at hs
  change le = _ at hl
  subst hs; subst hl
  rw [step_calm _ false x wp (by show 0 ≠ 1; decide)]
  show EpS.meets _ (tellW true sd false (x && !pu)) (x && !pu) wp = _
  rw [tell_fall, meets4]
  rfl
theorem clock_split (s : EpS) (x wp : Bool) : s.runs wp (clockL x) = (s.runs wp ((clockL x).take 2)).step false x wp := rfl
theorem sends_clock {s : EpS} {k : Nat} {d : List Int} {v : Int} {p i : Nat} (h : s.Sends k d v p i) (hi : i < 8) :
    (i + 1 < 8 → (s.runs false (clockL true)).Sends k d v p (i + 1)) ∧ (i + 1 = 8 → (s.runs false (clockL true)).Asks k d p) ∧ (s.runs false ((clockL true).take 2)).line true = !low7 v i := by
  have e2 : s.runs false ((clockL true).take 2) = { s with scl := true, sda := !low7 v i, clock := s.clock + 2 } := by
    rw [two_cycles s true false h.sc h.le, event_tells _ _ _ (show ({ s with scl := true, sda := true && !s.pulls, clock := s.clock + 2 } : EpS).ev = .tells from h.ev), h.pu]
    unfold EpS.tells
    rw [if_neg (by decide), Bool.true_and]
  have e3 : s.runs false (clockL true) = EpS.tells { s with scl := false, sda := !low7 v i, clock := s.clock + 3 } 4 := by
    rw [clock_split, e2, third_cycle ({ s with scl := true, sda := !low7 v i, clock := s.clock + 2 } : EpS) true false rfl h.le]
    show EpS.event { s with scl := false, sda := true && !s.pulls, clock := s.clock + 2 + 1 } 4 (true && !s.pulls) = _
    rw [event_tells _ _ _ (show ({ s with scl := false, sda := true && !s.pulls, clock := s.clock + 2 + 1 } : EpS).ev = .tells from h.ev), h.pu, Bool.true_and]
  refine ⟨fun h8 => ?_, fun h8 => ?_, ?_⟩
  · rw [e3]
    unfold EpS.tells
    rw [if_pos rfl, if_pos (show s.bits + 1 < 8 by rw [h.bi]; exact h8)]
    refine ⟨h.ev, by show s.bits + 1 = i + 1; rw [h.bi], h.va, rfl, ?_, h.le, h.po, h.da, h.kd, h.co, h.wa⟩
    show decide (s.value / 2 ^ (7 - (s.bits + 1)) % 2 = 0) = _
    rw [h.va, h.bi]; rfl
  · rw [e3]
    unfold EpS.tells
    rw [if_pos rfl, if_neg (show ¬ s.bits + 1 < 8 by rw [h.bi]; omega)]
    exact ⟨rfl, rfl, rfl, h.le, h.po, h.da, h.kd, h.co, h.wa⟩
  · rw [e2]
    show (true && !s.pulls) = _
    rw [h.pu, Bool.true_and]
theorem sends_bits {s : EpS} {k : Nat} {d : List Int} {v : Int} {p : Nat} (h : s.Sends k d v p 0) (i : Nat) (hi : i < 8) : (s.runs false (bitsL 255 i)).Sends k d v p i := by
  induction i with
  | zero => exact h
  | succ i ih =>
    have e : bitsL 255 (i + 1) = bitsL 255 i ++ clockL true := by
      have : ((255 : Int) / 2 ^ (7 - i) % 2 == 1) = true := by
        have hc : i = 0 ∨ i = 1 ∨ i = 2 ∨ i = 3 ∨ i = 4 ∨ i = 5 ∨ i = 6 := by omega
        rcases hc with rfl | rfl | rfl | rfl | rfl | rfl | rfl <;> decide
      rw [bitsL, this]
    rw [e, runs_append]
    exact (sends_clock (ih (by omega)) (by omega)).1 hi
theorem bits255 (i : Nat) (hi : i < 8) : bitsL 255 (i + 1) = bitsL 255 i ++ clockL true := by
  have : ((255 : Int) / 2 ^ (7 - i) % 2 == 1) = true := by
    have hc : i = 0 ∨ i = 1 ∨ i = 2 ∨ i = 3 ∨ i = 4 ∨ i = 5 ∨ i = 6 ∨ i = 7 := by omega
    rcases hc with rfl | rfl | rfl | rfl | rfl | rfl | rfl | rfl <;> decide
  rw [bitsL, this]
theorem sends_asks {s : EpS} {k : Nat} {d : List Int} {v : Int} {p : Nat} (h : s.Sends k d v p 0) : (s.runs false (bitsL 255 8)).Asks k d p := by
  rw [bits255 7 (by decide), runs_append]
  exact (sends_clock (sends_bits h 7 (by decide)) (by decide)).2.1 rfl
theorem bits_prefix (i j : Nat) (h : i ≤ j) (hj : j ≤ 8) : (bitsL 255 j).take (i * 3) = bitsL 255 i := by
  induction j with
  | zero =>
    have e : i = 0 := by omega
    subst e; rfl
  | succ j ih =>
    by_cases e : i = j + 1
    · subst e; exact List.take_of_length_le (by rw [bitsL_len]; exact Nat.le_refl _)
    · rw [bits255 j (by omega), List.take_append, ih (by omega) (by omega), bitsL_len, show i * 3 - j * 3 = 0 by omega, List.take_zero, List.append_nil]
theorem put_prefix (x : Bool) (i : Nat) (hi : i < 8) : (putL 255 x).take (i * 3 + 2) = bitsL 255 i ++ (clockL true).take 2 := by
  unfold putL
  rw [List.take_append, show i * 3 + 2 - (bitsL 255 8).length = 0 by rw [bitsL_len]; omega, List.take_zero, List.append_nil]
  have h8 : (bitsL 255 8).take (i * 3 + 2) = ((bitsL 255 8).take ((i + 1) * 3)).take (i * 3 + 2) := by rw [List.take_take, Nat.min_eq_left (by omega)]
  rw [h8, bits_prefix (i + 1) 8 (by omega) (by decide), bits255 i hi, List.take_append, List.take_of_length_le (by rw [bitsL_len]; omega), bitsL_len, show i * 3 + 2 - i * 3 = 2 by omega]
theorem put_at (x : Bool) (j : Nat) (hj : j < 24) : ((putL 255 x)[j]?.getD (true, true)).2 = true := by
  have h : ∀ j : Fin 24, ((bitsL 255 8)[j.val]?.getD (true, true)).2 = true := by decide
  unfold putL
  rw [List.getElem?_append_left (by rw [bitsL_len]; omega)]
  exact h ⟨j, hj⟩
theorem half_bit (v : Int) (i : Nat) (h0 : 0 ≤ v) (h1 : v ≤ 255) (hi : i < 8) : 2 * (v / 2 ^ (8 - i)) + (if (!low7 v i) = true then 1 else 0) = v / 2 ^ (8 - (i + 1)) := by
  unfold low7
  have hc : i = 0 ∨ i = 1 ∨ i = 2 ∨ i = 3 ∨ i = 4 ∨ i = 5 ∨ i = 6 ∨ i = 7 := by omega
  rcases hc with rfl | rfl | rfl | rfl | rfl | rfl | rfl | rfl <;> simp only [Nat.reduceSub, Nat.reduceAdd, Int.reducePow, Nat.sub_zero, Bool.not_eq_true', decide_eq_false_iff_not] <;> split <;> omega
theorem got_bits {s : EpS} {k : Nat} {d : List Int} {v : Int} {p : Nat} (h : s.Sends k d v p 0) (h0 : 0 ≤ v) (h1 : v ≤ 255) (x : Bool) (n : Nat) (hn : n ≤ 8) : s.gotK (putL 255 x) (n * 3) = v / 2 ^ (8 - n) := by
  induction n with
  | zero =>
    show (0 : Int) = v / 256
    omega
  | succ n ih =>
    have e : (n + 1) * 3 = n * 3 + 1 + 1 + 1 := by omega
    rw [e, EpS.gotK, if_neg (by omega), EpS.gotK, if_pos ⟨by omega, by omega⟩, EpS.gotK, if_neg (by omega), ih (by omega), put_at x _ (by omega), show n * 3 + 1 + 1 = n * 3 + 2 by omega, put_prefix x n (by omega), runs_append, (sends_clock (sends_bits h n (by omega)) (by omega)).2.2]
    exact half_bit v n h0 h1 (by omega)
theorem got_sends {s : EpS} {k : Nat} {d : List Int} {v : Int} {p : Nat} (h : s.Sends k d v p 0) (h0 : 0 ≤ v) (h1 : v ≤ 255) (a : Bool) : s.got a = v := by
  unfold EpS.got
  have h24 := got_bits h h0 h1 (!a) 8 (by decide)
  have e : v / 2 ^ (8 - 8) = v := by simp
  rw [e] at h24
  rw [show (27 : Nat) = 24 + 1 + 1 + 1 from rfl, EpS.gotK, if_neg (by omega), EpS.gotK, if_neg (by omega), EpS.gotK, if_neg (by omega)]
  exact h24
/-- a byte that is sent -/
theorem send_sends {u : EpS} {k : Nat} {d : List Int} {p : Nat} (hs : u.scl = false) (hl : u.left = 0) (hp : u.pointer = p) (hd : u.data = d) (hk : u.kind = k) (hc : u.coll = []) (hw : u.waits = []) : u.send.Sends k d (d[p]?.getD 0) ((p + 1) % d.length) 0 := by
  refine ⟨rfl, rfl, ?_, hs, ?_, hl, ?_, hd, hk, hc, hw⟩
  · show u.data[u.pointer]?.getD 0 = _
    rw [hd, hp]
  · show decide ((u.data[u.pointer]?.getD 0) / 2 ^ (7 - 0) % 2 = 0) = _
    rw [hd, hp]; rfl
  · show (u.pointer + 1) % u.data.length = _
    rw [hd, hp]
/-- behind a byte that is acknowledged the next one is sent -/
theorem next_sends {s : EpS} {k : Nat} {d : List Int} {v : Int} {p : Nat} (h : s.Sends k d v p 0) : (s.runs false (putL 255 (!true))).Sends k d (d[p]?.getD 0) ((p + 1) % d.length) 0 := by
  have ha := sends_asks h
  unfold putL
  rw [runs_append]
  generalize s.runs false (bitsL 255 8) = u at ha
  have e2 : u.runs false ((clockL false).take 2) = { u with scl := true, sda := false, clock := u.clock + 2 } := by
    rw [two_cycles u false false ha.sc ha.le, event_asks _ _ _ (show ({ u with scl := true, sda := false && !u.pulls, clock := u.clock + 2 } : EpS).ev = .asks from ha.ev), Bool.false_and]
    unfold EpS.asks
    rw [if_neg (by simp), if_neg (by decide)]
  show (u.runs false (clockL false)).Sends _ _ _ _ _
  rw [clock_split, e2, third_cycle ({ u with scl := true, sda := false, clock := u.clock + 2 } : EpS) false false rfl ha.le]
  show (EpS.event { u with scl := false, sda := false && !u.pulls, clock := u.clock + 2 + 1 } 4 (false && !u.pulls)).Sends _ _ _ _ _
  rw [event_asks _ _ _ (show ({ u with scl := false, sda := false && !u.pulls, clock := u.clock + 2 + 1 } : EpS).ev = .asks from ha.ev)]
  unfold EpS.asks
  rw [if_neg (by intro hh; exact absurd hh.1 (by decide)), if_pos rfl]
  exact send_sends rfl ha.le ha.po ha.da ha.kd ha.co ha.wa
/-- behind one that isn't it is idle -/
structure EpS.Dumb (s : EpS) (k : Nat) (d : List Int) (p : Nat) : Prop where
  ev : s.ev = .idle
  sc : s.scl = false
  pu : s.pulls = false
  le : s.left = 0
  po : s.pointer = p
  da : s.data = d
  kd : s.kind = k
  co : s.coll = []
  wa : s.waits = []
theorem last_dumb {s : EpS} {k : Nat} {d : List Int} {v : Int} {p : Nat} (h : s.Sends k d v p 0) : (s.runs false (putL 255 (!false))).Dumb k d p := by
  have ha := sends_asks h
  unfold putL
  rw [runs_append]
  generalize s.runs false (bitsL 255 8) = u at ha
  have e2 : u.runs false ((clockL true).take 2) = { u with scl := true, sda := true, clock := u.clock + 2, pulls := false, ev := .idle } := by
    rw [two_cycles u true false ha.sc ha.le, event_asks _ _ _ (show ({ u with scl := true, sda := true && !u.pulls, clock := u.clock + 2 } : EpS).ev = .asks from ha.ev), ha.pu]
    unfold EpS.asks
    rw [if_pos (by decide)]
    rfl
  show (u.runs false (clockL true)).Dumb _ _ _
  rw [clock_split, e2, third_cycle ({ u with scl := true, sda := true, clock := u.clock + 2, pulls := false, ev := .idle } : EpS) true false rfl ha.le]
  rw [event_idle2 _ _ _ rfl]
  exact ⟨rfl, rfl, rfl, ha.le, ha.po, ha.da, ha.kd, ha.co, ha.wa⟩
/-- the device's byte, for reading -/
theorem device_sends {s : EpS} {k : Nat} {d : List Int} {p : Nat} (h1 : 1 ≤ k) (h2 : k ≤ 10) (hd : d.length = geoBytes k) (hp : p < geoBytes k) (h : s.Armed k d p [] []) :
    ((s.runs false beginL).put1 (161 + 2 * (aimB k p : Int))).Sends k d (d[p]?.getD 0) ((p + 1) % d.length) 0 ∧ (s.runs false beginL).ack (161 + 2 * (aimB k p : Int)) = 1 := by
  obtain ⟨b1, b2, b3, b4⟩ := aim_block h1 h2 hp
  have e : s.runs false beginL = s.begun := runs_begin s false ⟨h.li.hp, .inr ⟨h.li.hv, h.li.hb, h.li.hs⟩⟩ (.inl h.le)
  rw [e]
  have hl0 : s.begun.left = 0 := by show s.left - 4 = 0; have := h.le; omega
  have y0 : (0 : Int) ≤ 161 + 2 * (aimB k p : Int) := by omega
  have y1 : (161 + 2 * (aimB k p : Int)) ≤ 255 := by omega
  have yb : devBlock (161 + 2 * (aimB k p : Int)) = aimB k p := by unfold devBlock; omega
  have y16 : ((161 + 2 * (aimB k p : Int)) / 16 == 10) = true := by rw [beq_iff_eq]; omega
  have yo : (161 + 2 * (aimB k p : Int)) % 2 = 1 := by omega
  generalize (161 + 2 * (aimB k p : Int)) = y at *
  have hok : (s.begun.eight y).devOk y = true := by
    have e : s.begun.left - 24 = 0 := by omega
    show (y / 16 == 10 && decide (devBlock y < 2 ^ geoBlocks s.kind) && s.begun.left - 24 == 0) = true
    rw [y16, yb, e, h.kd]
    simp [b1]
  have hptr : (if 0 < geoBlocks s.kind then 256 * devBlock y + s.pointer % 256 else s.pointer) = p := by
    rw [h.kd, h.po, yb]
    by_cases hb : 0 < geoBlocks k
    · rw [if_pos hb]
      have hw : geoWide k ≠ 2 := by rcases geo_cases h1 h2 with rfl | rfl | rfl | rfl | rfl | rfl | rfl | rfl | rfl | rfl <;> first | decide | (exact absurd hb (by decide))
      exact b4 hw
    · rw [if_neg hb]
  have hj : (s.begun.eight y).judge y .device = ({ s.begun.eight y with block := devBlock y, pointer := p, nx := some .send }, true) := by
    show EpS.device _ y = _
    unfold EpS.device
    rw [hok, if_neg (by decide), if_pos yo]
    show (({ s.begun.eight y with block := devBlock y, pointer := if 0 < geoBlocks s.kind then 256 * devBlock y + s.pointer % 256 else s.pointer, nx := some .send } : EpS), true) = _
    rw [hptr]
  obtain ⟨e1, e2⟩ := put_yes s.begun y .device .send (begun_listens s) y0 y1 (zero_or hl0) (by rw [hj]) (by rw [hj]) (by rw [hj]; rfl) (by rw [hj]; rfl)
  refine ⟨?_, e2⟩
  unfold EpS.put1
  rw [e1, hj]
  refine send_sends rfl ?_ rfl h.da h.kd rfl h.wa
  show s.begun.left - 24 - 3 = 0
  omega
theorem dumb_end {s : EpS} {k : Nat} {d : List Int} {p : Nat} (h : s.Dumb k d p) : (s.runs false endL).data = d ∧ (s.runs false endL).pointer = p ∧ (s.runs false endL).left = 0 := by
  rw [end_idle s false h.ev h.sc h.pu (.inl h.le), stop_none _ _ (by simp [EpS.stopped, h.co])]
  refine ⟨h.da, h.po, ?_⟩
  show s.left - 3 = 0
  have := h.le; omega
/-- behind j of m bytes that are read from a on -/
def ReadsAt (s : EpS) (k : Nat) (d : List Int) (a m j : Nat) : Prop := (j < m → s.Sends k d (d[(a + j) % d.length]?.getD 0) ((a + j + 1) % d.length) 0) ∧ (j = m → s.Dumb k d ((a + m) % d.length))
theorem reads_next {s : EpS} {k : Nat} {d : List Int} {a m j : Nat} (hb : Bts d) (hd : 0 < d.length) (h : ReadsAt s k d a m j) (hj : j < m) :
    s.got (decide (j + 1 < m)) = d[(a + j) % d.length]?.getD 0 ∧ ReadsAt (s.runs false (putL 255 (!(decide (j + 1 < m))))) k d a m (j + 1) := by
  have hs := h.1 hj
  have hl : (a + j) % d.length < d.length := Nat.mod_lt _ hd
  have hx : d[(a + j) % d.length]? = some d[(a + j) % d.length] := List.getElem?_eq_getElem hl
  have hv := hb.get hx
  refine ⟨?_, ?_⟩
  · refine got_sends hs ?_ ?_ _ <;> rw [hx] <;> simp only [Option.getD_some]
    · exact hv.1
    · exact hv.2
  · by_cases hm : j + 1 < m
    · rw [decide_eq_true hm]
      refine ⟨fun _ => ?_, fun e => by omega⟩
      have := next_sends hs
      rw [Nat.mod_add_mod] at this
      exact this
    · rw [decide_eq_false hm]
      refine ⟨fun e => by omega, fun e => ?_⟩
      have := last_dumb hs
      rw [← e]
      exact this
theorem reads_law {k : Nat} (h1 : 1 ≤ k) (h2 : k ≤ 10) (d : List Int) (hd : d.length = geoBytes k) (a m : Nat) (hm : 1 ≤ m) (hat : a < geoBytes k) (s0 s1 s2 s3 : EpS)
    (e0 : EpS.new k d = s0) (e1 : s0.aimed k a = s1) (e2 : s1.runs false beginL = s2) (e3 : s2.put1 (161 + 2 * (aimB k a : Int)) = s3) :
    s0.aimAcks k a = 1 + geoWide k ∧ s2.ack (161 + 2 * (aimB k a : Int)) = 1 ∧ ReadsAt s3 k d a m 0 := by
  subst e0
  obtain ⟨a1, a2⟩ := ready_aimed h1 h2 (new_ready k d) hd a hat
  rw [e1] at a1
  obtain ⟨b1, b2⟩ := device_sends h1 h2 hd hat a1
  rw [e2] at b1 b2
  rw [e3] at b1
  refine ⟨a2, b2, fun _ => ?_, fun e => by omega⟩
  rw [Nat.add_zero, Nat.mod_eq_of_lt (by omega)]
  exact b1
end Go.Proofs.YtdpiaibjpaalhaaDoorLib
