/- PROVED: plain lemmas on runs of a chip. No conditions beyond those that each theorem states. -/
import Derived.Test.YtdpiaibjpaalhaaDoorEpP
namespace Go.Proofs.YtdpiaibjpaalhaaDoorLib
set_option linter.unusedSimpArgs false
set_option linter.unusedVariables false

def EpS.runs (s : EpS) (wp : Bool) : List (Bool × Bool) → EpS
  | [] => s
  | p :: L => (s.step p.1 p.2 wp).runs wp L
theorem runs_append (s : EpS) (wp : Bool) (L M : List (Bool × Bool)) : s.runs wp (L ++ M) = (s.runs wp L).runs wp M := by
  induction L generalizing s with
  | nil => rfl
  | cons p L ih => exact ih _
theorem runs_take (s : EpS) (wp : Bool) (L : List (Bool × Bool)) (k : Nat) (p : Bool × Bool) (h : L[k]? = some p) : s.runs wp (L.take (k + 1)) = (s.runs wp (L.take k)).step p.1 p.2 wp := by
  rw [List.take_add_one, h, runs_append]; rfl
theorem tick_kind (s : EpS) : s.tick.kind = s.kind := by
  unfold EpS.tick
  split
  · rfl
  · split <;> rfl
theorem device_clock (s : EpS) (y : Int) : (s.device y).1.clock = s.clock ∧ (s.device y).1.kind = s.kind := by
  unfold EpS.device
  split
  · exact ⟨rfl, rfl⟩
  · split
    · exact ⟨rfl, rfl⟩
    · split <;> exact ⟨rfl, rfl⟩
theorem judge_clock (s : EpS) (y : Int) (j : Jd) : (s.judge y j).1.clock = s.clock ∧ (s.judge y j).1.kind = s.kind := by
  cases j
  · exact device_clock s y
  · exact ⟨rfl, rfl⟩
  · exact ⟨rfl, rfl⟩
  · exact ⟨rfl, rfl⟩
theorem heard_clock (s : EpS) : s.heard.clock = s.clock ∧ s.heard.kind = s.kind := by
  unfold EpS.heard
  cases s.jd with
  | none => exact ⟨rfl, rfl⟩
  | some j =>
    simp only
    split
    · exact judge_clock s s.value j
    · exact judge_clock s s.value j
theorem next_clock (s : EpS) (n : Nx) : (s.next n).clock = s.clock ∧ (s.next n).kind = s.kind := by cases n <;> exact ⟨rfl, rfl⟩
theorem event_clock (s : EpS) (e : Int) (l : Bool) : (s.event e l).clock = s.clock ∧ (s.event e l).kind = s.kind := by
  unfold EpS.event
  cases s.ev with
  | idle => exact ⟨rfl, rfl⟩
  | hears =>
    simp only [EpS.hears]
    split
    · exact ⟨rfl, rfl⟩
    · split
      · exact heard_clock s
      · exact ⟨rfl, rfl⟩
  | thanks =>
    simp only [EpS.thanks]
    split
    · cases s.nx with
      | none => exact ⟨rfl, rfl⟩
      | some n => exact next_clock s n
    · exact ⟨rfl, rfl⟩
  | tells =>
    simp only [EpS.tells]
    split
    · split <;> exact ⟨rfl, rfl⟩
    · exact ⟨rfl, rfl⟩
  | asks =>
    simp only [EpS.asks]
    split
    · exact ⟨rfl, rfl⟩
    · split <;> exact ⟨rfl, rfl⟩
theorem step_clock (s : EpS) (c d wp : Bool) : (s.step c d wp).clock = s.clock + 1 ∧ (s.step c d wp).kind = s.kind := by
  have e : (s.tick.wired c (s.tick.line d)).clock = s.clock + 1 := by show s.tick.clock + 1 = _; rw [tick_clock]
  have e2 : (s.tick.wired c (s.tick.line d)).kind = s.kind := tick_kind s
  unfold EpS.step EpS.meets
  split
  · exact ⟨e, e2⟩
  · split
    · unfold EpS.stop
      split <;> exact ⟨e, e2⟩
    · have := event_clock (s.tick.wired c (s.tick.line d)) (tellW s.tick.scl s.tick.sda c (s.tick.line d)) (s.tick.line d)
      exact ⟨this.1.trans e, this.2.trans e2⟩
theorem runs_clock (s : EpS) (wp : Bool) (L : List (Bool × Bool)) : (s.runs wp L).clock = s.clock + L.length ∧ (s.runs wp L).kind = s.kind := by
  induction L generalizing s with
  | nil => exact ⟨rfl, rfl⟩
  | cons p L ih =>
    have h := ih (s.step p.1 p.2 wp)
    have k := step_clock s p.1 p.2 wp
    refine ⟨?_, h.2.trans k.2⟩
    show ((s.step p.1 p.2 wp).runs wp L).clock = s.clock + (L.length + 1)
    rw [h.1, k.1]; omega
/-- waiting, with both lines high -/
def EpS.idles (s : EpS) : Nat → EpS
  | 0 => s
  | n + 1 => (s.idles n).step true true false
theorem idles_clock (s : EpS) (n : Nat) : (s.idles n).clock = s.clock + n := by
  induction n with
  | zero => rfl
  | succ n ih => show ((s.idles n).step true true false).clock = _; rw [(step_clock _ _ _ _).1, ih]; omega
def fillL (b : List Int) (n : Nat) : List Int := (List.range n).map fun i => b[i % b.length]?.getD 0
theorem fillL_len (b : List Int) (n : Nat) : (fillL b n).length = n := by simp [fillL]
theorem fillL_bts {b : List Int} (h : Bts b) (n : Nat) : Bts (fillL b n) := by
  intro x hx
  obtain ⟨i, _, rfl⟩ := List.mem_map.1 hx
  cases hb : b[i % b.length]? with
  | none => simp
  | some y => exact h.get hb
def clockL (b : Bool) : List (Bool × Bool) := [(false, b), (true, b), (false, b)]
def beginL : List (Bool × Bool) := [(false, true), (true, true), (true, false), (false, false)]
def endL : List (Bool × Bool) := [(false, false), (true, false), (true, true)]
/-- the clocks of a byte's first n bits, from the highest one on -/
def bitsL (b : Int) : Nat → List (Bool × Bool)
  | 0 => []
  | n + 1 => bitsL b n ++ clockL (b / 2 ^ (7 - n) % 2 == 1)
def putL (b : Int) (ack : Bool) : List (Bool × Bool) := bitsL b 8 ++ clockL ack
theorem bitsL_len (b : Int) (n : Nat) : (bitsL b n).length = n * 3 := by
  induction n with
  | zero => rfl
  | succ n ih => simp [bitsL, clockL, ih]; omega
/-- what a byte comes to: was it acknowledged? -/
def EpS.ack (s : EpS) (y : Int) : Int := if (s.runs false ((putL y true).take 26)).line true = true then 0 else 1
theorem putL_len (y : Int) (a : Bool) : (putL y a).length = 27 := by simp [putL, bitsL_len, clockL]
theorem putL_25 (y : Int) (a : Bool) : (putL y a)[25]? = some (true, a) := by
  unfold putL
  rw [List.getElem?_append_right (by rw [bitsL_len]; decide), bitsL_len]; rfl
/-- what is read of so many levels -/
def EpS.gotK (s : EpS) (L : List (Bool × Bool)) : Nat → Int
  | 0 => 0
  | k + 1 => if k % 3 = 1 ∧ k < 24 then 2 * s.gotK L k + (if (s.runs false (L.take (k + 1))).line (L[k]?.getD (true, true)).2 = true then 1 else 0) else s.gotK L k
def EpS.got (s : EpS) (a : Bool) : Int := s.gotK (putL 255 (!a)) 27
theorem gotK_bd (s : EpS) (L : List (Bool × Bool)) (k : Nat) (h : k ≤ 27) : 0 ≤ s.gotK L k ∧ s.gotK L k < 2 ^ k := by
  induction k with
  | zero => exact ⟨Int.le_refl _, by show (0 : Int) < 2 ^ 0; decide⟩
  | succ k ih =>
    obtain ⟨h1, h2⟩ := ih (by omega)
    have e : (2 : Int) ^ (k + 1) = 2 ^ k * 2 := Int.pow_succ _ _
    rw [EpS.gotK, e]
    split
    · split <;> omega
    · omega
theorem gotK_le (s : EpS) (L : List (Bool × Bool)) (k : Nat) (h : k ≤ 27) : 0 ≤ s.gotK L k ∧ s.gotK L k ≤ 134217728 := by
  obtain ⟨h1, h2⟩ := gotK_bd s L k h
  have h3 : (2 : Int) ^ k ≤ 2 ^ 27 := by
    have h4 : ∀ k : Fin 28, (2 : Int) ^ k.val ≤ 2 ^ 27 := by decide
    exact h4 ⟨k, by omega⟩
  have h5 : (2 : Int) ^ 27 = 134217728 := by decide
  omega
/-- bytes to the chip, and how many were acknowledged -/
def EpS.put1 (s : EpS) (y : Int) : EpS := s.runs false (putL y true)
def putsG (f : EpS → Int → EpS) : EpS → List Int → EpS
  | s, [] => s
  | s, y :: l => putsG f (f s y) l
def acksG (f : EpS → Int → EpS) (g : EpS → Int → Int) : EpS → List Int → Int
  | _, [] => 0
  | s, y :: l => g s y + acksG f g (f s y) l
def EpS.puts (s : EpS) (l : List Int) : EpS := putsG EpS.put1 s l
def EpS.acks (s : EpS) (l : List Int) : Int := acksG EpS.put1 EpS.ack s l
theorem puts_nil (s : EpS) : s.puts [] = s := by simp only [EpS.puts, putsG]
theorem acks_nil (s : EpS) : s.acks [] = 0 := by simp only [EpS.acks, acksG]
theorem puts_cons (s : EpS) (y : Int) (l : List Int) : s.puts (y :: l) = (s.put1 y).puts l := by simp only [EpS.puts, putsG]
theorem acks_cons (s : EpS) (y : Int) (l : List Int) : s.acks (y :: l) = s.ack y + (s.put1 y).acks l := by simp only [EpS.acks, acksG]
theorem put1_clock (s : EpS) (y : Int) : (s.put1 y).clock = s.clock + 27 := by
  unfold EpS.put1
  rw [(runs_clock s false _).1, putL_len]
theorem ack_01 (s : EpS) (y : Int) : 0 ≤ s.ack y ∧ s.ack y ≤ 1 := by unfold EpS.ack; split <;> omega
def aimB (k : Nat) (at' : Nat) : Nat := if 0 < geoBlocks k then at' / 256 else 0
def aimL (k : Nat) (at' : Nat) : List Int := ((160 + 2 * aimB k at' : Nat) : Int) :: ((if geoWide k = 2 then [((at' / 256 : Nat) : Int)] else []) ++ [((at' % 256 : Nat) : Int)])
def EpS.aimed (s : EpS) (k : Nat) (at' : Nat) : EpS := (s.runs false beginL).puts (aimL k at')
def EpS.aimAcks (s : EpS) (k : Nat) (at' : Nat) : Int := (s.runs false beginL).acks (aimL k at')
theorem puts_clock (s : EpS) (l : List Int) : (s.puts l).clock = s.clock + 27 * l.length := by
  induction l generalizing s with
  | nil => rw [puts_nil]; rfl
  | cons y l ih =>
    rw [puts_cons, ih, put1_clock, List.length_cons]
    omega
end Go.Proofs.YtdpiaibjpaalhaaDoorLib
