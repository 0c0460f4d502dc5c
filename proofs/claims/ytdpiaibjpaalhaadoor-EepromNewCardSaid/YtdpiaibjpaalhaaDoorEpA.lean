/- PROVED: how a chip on two wires lies in memory. No conditions beyond those that each theorem states. -/
import Derived.Test.YtdpiaibjpaalhaaDoorEpW
import Derived.Test.YtdpiaibjpaalhaaDoorCom
namespace Go.Proofs.YtdpiaibjpaalhaaDoor
open Go.RowKit Go.Proofs.YtdpiaibjpaalhaaDoorLib Go.WideElems Go.Maps
set_option linter.unusedSimpArgs false
set_option linter.unusedVariables false

def evV (b : Nat) : Ev → Value
  | .idle => .func (.func 40) #[pt b] #[]
  | .hears => .func (.func 70) #[pt b] #[]
  | .thanks => .func (.func 83) #[pt b] #[]
  | .tells => .func (.func 84) #[pt b] #[]
  | .asks => .func (.func 100) #[pt b] #[]
def jdV (b : Nat) : Option Jd → Value
  | none => .nilFunc
  | some .device => .func (.func 58) #[pt b] #[]
  | some .higher => .func (.func 75) #[pt b] #[]
  | some .lower => .func (.func 77) #[pt b] #[]
  | some .store => .func (.func 88) #[pt b] #[]
/-- a variable that holds the chip -/
def Box (w : World) (F : List Nat) (b x : Nat) : Prop := Blk w x 27 [pt b] ∧ x ∈ F
def NxOf (w : World) (F : List Nat) (b : Nat) (v : Value) : Option Nx → Prop
  | none => v = .nilFunc
  | some .send => v = .func (.func 72) #[pt b] #[]
  | some .higher => ∃ x, v = .func (.func 74) #[] #[pt x] ∧ Box w F b x
  | some .lower => ∃ x, (v = .func (.func 76) #[] #[pt x] ∨ v = .func (.func 86) #[] #[pt x]) ∧ Box w F b x
  | some .store => ∃ x, v = .func (.func 87) #[] #[pt x] ∧ Box w F b x
noncomputable abbrev elem8 : Value → Option (DataW Value × List MemPlace) := plainElem Tryd.prog 5
/-- a map that reads as these places and bytes, the last one first -/
structure MapsTo (D : DataW Value) (L : List (Nat × Int)) : Prop where
  has : ∀ i : Nat, Maps.has D (.int .i64 i) = (L.lookup i).isSome
  at' : ∀ (i : Nat) (v : Int), L.lookup i = some v → ∀ z, D.atKey (.int .i64 i) z = .lit (.int .u8 v)
  key : ∀ kl, Maps.has D kl = true → ∃ i : Nat, kl = .int .i64 i
def MapV (w : World) (F : List Nat) (v : Value) (L : List (Nat × Int)) : Prop :=
  (v = .map none ∧ L = []) ∨ ∃ m n D, v = .map (some m) ∧ w.ownsMap Tryd.prog 3 elem8 m n D ∧ n ≤ L.length ∧ MapsTo D L ∧ m ∈ F
def EpS.cells (s : EpS) (b bw : Nat) (vd vn vc vw : Value) : List Value :=
  [.int .i64 s.kind, vd, pt bw, .bool s.pulls, evV b s.ev, jdV b s.jd, vn, .int .i64 s.bits, .int .u8 s.value, .int .i64 s.block, .int .i64 s.high, .int .i64 s.pointer, vc, vw, .int .i64 s.left]
structure ChipX (w : World) (b : Nat) (F : List Nat) (s : EpS) (bw : Nat) (vd vn vc vw : Value) : Prop where
  ok : s.Ok
  blk : Blk w b 71 (EpS.cells s b bw vd vn vc vw)
  dat : Row8 w vd s.data
  wir : Blk w bw 74 [.bool s.scl, .bool s.sda]
  nxt : NxOf w F b vn s.nx
  col : MapV w F vc s.coll
  cm : s.hasMap = true → vc ≠ .map none
  wai : MapV w F vw s.waits
  ne : ∀ m, vc = .map (some m) → vw ≠ .map (some m)
  fb : b ∈ F
  fd : ∀ g, vd.ownBlock = some g → g ∈ F
  fw : bw ∈ F
  lt : ∀ g, g ∈ F → g < w.heap.size
  lo : ∀ g, g ∈ F → nGlobals ≤ g
/-- the chip s lies at block b, in the blocks F -/
def ChipAt (w : World) (b : Nat) (F : List Nat) (s : EpS) : Prop := ∃ bw vd vn vc vw, ChipX w b F s bw vd vn vc vw
/-- blocks of F, or new ones -/
def Grows (w : World) (F F' : List Nat) : Prop := ∀ g, g ∈ F' → g ∈ F ∨ w.heap.size ≤ g
theorem Grows.refl (w : World) (F : List Nat) : Grows w F F := fun _ h => .inl h
theorem Grows.trans {w w1 : World} {F F1 F2 : List Nat} (h : Grows w F F1) (k : Grows w1 F1 F2) (hs : w.heap.size ≤ w1.heap.size) : Grows w F F2 := fun g hg => by
  rcases k g hg with h1 | h1
  · exact h g h1
  · exact .inr (Nat.le_trans hs h1)
theorem Grows.cons {w : World} {F : List Nat} {g : Nat} (h : w.heap.size ≤ g) : Grows w F (g :: F) := fun x hx => by
  rcases List.mem_cons.1 hx with rfl | hx
  · exact .inr h
  · exact .inl hx
/-- the call leaves the chip as s -/
def Leaves (w : World) (b : Nat) (F : List Nat) (s : EpS) (W : World) : Prop := ∃ F', Grows w F F' ∧ ChipAt W b F' s
theorem ChipAt.leaves {w W : World} {b : Nat} {F : List Nat} {s : EpS} (h : ChipAt W b F s) : Leaves w b F s W := ⟨F, Grows.refl _ _, h⟩
theorem Leaves.trans {w w1 w2 : World} {b : Nat} {F F1 : List Nat} {s : EpS} (h : Grows w F F1) (k : Leaves w1 b F1 s w2) (hs : w.heap.size ≤ w1.heap.size) : Leaves w b F s w2 :=
  let ⟨F', g, c⟩ := k; ⟨F', h.trans g hs, c⟩
theorem Kept.grows {w w1 w2 : World} {F F1 : List Nat} (h : Kept w w1 F) (g : Grows w F F1) (k : Kept w1 w2 F1) : Kept w w2 F := h.trans k g

theorem MapV.kept {w w1 : World} {F : List Nat} {v : Value} {L : List (Nat × Int)} {S : List Nat} (h : MapV w F v L) (hk : Kept w w1 S) (hS : ∀ g, g ∈ S → v ≠ .map (some g)) {F' : List Nat} (hF : ∀ g, g ∈ F → g ∈ F') : MapV w1 F' v L := by
  rcases h with h | ⟨m, n, D, rfl, h1, h2, h3, h4⟩
  · exact .inl h
  · exact .inr ⟨m, n, D, rfl, map_kept h1 hk (fun hm => hS m hm rfl), h2, h3, hF m h4⟩
theorem Box.kept {w w1 : World} {F F' S : List Nat} {b x : Nat} (h : Box w F b x) (hk : Kept w w1 S) (hS : x ∉ S) (hF : ∀ g, g ∈ F → g ∈ F') : Box w1 F' b x := ⟨h.1.kept hk hS, hF x h.2⟩
theorem NxOf.kept {w w1 : World} {F F' S : List Nat} {b : Nat} {v : Value} {n : Option Nx} (h : NxOf w F b v n) (hk : Kept w w1 S) (hS : ∀ x, Box w F b x → x ∉ S) (hF : ∀ g, g ∈ F → g ∈ F') : NxOf w1 F' b v n := by
  match n, h with
  | none, h => exact h
  | some .send, h => exact h
  | some .higher, ⟨x, e, hx⟩ => exact ⟨x, e, hx.kept hk (hS x hx) hF⟩
  | some .lower, ⟨x, e, hx⟩ => exact ⟨x, e, hx.kept hk (hS x hx) hF⟩
  | some .store, ⟨x, e, hx⟩ => exact ⟨x, e, hx.kept hk (hS x hx) hF⟩
theorem MapV.ne_blk {w : World} {F : List Nat} {v : Value} {L : List (Nat × Int)} (h : MapV w F v L) {b T : Nat} {M : List Value} (hb : Blk w b T M) : v ≠ .map (some b) := by
  rcases h with ⟨rfl, _⟩ | ⟨m, n, D, rfl, h1, _⟩
  · intro e; cases e
  · intro e
    cases e
    exact Blk.ne_map hb h1 rfl
theorem ChipX.kept {w w1 : World} {b : Nat} {F : List Nat} {s : EpS} {bw : Nat} {vd vn vc vw : Value} {S : List Nat} (h : ChipX w b F s bw vd vn vc vw) (hk : Kept w w1 S) (hS : ∀ k, k ∈ S → k ∉ F) : ChipX w1 b F s bw vd vn vc vw := by
  have hm : ∀ {v : Value} {L : List (Nat × Int)}, MapV w F v L → ∀ g, g ∈ S → v ≠ .map (some g) := fun {v L} h g hg e => by
    rcases h with ⟨h, _⟩ | ⟨m, n, D, h, _, _, _, h4⟩
    · rw [h] at e; cases e
    · rw [h] at e; cases e; exact hS _ hg h4
  exact ⟨h.ok, h.blk.kept hk (fun hm => hS b hm h.fb), h.dat.kept hk (fun g hg hm => hS g hm (h.fd g hg)), h.wir.kept hk (fun hm => hS bw hm h.fw), h.nxt.kept hk (fun x hx hm => hS x hm hx.2) (fun _ h => h),
    h.col.kept hk (hm h.col) (fun _ h => h), h.cm, h.wai.kept hk (hm h.wai) (fun _ h => h), h.ne, h.fb, h.fd, h.fw, fun g hg => Nat.lt_of_lt_of_le (h.lt g hg) hk.size, h.lo⟩
theorem ChipAt.kept {w w1 : World} {b : Nat} {F : List Nat} {s : EpS} {S : List Nat} (h : ChipAt w b F s) (hk : Kept w w1 S) (hS : ∀ k, k ∈ S → k ∉ F) : ChipAt w1 b F s := by
  obtain ⟨bw, vd, vn, vc, vw, h⟩ := h
  exact ⟨bw, vd, vn, vc, vw, h.kept hk hS⟩
theorem ChipAt.ok {w : World} {b : Nat} {F : List Nat} {s : EpS} (h : ChipAt w b F s) : s.Ok := let ⟨_, _, _, _, _, h⟩ := h; h.ok
theorem ChipAt.lt {w : World} {b : Nat} {F : List Nat} {s : EpS} (h : ChipAt w b F s) : ∀ g, g ∈ F → g < w.heap.size := let ⟨_, _, _, _, _, h⟩ := h; h.lt
theorem ChipAt.lo {w : World} {b : Nat} {F : List Nat} {s : EpS} (h : ChipAt w b F s) : ∀ g, g ∈ F → nGlobals ≤ g := let ⟨_, _, _, _, _, h⟩ := h; h.lo
theorem ChipAt.fb {w : World} {b : Nat} {F : List Nat} {s : EpS} (h : ChipAt w b F s) : b ∈ F := let ⟨_, _, _, _, _, h⟩ := h; h.fb
theorem Box.ne {w : World} {F : List Nat} {b x : Nat} (h : Box w F b x) {T : Nat} {M : List Value} {g : Nat} (hb : Blk w g T M) (hT : 27 ≠ T) : x ≠ g := Blk.ne h.1 hb hT
/-- only cells of the chip's own block have turned -/
theorem ChipX.turn {w w1 : World} {b : Nat} {F F' : List Nat} {s s' : EpS} {bw : Nat} {vd vn vn' vc vw : Value} (h : ChipX w b F s bw vd vn vc vw) (hk : Kept w w1 [b]) (hok : s'.Ok) (hb : Blk w1 b 71 (EpS.cells s' b bw vd vn' vc vw))
    (e1 : s'.data = s.data) (e2 : s'.scl = s.scl) (e3 : s'.sda = s.sda) (e4 : s'.coll = s.coll) (e5 : s'.waits = s.waits) (e6 : s.clock ≤ s'.clock) (e7 : s'.hasMap = s.hasMap) (hn : NxOf w1 F' b vn' s'.nx) (hF : ∀ g, g ∈ F → g ∈ F') (hlt : ∀ g, g ∈ F' → g < w1.heap.size) (hlo : ∀ g, g ∈ F' → nGlobals ≤ g) :
    ChipX w1 b F' s' bw vd vn' vc vw := by
  have hd := Own.ne_cells h.dat h.blk (by decide)
  have hw := Blk.ne h.wir h.blk (by decide)
  refine ⟨hok, hb, ?_, ?_, hn, ?_, ?_, ?_, h.ne, hF b h.fb, fun g hg => hF g (h.fd g hg), hF bw h.fw, hlt, hlo⟩
  · rw [e1]; exact h.dat.kept hk (fun g hg hm => by simp at hm; subst hm; exact hd hg)
  · rw [e2, e3]; exact h.wir.kept hk (by simpa using hw)
  · rw [e4]; exact h.col.kept hk (fun g hg => by simp at hg; subst hg; exact h.col.ne_blk h.blk) hF
  · rw [e7]; exact h.cm
  · rw [e5]; exact h.wai.kept hk (fun g hg => by simp at hg; subst hg; exact h.wai.ne_blk h.blk) hF
theorem ChipX.nkept {w w1 : World} {b : Nat} {F : List Nat} {s : EpS} {bw : Nat} {vd vn vc vw : Value} (h : ChipX w b F s bw vd vn vc vw) (hk : Kept w w1 [b]) : NxOf w1 F b vn s.nx :=
  h.nxt.kept hk (fun x hx => by simpa using hx.ne h.blk (by decide)) (fun _ h => h)
theorem ChipX.turn0 {w w1 : World} {b : Nat} {F : List Nat} {s s' : EpS} {bw : Nat} {vd vn vc vw : Value} (h : ChipX w b F s bw vd vn vc vw) (hk : Kept w w1 [b]) (hok : s'.Ok) (hb : Blk w1 b 71 (EpS.cells s' b bw vd vn vc vw))
    (e1 : s'.data = s.data) (e2 : s'.scl = s.scl) (e3 : s'.sda = s.sda) (e4 : s'.coll = s.coll) (e5 : s'.waits = s.waits) (e6 : s.clock ≤ s'.clock) (e7 : s'.hasMap = s.hasMap) (e8 : s'.nx = s.nx) : ChipX w1 b F s' bw vd vn vc vw :=
  h.turn hk hok hb e1 e2 e3 e4 e5 e6 e7 (e8 ▸ h.nkept hk) (fun _ h => h) (fun g hg => Nat.lt_of_lt_of_le (h.lt g hg) hk.size) h.lo
end Go.Proofs.YtdpiaibjpaalhaaDoor
