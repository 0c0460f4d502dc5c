/- PROVED: a slot's operations on a disk that lies apart from what is held. No conditions beyond those that each theorem states. -/
import Derived.Test.YtlglbgemmljmlaaDoorSlQ
namespace Go.Proofs.YtlglbgemmljmlaaDoor
open Go.RowKit Go.Proofs.YtlglbgemmljmlaaDoorLib
set_option linter.unusedSimpArgs false
set_option linter.unusedVariables false

def KeptA (A : Nat → Prop) (W W' : World) : Prop := ∃ S, (∀ x, x ∈ S → A x) ∧ Kept W W' S
theorem KeptA.refl (A : Nat → Prop) (W : World) : KeptA A W W := ⟨[], by simp, Kept.refl _ _⟩
theorem KeptA.of {A : Nat → Prop} {W W' : World} {S : List Nat} (h : Kept W W' S) (hS : ∀ x, x ∈ S → A x) : KeptA A W W' := ⟨S, hS, h⟩
theorem KeptA.of0 {A : Nat → Prop} {W W' : World} (h : Kept W W' []) : KeptA A W W' := ⟨[], by simp, h⟩
theorem KeptA.trans {A : Nat → Prop} {w W X : World} (h : KeptA A w W) (k : KeptA A W X) : KeptA A w X := by
  obtain ⟨S, h1, h2⟩ := h
  obtain ⟨T, k1, k2⟩ := k
  exact ⟨S ++ T, fun g hg => by rcases List.mem_append.1 hg with h | h; exact h1 g h; exact k1 g h, (h2.mono (fun b hb => .inl (by simp [hb]))).trans k2 (fun b hb => .inl (by simp [hb]))⟩
theorem KeptA.size {A : Nat → Prop} {W W' : World} (h : KeptA A W W') : W.heap.size ≤ W'.heap.size := let ⟨_, _, h⟩ := h; h.size
theorem KeptA.cell {A : Nat → Prop} {W W' : World} (h : KeptA A W W') {p o : Nat} {v : Value} (hc : W.cell? ⟨p, o, none⟩ = some v) (hp : ¬ A p) : W'.cell? ⟨p, o, none⟩ = some v :=
  let ⟨_, h1, h2⟩ := h; h2.cell hc (fun hm => hp (h1 p hm))
theorem KeptA.sl {A : Nat → Prop} {W W' : World} (h : KeptA A W W') {v : Value} {q o : Nat} {l : List Int} (hs : Sl .u8 W v q o l) (hp : l = [] ∨ ¬ A q) : Sl .u8 W' v q o l :=
  let ⟨_, h1, h2⟩ := h; hs.kept h2 (hp.imp id (fun hp hm => hp (h1 q hm)))
theorem KeptA.blk {A : Nat → Prop} {W W' : World} (h : KeptA A W W') {p T : Nat} {L : List Value} (hb : Blk W p T L) (hp : ¬ A p) : Blk W' p T L :=
  let ⟨_, h1, h2⟩ := h; hb.kept h2 (fun hm => hp (h1 p hm))
theorem KeptA.geo {A : Nat → Prop} {W W' : World} (h : KeptA A W W') (hg : GeoLaid W) (hA : ∀ x, A x → nGlobals ≤ x) : GeoLaid W' :=
  let ⟨_, h1, h2⟩ := h; hg.kept h2 (fun x hx => hA x (h1 x hx))
theorem KeptA.kept {A : Nat → Prop} {w W W' : World} (h : KeptA A W W') (k : Kept w W []) (hA : ∀ x, A x → w.heap.size ≤ x) : Kept w W' [] :=
  let ⟨_, h1, h2⟩ := h; k.trans h2 (fun x hx => .inr (hA x (h1 x hx)))
theorem KeptA.mono {A B : Nat → Prop} {W W' : World} (h : KeptA A W W') (hAB : ∀ x, A x → B x) : KeptA B W W' := let ⟨S, h1, h2⟩ := h; ⟨S, fun x hx => hAB x (h1 x hx), h2⟩
/-- the disk s lies at b, in blocks of A; so do all new ones -/
structure St (A : Nat → Prop) (W : World) (b : Nat) (s : DiskS) : Prop where
  ex : ∃ F, DiskAt W b F s ∧ ∀ x, x ∈ F → A x
  up : ∀ x, W.heap.size ≤ x → A x
theorem St.kept0 {A : Nat → Prop} {W W' : World} {b : Nat} {s : DiskS} (h : St A W b s) (k : Kept W W' []) : St A W' b s := by
  obtain ⟨⟨F, h1, h2⟩, h3⟩ := h
  exact ⟨⟨F, h1.kept k (by simp), h2⟩, fun x hx => h3 x (Nat.le_trans k.size hx)⟩
theorem St.ok {A : Nat → Prop} {W : World} {b : Nat} {s : DiskS} (h : St A W b s) : s.Ok := let ⟨⟨_, h1, _⟩, _⟩ := h; h1.ok
theorem St.on {A : Nat → Prop} {W W' : World} {b : Nat} {s : DiskS} {F : List Nat} (hA : ∀ x, x ∈ F → A x) (up : ∀ x, W.heap.size ≤ x → A x) (k : Kept W W' F) (h : DiskOn W' W.heap.size b F s) : St A W' b s ∧ KeptA A W W' := by
  obtain ⟨F', h1, h2⟩ := h
  refine ⟨⟨⟨F', h2, fun x hx => ?_⟩, fun x hx => up x (Nat.le_trans k.size hx)⟩, F, hA, k⟩
  rcases h1 x hx with h | h
  · exact hA x h
  · exact up x h
/-- one block more is held -/
theorem St.hold {A : Nat → Prop} {W : World} {b : Nat} {s : DiskS} (h : St A W b s) {q : Nat} (hq : ∀ F, DiskAt W b F s → (∀ x, x ∈ F → A x) → ∃ F', DiskAt W b F' s ∧ (∀ x, x ∈ F' → A x) ∧ q ∉ F') (hlt : q < W.heap.size) : St (fun x => A x ∧ x ≠ q) W b s := by
  obtain ⟨⟨F, h1, h2⟩, h3⟩ := h
  obtain ⟨F', g1, g2, g3⟩ := hq F h1 h2
  exact ⟨⟨F', g1, fun x hx => ⟨g2 x hx, fun e => g3 (e ▸ hx)⟩⟩, fun x hx => ⟨h3 x hx, by omega⟩⟩
def dataM (s : DiskS) (which e f g : Int) (l : List Int) : DiskS × Int :=
  if atWhy s which e f g ≠ 0 then (s, atWhy s which e f g) else if l.length ≠ gTotal e f g then (s, 1) else writesM s (slotAt s which e f g + 1) (imgL l s.size)
def sealM (s : DiskS) (which e f g seq : Int) (l : List Int) : DiskS × Int :=
  if atWhy s which e f g ≠ 0 then (s, atWhy s which e f g) else if l.length ≠ gTotal e f g then (s, 1) else s.write (slotAt s which e f g : Int) (padL (encL e f g l.length seq (sumM l)) s.size)
def wipeM (s : DiskS) (which e f g : Int) : DiskS × Int :=
  if atWhy s which e f g ≠ 0 then (s, atWhy s which e f g) else s.write (slotAt s which e f g : Int) (padL [] s.size)
/-- what a step leaves -/
def After (A : Nat → Prop) (W : World) (b : Nat) (R : DiskS × Int) (e : Ending) (V : World) : Prop := e = .returned (.int .i64 R.2) ∧ St A V b R.1 ∧ KeptA A W V
theorem data_st {A : Nat → Prop} {W : World} {b : Nat} {s : DiskS} (h : St A W b s) (hg : GeoLaid W) (ho : s.ops < 700000000) (which e f g : Int) (v : Value) (bq off : Nat) (l : List Int) (hs : Sl .u8 W v bq off l) (hB : Bts l) :
    Calls Tryd.prog 23 #[pt b, .int .i64 which, .agg #[.int .i64 e, .int .i64 f, .int .i64 g], v] W (After A W b (dataM s which e f g l)) := by
  obtain ⟨⟨F, h1, h2⟩, h3⟩ := h
  unfold dataM
  by_cases hw : atWhy s which e f g = 0
  · rw [if_neg (by simp [hw])]
    by_cases hl : l.length = gTotal e f g
    · rw [if_neg (by simp [hl])]
      refine (data_yes W hg b F s h1 (by omega) which e f g v bq off l hs hB hw hl).mono ?_
      rintro _ V ⟨_, rfl, ⟨rfl, hd⟩, k⟩
      exact ⟨rfl, St.on h2 h3 k hd⟩
    · rw [if_pos hl]
      refine (data_arg W hg b F s h1 which e f g v bq off l hs hw hl).mono ?_
      rintro _ V ⟨_, rfl, rfl, k⟩
      exact ⟨rfl, St.kept0 ⟨⟨F, h1, h2⟩, h3⟩ k, KeptA.of0 k⟩
  · rw [if_pos hw]
    refine (data_no W hg b F s h1 which e f g v hw).mono ?_
    rintro _ V ⟨_, rfl, rfl, k⟩
    exact ⟨rfl, St.kept0 ⟨⟨F, h1, h2⟩, h3⟩ k, KeptA.of0 k⟩
theorem seal_st {A : Nat → Prop} {W : World} {b : Nat} {s : DiskS} (h : St A W b s) (hg : GeoLaid W) (ho : s.ops < 700000000) (which e f g seq : Int) (q0 : 0 ≤ seq) (q1 : seq ≤ 18446744073709551615) (v : Value) (bq off : Nat) (l : List Int) (hs : Sl .u8 W v bq off l) (hB : Bts l) :
    Calls Tryd.prog 24 #[pt b, .int .i64 which, .agg #[.int .i64 e, .int .i64 f, .int .i64 g], .int .u64 seq, v] W (After A W b (sealM s which e f g seq l)) := by
  obtain ⟨⟨F, h1, h2⟩, h3⟩ := h
  unfold sealM
  by_cases hw : atWhy s which e f g = 0
  · rw [if_neg (by simp [hw])]
    by_cases hl : l.length = gTotal e f g
    · rw [if_neg (by simp [hl])]
      refine (seal_yes W hg b F s h1 (by omega) which e f g seq q0 q1 v bq off l hs hB hw hl).mono ?_
      rintro _ V ⟨_, rfl, ⟨rfl, hd⟩, k⟩
      exact ⟨rfl, St.on h2 h3 k hd⟩
    · rw [if_pos hl]
      refine (seal_arg W hg b F s h1 which e f g seq v bq off l hs hw hl).mono ?_
      rintro _ V ⟨_, rfl, rfl, k⟩
      exact ⟨rfl, St.kept0 ⟨⟨F, h1, h2⟩, h3⟩ k, KeptA.of0 k⟩
  · rw [if_pos hw]
    refine (seal_no W hg b F s h1 which e f g seq v hw).mono ?_
    rintro _ V ⟨_, rfl, rfl, k⟩
    exact ⟨rfl, St.kept0 ⟨⟨F, h1, h2⟩, h3⟩ k, KeptA.of0 k⟩
theorem wipe_st {A : Nat → Prop} {W : World} {b : Nat} {s : DiskS} (h : St A W b s) (hg : GeoLaid W) (hA : ∀ x, A x → nGlobals ≤ x) (ho : s.ops < 700000000) (which e f g : Int) :
    Calls Tryd.prog 27 #[pt b, .int .i64 which, .agg #[.int .i64 e, .int .i64 f, .int .i64 g]] W (After A W b (wipeM s which e f g)) := by
  obtain ⟨⟨F, h1, h2⟩, h3⟩ := h
  unfold wipeM
  by_cases hw : atWhy s which e f g = 0
  · rw [if_neg (by simp [hw])]
    refine (wipe_yes W hg b F s h1 (fun x hx => hA x (h2 x hx)) (by omega) which e f g hw).mono ?_
    rintro _ V ⟨_, rfl, ⟨rfl, hd⟩, k⟩
    exact ⟨rfl, St.on h2 h3 k hd⟩
  · rw [if_pos hw]
    refine (wipe_no W hg b F s h1 which e f g hw).mono ?_
    rintro _ V ⟨_, rfl, rfl, k⟩
    exact ⟨rfl, St.kept0 ⟨⟨F, h1, h2⟩, h3⟩ k, KeptA.of0 k⟩
/-- what Read leaves: its image is held from now on -/
def AfterR (A : Nat → Prop) (W : World) (b : Nat) (R : DiskS × SlotR × Int) (e : Ending) (V : World) : Prop :=
  ∃ Ai ci q, e = .returned (.tuple #[.agg #[.int .i64 R.2.1.st, .int .i64 R.2.1.why, .int .u64 R.2.1.seq, .slice Ai R.2.1.img.length ci], .int .i64 R.2.2]) ∧ Sl .u8 V (.slice Ai R.2.1.img.length ci) q 0 R.2.1.img ∧ (R.2.1.img = [] ∨ (W.heap.size ≤ q ∧ q < V.heap.size)) ∧ St (fun x => A x ∧ (x ≠ q ∨ R.2.1.img = [])) V b R.1 ∧ KeptA A W V
theorem St.more {A B : Nat → Prop} {W : World} {b : Nat} {s : DiskS} (h : St A W b s) (hAB : ∀ x, A x → B x) : St B W b s := by
  obtain ⟨⟨F, h1, h2⟩, h3⟩ := h
  exact ⟨⟨F, h1, fun x hx => hAB x (h2 x hx)⟩, fun x hx => hAB x (h3 x hx)⟩
theorem read_st {A : Nat → Prop} {W : World} {b : Nat} {s : DiskS} (h : St A W b s) (hg : GeoLaid W) (hA : ∀ x, A x → nGlobals ≤ x) (ho : s.ops < 700000000) (which e f g : Int) (hsm : spanN s.size e f g ≤ 201) :
    Calls Tryd.prog 15 #[pt b, .int .i64 which, .agg #[.int .i64 e, .int .i64 f, .int .i64 g]] W (AfterR A W b (readM s which e f g)) := by
  obtain ⟨⟨F, h1, h2⟩, h3⟩ := h
  have hb := h1.fb
  have key : Calls Tryd.prog 15 #[pt b, .int .i64 which, .agg #[.int .i64 e, .int .i64 f, .int .i64 g]] W (Post W [b] (ReadP W b F (readM s which e f g))) := by
    by_cases hw : atWhy s which e f g = 0
    · exact read_yes W hg b F s h1 (fun x hx => hA x (h2 x hx)) (by omega) which e f g hw hsm
    · exact read_no W hg b F s h1 which e f g hw
  refine key.mono ?_
  rintro _ V ⟨_, rfl, ⟨v, q, rfl, hs, hq, hd⟩, k⟩
  obtain ⟨Ai, ci, rfl⟩ := hs.form
  have hlt := h1.lt
  refine ⟨Ai, ci, q, rfl, hs, ?_, ⟨⟨F, hd, fun x hx => ⟨h2 x hx, ?_⟩⟩, fun x hx => ⟨h3 x (Nat.le_trans k.size hx), ?_⟩⟩, KeptA.of k (fun x hx => by simp at hx; subst hx; exact h2 _ hb)⟩
  · by_cases e0 : (readM s which e f g).2.1.img = []
    · exact .inl e0
    · rcases hq with h | h
      · exact absurd h e0
      · exact .inr ⟨h, hs.lt e0⟩
  · rcases hq with h | h
    · exact .inr h
    · have := hlt x hx; exact .inl (by omega)
  · by_cases e0 : (readM s which e f g).2.1.img = []
    · exact .inr e0
    · have := hs.lt e0
      exact .inl (by omega)
end Go.Proofs.YtlglbgemmljmlaaDoor
