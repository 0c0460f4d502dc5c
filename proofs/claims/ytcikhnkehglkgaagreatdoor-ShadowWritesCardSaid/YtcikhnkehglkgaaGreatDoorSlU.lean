/- PROVED: a slot's operations on a disk that lies apart from what is held; plain law: what was laid and sealed is read, cached or synced; wiped it is none. No conditions beyond those that each theorem states. -/
import Derived.Test.YtcikhnkehglkgaaGreatDoorSlQ
namespace Go.Proofs.YtcikhnkehglkgaaGreatDoor
open Go.RowKit Go.Proofs.YtcikhnkehglkgaaGreatDoorLib
set_option linter.unusedSimpArgs false
set_option linter.unusedVariables false

def KeptA (A : Nat → Prop) (W W' : World) : Prop := ∃ S, (∀ x, x ∈ S → A x) ∧ Kept W W' S
theorem KeptA.refl (A : Nat → Prop) (W : World) : KeptA A W W := ⟨[], by simp, Kept.refl _ _⟩
theorem KeptA.of {A : Nat → Prop} {W W' : World} {S : List Nat} (h : Kept W W' S) (hS : ∀ x, x ∈ S → A x) : KeptA A W W' := ⟨S, hS, h⟩
theorem KeptA.of0 {A : Nat → Prop} {W W' : World} (h : Kept W W' []) : KeptA A W W' := ⟨[], by simp, h⟩
theorem KeptA.trans {A : Nat → Prop} {w W X : World} (h : KeptA A w W) (k : KeptA A W X) : KeptA A w X := by
  obtain ⟨S, h1, h2⟩ := h
  obtain ⟨T, k1, k2⟩ := k
  exact ⟨S ++ T, fun g hg => by rcases List.mem_append.1 hg with h | h; exact h1 g h; exact k1 g h, (h2.mono (fun b hb => .inl (by simp [hb]))).trans k2 (fun b hb => .inl (by simp [hb]))⟩
theorem KeptA.size {A : Nat → Prop} {W W' : World} (h : KeptA A W W') : W.heap.size ≤ W'.heap.size := let ⟨_, _, h⟩ := h; h.size
theorem KeptA.cell {A : Nat → Prop} {W W' : World} (h : KeptA A W W') {p o : Nat} {v : Value} (hc : W.cell? ⟨p, o, none⟩ = some v) (hp : ¬ A p) : W'.cell? ⟨p, o, none⟩ = some v :=
  let ⟨_, h1, h2⟩ := h; h2.cell hc (fun hm => hp (h1 p hm))
theorem KeptA.sl {A : Nat → Prop} {W W' : World} (h : KeptA A W W') {v : Value} {q o : Nat} {l : List Int} (hs : Sl .u8 W v q o l) (hp : l = [] ∨ ¬ A q) : Sl .u8 W' v q o l :=
  let ⟨_, h1, h2⟩ := h; hs.kept h2 (hp.imp id (fun hp hm => hp (h1 q hm)))
theorem KeptA.blk {A : Nat → Prop} {W W' : World} (h : KeptA A W W') {p T : Nat} {L : List Value} (hb : Blk W p T L) (hp : ¬ A p) : Blk W' p T L :=
  let ⟨_, h1, h2⟩ := h; hb.kept h2 (fun hm => hp (h1 p hm))
theorem KeptA.geo {A : Nat → Prop} {W W' : World} (h : KeptA A W W') (hg : GeoLaid W) (hA : ∀ x, A x → nGlobals ≤ x) : GeoLaid W' :=
  let ⟨_, h1, h2⟩ := h; hg.kept h2 (fun x hx => hA x (h1 x hx))
theorem KeptA.kept {A : Nat → Prop} {w W W' : World} (h : KeptA A W W') (k : Kept w W []) (hA : ∀ x, A x → w.heap.size ≤ x) : Kept w W' [] :=
  let ⟨_, h1, h2⟩ := h; k.trans h2 (fun x hx => .inr (hA x (h1 x hx)))
theorem KeptA.mono {A B : Nat → Prop} {W W' : World} (h : KeptA A W W') (hAB : ∀ x, A x → B x) : KeptA B W W' := let ⟨S, h1, h2⟩ := h; ⟨S, fun x hx => hAB x (h1 x hx), h2⟩
/-- the disk s lies at b, in blocks of A; so do all new ones -/
structure St (A : Nat → Prop) (W : World) (b : Nat) (s : DiskS) : Prop where
  ex : ∃ F, DiskAt W b F s ∧ ∀ x, x ∈ F → A x
  up : ∀ x, W.heap.size ≤ x → A x
theorem St.kept0 {A : Nat → Prop} {W W' : World} {b : Nat} {s : DiskS} (h : St A W b s) (k : Kept W W' []) : St A W' b s := by
  obtain ⟨⟨F, h1, h2⟩, h3⟩ := h
  exact ⟨⟨F, h1.kept k (by simp), h2⟩, fun x hx => h3 x (Nat.le_trans k.size hx)⟩
theorem St.ok {A : Nat → Prop} {W : World} {b : Nat} {s : DiskS} (h : St A W b s) : s.Ok := let ⟨⟨_, h1, _⟩, _⟩ := h; h1.ok
theorem St.on {A : Nat → Prop} {W W' : World} {b : Nat} {s : DiskS} {F : List Nat} (hA : ∀ x, x ∈ F → A x) (up : ∀ x, W.heap.size ≤ x → A x) (k : Kept W W' F) (h : DiskOn W' W.heap.size b F s) : St A W' b s ∧ KeptA A W W' := by
  obtain ⟨F', h1, h2⟩ := h
  refine ⟨⟨⟨F', h2, fun x hx => ?_⟩, fun x hx => up x (Nat.le_trans k.size hx)⟩, F, hA, k⟩
  rcases h1 x hx with h | h
  · exact hA x h
  · exact up x h
/-- one block more is held -/
theorem St.hold {A : Nat → Prop} {W : World} {b : Nat} {s : DiskS} (h : St A W b s) {q : Nat} (hq : ∀ F, DiskAt W b F s → (∀ x, x ∈ F → A x) → ∃ F', DiskAt W b F' s ∧ (∀ x, x ∈ F' → A x) ∧ q ∉ F') (hlt : q < W.heap.size) : St (fun x => A x ∧ x ≠ q) W b s := by
  obtain ⟨⟨F, h1, h2⟩, h3⟩ := h
  obtain ⟨F', g1, g2, g3⟩ := hq F h1 h2
  exact ⟨⟨F', g1, fun x hx => ⟨g2 x hx, fun e => g3 (e ▸ hx)⟩⟩, fun x hx => ⟨h3 x hx, by omega⟩⟩
def dataM (s : DiskS) (which e f g : Int) (l : List Int) : DiskS × Int :=
  if atWhy s which e f g ≠ 0 then (s, atWhy s which e f g) else if l.length ≠ gTotal e f g then (s, 1) else writesM s (slotAt s which e f g + 1) (imgL l s.size)
def sealM (s : DiskS) (which e f g seq : Int) (l : List Int) : DiskS × Int :=
  if atWhy s which e f g ≠ 0 then (s, atWhy s which e f g) else if l.length ≠ gTotal e f g then (s, 1) else s.write (slotAt s which e f g : Int) (padL (encL e f g l.length seq (sumM l)) s.size)
def wipeM (s : DiskS) (which e f g : Int) : DiskS × Int :=
  if atWhy s which e f g ≠ 0 then (s, atWhy s which e f g) else s.write (slotAt s which e f g : Int) (padL [] s.size)
/-- what a step leaves -/
def After (A : Nat → Prop) (W : World) (b : Nat) (R : DiskS × Int) (e : Ending) (V : World) : Prop := e = .returned (.int .i64 R.2) ∧ St A V b R.1 ∧ KeptA A W V
theorem data_st {A : Nat → Prop} {W : World} {b : Nat} {s : DiskS} (h : St A W b s) (hg : GeoLaid W) (ho : s.ops < 700000000) (which e f g : Int) (v : Value) (bq off : Nat) (l : List Int) (hs : Sl .u8 W v bq off l) (hB : Bts l) :
    Calls Tryz.prog 80 #[pt b, .int .i64 which, .agg #[.int .i64 e, .int .i64 f, .int .i64 g], v] W (After A W b (dataM s which e f g l)) := by
  obtain ⟨⟨F, h1, h2⟩, h3⟩ := h
  unfold dataM
  by_cases hw : atWhy s which e f g = 0
  · rw [if_neg (by simp [hw])]
    by_cases hl : l.length = gTotal e f g
    · rw [if_neg (by simp [hl])]
      refine (data_yes W hg b F s h1 (by omega) which e f g v bq off l hs hB hw hl).mono ?_
      rintro _ V ⟨_, rfl, ⟨rfl, hd⟩, k⟩
      exact ⟨rfl, St.on h2 h3 k hd⟩
    · rw [if_pos hl]
      refine (data_arg W hg b F s h1 which e f g v bq off l hs hw hl).mono ?_
      rintro _ V ⟨_, rfl, rfl, k⟩
      exact ⟨rfl, St.kept0 ⟨⟨F, h1, h2⟩, h3⟩ k, KeptA.of0 k⟩
  · rw [if_pos hw]
    refine (data_no W hg b F s h1 which e f g v hw).mono ?_
    rintro _ V ⟨_, rfl, rfl, k⟩
    exact ⟨rfl, St.kept0 ⟨⟨F, h1, h2⟩, h3⟩ k, KeptA.of0 k⟩
theorem seal_st {A : Nat → Prop} {W : World} {b : Nat} {s : DiskS} (h : St A W b s) (hg : GeoLaid W) (ho : s.ops < 700000000) (which e f g seq : Int) (q0 : 0 ≤ seq) (q1 : seq ≤ 18446744073709551615) (v : Value) (bq off : Nat) (l : List Int) (hs : Sl .u8 W v bq off l) (hB : Bts l) :
    Calls Tryz.prog 81 #[pt b, .int .i64 which, .agg #[.int .i64 e, .int .i64 f, .int .i64 g], .int .u64 seq, v] W (After A W b (sealM s which e f g seq l)) := by
  obtain ⟨⟨F, h1, h2⟩, h3⟩ := h
  unfold sealM
  by_cases hw : atWhy s which e f g = 0
  · rw [if_neg (by simp [hw])]
    by_cases hl : l.length = gTotal e f g
    · rw [if_neg (by simp [hl])]
      refine (seal_yes W hg b F s h1 (by omega) which e f g seq q0 q1 v bq off l hs hB hw hl).mono ?_
      rintro _ V ⟨_, rfl, ⟨rfl, hd⟩, k⟩
      exact ⟨rfl, St.on h2 h3 k hd⟩
    · rw [if_pos hl]
      refine (seal_arg W hg b F s h1 which e f g seq v bq off l hs hw hl).mono ?_
      rintro _ V ⟨_, rfl, rfl, k⟩
      exact ⟨rfl, St.kept0 ⟨⟨F, h1, h2⟩, h3⟩ k, KeptA.of0 k⟩
  · rw [if_pos hw]
    refine (seal_no W hg b F s h1 which e f g seq v hw).mono ?_
    rintro _ V ⟨_, rfl, rfl, k⟩
    exact ⟨rfl, St.kept0 ⟨⟨F, h1, h2⟩, h3⟩ k, KeptA.of0 k⟩
theorem wipe_st {A : Nat → Prop} {W : World} {b : Nat} {s : DiskS} (h : St A W b s) (hg : GeoLaid W) (hA : ∀ x, A x → nGlobals ≤ x) (ho : s.ops < 700000000) (which e f g : Int) :
    Calls Tryz.prog 48 #[pt b, .int .i64 which, .agg #[.int .i64 e, .int .i64 f, .int .i64 g]] W (After A W b (wipeM s which e f g)) := by
  obtain ⟨⟨F, h1, h2⟩, h3⟩ := h
  unfold wipeM
  by_cases hw : atWhy s which e f g = 0
  · rw [if_neg (by simp [hw])]
    refine (wipe_yes W hg b F s h1 (fun x hx => hA x (h2 x hx)) (by omega) which e f g hw).mono ?_
    rintro _ V ⟨_, rfl, ⟨rfl, hd⟩, k⟩
    exact ⟨rfl, St.on h2 h3 k hd⟩
  · rw [if_pos hw]
    refine (wipe_no W hg b F s h1 which e f g hw).mono ?_
    rintro _ V ⟨_, rfl, rfl, k⟩
    exact ⟨rfl, St.kept0 ⟨⟨F, h1, h2⟩, h3⟩ k, KeptA.of0 k⟩
/-- what Read leaves: its image is held from now on -/
def AfterR (A : Nat → Prop) (W : World) (b : Nat) (R : DiskS × SlotR × Int) (e : Ending) (V : World) : Prop :=
  ∃ Ai ci q, e = .returned (.tuple #[.agg #[.int .i64 R.2.1.st, .int .i64 R.2.1.why, .int .u64 R.2.1.seq, .slice Ai R.2.1.img.length ci], .int .i64 R.2.2]) ∧ Sl .u8 V (.slice Ai R.2.1.img.length ci) q 0 R.2.1.img ∧ (R.2.1.img = [] ∨ (W.heap.size ≤ q ∧ q < V.heap.size)) ∧ St (fun x => A x ∧ (x ≠ q ∨ R.2.1.img = [])) V b R.1 ∧ KeptA A W V
theorem St.more {A B : Nat → Prop} {W : World} {b : Nat} {s : DiskS} (h : St A W b s) (hAB : ∀ x, A x → B x) : St B W b s := by
  obtain ⟨⟨F, h1, h2⟩, h3⟩ := h
  exact ⟨⟨F, h1, fun x hx => hAB x (h2 x hx)⟩, fun x hx => hAB x (h3 x hx)⟩
theorem read_st {A : Nat → Prop} {W : World} {b : Nat} {s : DiskS} (h : St A W b s) (hg : GeoLaid W) (hA : ∀ x, A x → nGlobals ≤ x) (ho : s.ops < 700000000) (which e f g : Int) (hsm : spanN s.size e f g ≤ 201) :
    Calls Tryz.prog 54 #[pt b, .int .i64 which, .agg #[.int .i64 e, .int .i64 f, .int .i64 g]] W (AfterR A W b (readM s which e f g)) := by
  obtain ⟨⟨F, h1, h2⟩, h3⟩ := h
  have hb := h1.fb
  have key : Calls Tryz.prog 54 #[pt b, .int .i64 which, .agg #[.int .i64 e, .int .i64 f, .int .i64 g]] W (Post W [b] (ReadP W b F (readM s which e f g))) := by
    by_cases hw : atWhy s which e f g = 0
    · exact read_yes W hg b F s h1 (fun x hx => hA x (h2 x hx)) (by omega) which e f g hw hsm
    · exact read_no W hg b F s h1 which e f g hw
  refine key.mono ?_
  rintro _ V ⟨_, rfl, ⟨v, q, rfl, hs, hq, hd⟩, k⟩
  obtain ⟨Ai, ci, rfl⟩ := hs.form
  have hlt := h1.lt
  refine ⟨Ai, ci, q, rfl, hs, ?_, ⟨⟨F, hd, fun x hx => ⟨h2 x hx, ?_⟩⟩, fun x hx => ⟨h3 x (Nat.le_trans k.size hx), ?_⟩⟩, KeptA.of k (fun x hx => by simp at hx; subst hx; exact h2 _ hb)⟩
  · by_cases e0 : (readM s which e f g).2.1.img = []
    · exact .inl e0
    · rcases hq with h | h
      · exact absurd h e0
      · exact .inr ⟨h, hs.lt e0⟩
  · rcases hq with h | h
    · exact .inr h
    · have := hlt x hx; exact .inl (by omega)
  · by_cases e0 : (readM s which e f g).2.1.img = []
    · exact .inr e0
    · have := hs.lt e0
      exact .inl (by omega)
end Go.Proofs.YtcikhnkehglkgaaGreatDoor
namespace Go.Proofs.YtcikhnkehglkgaaGreatDoor
open Go.RowKit Go.Proofs.YtcikhnkehglkgaaGreatDoorLib
set_option linter.unusedSimpArgs false
set_option linter.unusedVariables false

/-- a disk of the same form, n operations on -/
structure Kin (s t : DiskS) (n : Nat) : Prop where
  size : t.size = s.size
  len : t.last.length = s.last.length
  cach : t.cach.length = s.cach.length
  plan : t.plan = s.plan
  ops : t.ops = s.ops + n
theorem Wrote.kin {s t : DiskS} {n : Nat} (h : Wrote s t n) : Kin s t n := ⟨h.size, by rw [h.last], h.cach, h.plan, h.ops⟩
theorem Kin.refl (s : DiskS) : Kin s s 0 := ⟨rfl, rfl, rfl, rfl, rfl⟩
theorem Kin.trans {s t u : DiskS} {n m : Nat} (h : Kin s t n) (k : Kin t u m) : Kin s u (n + m) :=
  ⟨k.size.trans h.size, k.len.trans h.len, k.cach.trans h.cach, k.plan.trans h.plan, by rw [k.ops, h.ops]; omega⟩
theorem Kin.nofail {s t : DiskS} {n : Nat} (h : Kin s t n) (k : s.NoFail) : t.NoFail := fun m hm => by rw [h.plan]; exact k m (by have := h.ops; omega)
theorem Kin.ticks (s : DiskS) (n : Nat) : Kin s (s.ticks n) n := ⟨rfl, rfl, rfl, rfl, rfl⟩
theorem Kin.tick (s : DiskS) : Kin s s.tick 1 := ⟨rfl, rfl, rfl, rfl, rfl⟩
theorem Kin.cl {s t : DiskS} {n : Nat} (h : Kin s t n) (hc : s.cach.length = s.last.length) : t.cach.length = t.last.length := by rw [h.cach, h.len, hc]
theorem atWhy_kin {s t : DiskS} {n : Nat} (h : Kin s t n) (which e f g : Int) : atWhy t which e f g = atWhy s which e f g := by
  unfold atWhy; rw [h.size, h.len]
theorem slotAt_kin {s t : DiskS} {n : Nat} (h : Kin s t n) (which e f g : Int) : slotAt t which e f g = slotAt s which e f g := by
  unfold slotAt; rw [h.size]
theorem sync_kin {s : DiskS} (hf : s.fails = false) : s.sync.2 = 0 ∧ Kin s s.sync.1 1 := by
  unfold DiskS.sync
  rw [if_neg (by simp [hf])]
  exact ⟨rfl, rfl, length_partLast s.tick.last s.tick.cach (fun _ => newT) s.tick.last.length, length_partCach s.tick.cach s.tick.last.length, rfl, rfl⟩
theorem get_swept (s : DiskS) (hc : s.cach.length = s.last.length) (t : Nat → Int × List Int) (i : Nat) : (s.swept t).get i = match s.cach[i]?.join with
    | some y => left (s.last[i]?.getD []) y (t (idx s.cach i))
    | none => s.last[i]?.getD [] := by
  show (match (partCach s.cach s.last.length)[i]?.join with | some b => b | none => (partLast s.last s.cach t s.last.length)[i]?.getD []) = _
  rw [partCach_get, partLast_get]
  by_cases hi : i < s.last.length
  · rw [List.getElem?_eq_getElem (show i < s.cach.length by omega), List.getElem?_eq_getElem hi]
    simp only [Option.map_some, Option.join, if_pos hi, Option.bind_some, id]
    simp only [Option.getD_some]
    generalize s.cach[i] = o
    cases o <;> rfl
  · rw [List.getElem?_eq_none (show s.cach.length ≤ i by omega), List.getElem?_eq_none (show s.last.length ≤ i by omega)]
    rfl
theorem get_sync {s : DiskS} (hf : s.fails = false) (hc : s.cach.length = s.last.length) (i : Nat) : s.sync.1.get i = s.get i := by
  unfold DiskS.sync
  rw [if_neg (by simp [hf])]
  refine (get_swept s.tick hc (fun _ => newT) i).trans ?_
  show (match s.cach[i]?.join with | some y => left (s.last[i]?.getD []) y newT | none => s.last[i]?.getD []) = s.get i
  unfold DiskS.get
  cases s.cach[i]?.join with
  | none => rfl
  | some y => exact left_new _ _
theorem get_new (k n i : Nat) (hi : i < k) : (DiskS.new k n).get i = List.replicate n 0 := by
  unfold DiskS.get DiskS.new
  simp only [List.getElem?_replicate]
  rw [if_pos hi, if_pos hi]
  rfl
theorem get_ticks (s : DiskS) (n i : Nat) : (s.ticks n).get i = s.get i := rfl
theorem get_tick (s : DiskS) (i : Nat) : s.tick.get i = s.get i := rfl
theorem padL_nil (n : Nat) : padL [] n = List.replicate n 0 := by simp [padL]
/-- where the slot is sealed with an image -/
structure Sealed (s : DiskS) (which e f g seq : Int) (l : List Int) : Prop where
  head : s.get (slotAt s which e f g) = padL (encL e f g l.length seq (sumM l)) s.size
  body : ∀ i, i < secs l.length s.size → s.get (slotAt s which e f g + 1 + i) = (imgL l s.size)[i]?.getD []
theorem Sealed.read {s : DiskS} {which e f g seq : Int} {l : List Int} (h : Sealed s which e f g seq l) (hn : s.NoFail) (hs2 : s.size ≤ 4096) (hw : atWhy s which e f g = 0) (hl : l.length = gTotal e f g) (q0 : 0 ≤ seq) (q1 : seq ≤ 18446744073709551615) :
    readM s which e f g = (s.ticks (spanN s.size e f g), ⟨2, 0, seq, l⟩, 0) := read_good hn hs2 hw hl q0 q1 h.head h.body
theorem Sealed.kin {s t : DiskS} {n : Nat} {which e f g seq : Int} {l : List Int} (h : Sealed s which e f g seq l) (k : Kin s t n) (hg : ∀ i, slotAt s which e f g ≤ i → i < slotAt s which e f g + 1 + secs l.length s.size → t.get i = s.get i) : Sealed t which e f g seq l := by
  refine ⟨?_, fun i hi => ?_⟩
  · rw [slotAt_kin k, k.size, hg _ (Nat.le_refl _) (by omega)]; exact h.head
  · rw [k.size] at hi ⊢
    rw [slotAt_kin k, hg _ (by omega) (by omega)]
    exact h.body i hi
/-- behind Data and Seal -/
theorem seal_law {s : DiskS} (hn : s.NoFail) (hc : s.cach.length = s.last.length) (hs2 : s.size ≤ 4096) {which e f g : Int} (hw : atWhy s which e f g = 0) {l : List Int} (hl : l.length = gTotal e f g) (hB : Bts l) (seq : Int) :
    (dataM s which e f g l).2 = 0 ∧ Kin s (dataM s which e f g l).1 (secs l.length s.size) ∧ (∀ j, (j ≤ slotAt s which e f g ∨ slotAt s which e f g + spanN s.size e f g ≤ j) → (dataM s which e f g l).1.get j = s.get j) ∧
    ∀ t n, Kin (dataM s which e f g l).1 t n → (∀ j, t.get j = (dataM s which e f g l).1.get j) → (sealM t which e f g seq l).2 = 0 ∧ Kin t (sealM t which e f g seq l).1 1 ∧ Sealed (sealM t which e f g seq l).1 which e f g seq l ∧ ∀ j, j ≠ slotAt s which e f g → (sealM t which e f g seq l).1.get j = t.get j := by
  have h := laid_law hn hc hs2 hw hl hB
  have hd : dataM s which e f g l = writesM s (slotAt s which e f g + 1) (imgL l s.size) := by unfold dataM; rw [if_neg (by simp [hw]), if_neg (by simp [hl])]
  have hsp := slot_span hs2 hw
  have hft := slot_fits hw
  have h32 := (atWhy_yes hw).2.2.1
  rw [hd]
  refine ⟨h.1, h.2.1.kin, fun j hj => by rw [h.2.2 j, if_neg (by omega)], fun t n hk ht => ?_⟩
  have hkt := h.2.1.kin.trans hk
  have hwt : atWhy t which e f g = 0 := by rw [atWhy_kin hkt, hw]
  have hat := slotAt_kin hkt which e f g
  have hsz := hkt.size
  have hse : sealM t which e f g seq l = t.write (slotAt t which e f g : Int) (padL (encL e f g l.length seq (sumM l)) t.size) := by unfold sealM; rw [if_neg (by simp [hwt]), if_neg (by simp [hl])]
  have hp := put_law (hkt.nofail hn) (hkt.cl hc) (i := slotAt t which e f g) (by rw [hat, hkt.len]; omega) (l := padL (encL e f g l.length seq (sumM l)) t.size) (padL_len _ _ (by rw [encL_len, hsz]; omega))
  rw [hse]
  refine ⟨hp.1, hp.2.1.kin, ⟨?_, fun i hi => ?_⟩, fun j hj => by rw [hp.2.2 j, hat, if_neg hj]⟩
  · rw [slotAt_kin hp.2.1.kin, hp.2.2, if_pos rfl, hp.2.1.size]
  · rw [hp.2.1.size] at hi ⊢
    rw [slotAt_kin hp.2.1.kin, hp.2.2, if_neg (by omega), ht, h.2.2, hat, hsz, if_pos (by rw [hsz] at hi; rw [hsp, ← hl]; omega), Nat.add_sub_cancel_left]
/-- SlotBack -/
theorem back_law {k m : Nat} {which e f g : Int} (hm : 32 ≤ m ∧ m ≤ 4096) (hk : k = 2 * spanN m e f g) (hr : gRight e f g = true) (hwh : which = 0 ∨ which = 1) {l : List Int} (hl : l.length = gTotal e f g) (hB : Bts l) {seq : Int} (q0 : 0 ≤ seq) (q1 : seq ≤ 18446744073709551615) (sync : Bool) :
    ∃ d1 s1 s2 y2 s3 w1 s4 : DiskS, dataM (DiskS.new k m) which e f g l = (d1, 0) ∧ readM d1 which e f g = (s1, ⟨0, 6, 0, []⟩, 0) ∧ sealM s1 which e f g seq l = (s2, 0) ∧ (if sync = true then s2.sync else (s2, 0)) = (y2, 0) ∧
      readM y2 which e f g = (s3, ⟨2, 0, seq, l⟩, 0) ∧ wipeM s3 which e f g = (w1, 0) ∧ readM w1 which e f g = (s4, ⟨0, 6, 0, []⟩, 0) ∧
      d1.ops ≤ 200000 ∧ s1.ops ≤ 200001 ∧ s2.ops ≤ 200002 ∧ y2.ops ≤ 200003 ∧ s3.ops ≤ 400003 ∧ w1.ops ≤ 400004 ∧ d1.size = m ∧ y2.size = m ∧ w1.size = m := by
  have hn : (DiskS.new k m).NoFail := fun _ _ => rfl
  have hc : (DiskS.new k m).cach.length = (DiskS.new k m).last.length := by simp [DiskS.new]
  have hll : (DiskS.new k m).last.length = k := by simp [DiskS.new]
  have hsz : (DiskS.new k m).size = m := rfl
  have hw : atWhy (DiskS.new k m) which e f g = 0 := by
    unfold atWhy
    rw [hll, hsz, if_neg (by simp [hr]), if_neg (by omega), if_neg (by omega)]
  have hspb := spanN_le m e f g
  have hs2 : (DiskS.new k m).size ≤ 4096 := hm.2
  have h := seal_law hn hc hs2 hw hl hB seq
  have hft := slot_fits hw
  have hsp := slot_span hs2 hw
  rw [hll, hsz] at hft
  rw [hsz] at hsp
  have hscb : secs l.length m ≤ 100001 := by rw [hl]; omega
  obtain ⟨h1, hk1, hg1, hrest⟩ := h
  rw [hsz] at hk1
  have hw1 : atWhy (dataM (DiskS.new k m) which e f g l).1 which e f g = 0 := by rw [atWhy_kin hk1, hw]
  have hb1 := read_bad (hk1.nofail hn) (by rw [hk1.size]; exact hs2) hw1 (by rw [slotAt_kin hk1, hg1 _ (.inl (Nat.le_refl _)), get_new _ _ _ (by omega), hk1.size]; rfl)
  obtain ⟨p1, pk, pse, pg⟩ := hrest _ 1 (Kin.tick _) (fun j => rfl)
  have hk2 := (hk1.trans (Kin.tick _)).trans pk
  generalize hd1 : dataM (DiskS.new k m) which e f g l = D1 at *
  obtain ⟨d1, z1⟩ := D1
  simp only at h1 hk1 hg1 hrest hw1 hb1 p1 pk pse pg hk2
  subst h1
  generalize hd2 : sealM d1.tick which e f g seq l = D2 at *
  obtain ⟨s2, z2⟩ := D2
  simp only at p1 pk pse pg hk2
  subst p1
  have hn2 := hk2.nofail hn
  have hc2 := hk2.cl hc
  have hy : ∃ y2, (if sync = true then s2.sync else (s2, 0)) = (y2, 0) ∧ (∃ n, n ≤ 1 ∧ Kin s2 y2 n) ∧ ∀ i, y2.get i = s2.get i := by
    cases sync with
    | true =>
      have hf := NoFail.fails hn2
      have hs := sync_kin hf
      refine ⟨s2.sync.1, ?_, ⟨1, Nat.le_refl _, hs.2⟩, get_sync hf hc2⟩
      rw [if_pos rfl]
      exact Prod.ext rfl hs.1
    | false => exact ⟨s2, rfl, ⟨0, by omega, Kin.refl _⟩, fun _ => rfl⟩
  obtain ⟨y2, hy1, ⟨ny, hny, hky⟩, hgy⟩ := hy
  have hk3 := hk2.trans hky
  have hw3 : atWhy y2 which e f g = 0 := by rw [atWhy_kin hk3, hw]
  have hsy : Sealed y2 which e f g seq l := pse.kin hky (fun i _ _ => hgy i)
  have hr3 := hsy.read (hk3.nofail hn) (by rw [hk3.size]; exact hs2) hw3 hl q0 q1
  have hk4 := hk3.trans (Kin.ticks y2 (spanN y2.size e f g))
  have hw4 : atWhy (y2.ticks (spanN y2.size e f g)) which e f g = 0 := by rw [atWhy_kin hk4, hw]
  have hwp : wipeM (y2.ticks (spanN y2.size e f g)) which e f g = (y2.ticks (spanN y2.size e f g)).write (slotAt (y2.ticks (spanN y2.size e f g)) which e f g : Int) (padL [] (y2.ticks (spanN y2.size e f g)).size) := by
    unfold wipeM; rw [if_neg (by simp [hw4])]
  have hp4 := put_law (hk4.nofail hn) (hk4.cl hc) (i := slotAt (y2.ticks (spanN y2.size e f g)) which e f g) (by rw [slotAt_kin hk4, hk4.len, hll]; omega) (l := padL [] (y2.ticks (spanN y2.size e f g)).size) (padL_len _ _ (by simp))
  rw [← hwp] at hp4
  have hk5 := hk4.trans hp4.2.1.kin
  have hw5 : atWhy (wipeM (y2.ticks (spanN y2.size e f g)) which e f g).1 which e f g = 0 := by rw [atWhy_kin hk5, hw]
  have hb5 := read_bad (hk5.nofail hn) (by rw [hk5.size]; exact hs2) hw5 (by rw [slotAt_kin hp4.2.1.kin, hp4.2.2, if_pos rfl, padL_nil, hp4.2.1.size])
  have o0 : (DiskS.new k m).ops = 0 := rfl
  have oy : spanN y2.size e f g ≤ 100001 := spanN_le _ _ _ _
  refine ⟨d1, d1.tick, s2, y2, y2.ticks (spanN y2.size e f g), (wipeM (y2.ticks (spanN y2.size e f g)) which e f g).1, _, rfl, hb1, hd2, hy1, hr3, Prod.ext rfl hp4.1, hb5, ?_, ?_, ?_, ?_, ?_, ?_, hk1.size, hk3.size, hk5.size⟩
  · have := hk1.ops; omega
  · have := hk1.ops; show d1.ops + 1 ≤ _; omega
  · have := hk2.ops; omega
  · have := hk3.ops; omega
  · have := hk4.ops; omega
  · have := hk5.ops; omega
end Go.Proofs.YtcikhnkehglkgaaGreatDoor
