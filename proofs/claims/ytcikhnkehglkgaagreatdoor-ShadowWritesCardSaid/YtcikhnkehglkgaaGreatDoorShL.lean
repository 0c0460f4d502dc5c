/- PROVED: a shadow's functions where nothing fails, each with what it leaves; made. No conditions beyond those that each theorem states. -/
import Derived.Test.YtcikhnkehglkgaaGreatDoorShK
import Derived.Test.YtcikhnkehglkgaaGreatDoorShR
namespace Go.Proofs.YtcikhnkehglkgaaGreatDoor
open Go.RowKit Go.Proofs.YtcikhnkehglkgaaGreatDoorLib Go.Shelf
set_option linter.unusedSimpArgs false
set_option linter.unusedVariables false

theorem ShX.kept0 {A : Nat → Prop} {W V : World} {b q : Nat} {e f g : Int} {s : DiskS} {h : ShS} (hX : ShX A W b q e f g s h) (k : Kept W V []) : ShX A V b q e f g s h := by
  obtain ⟨v, bq, o, a, c, d, i, j⟩ := hX.ex
  exact ⟨v, bq, o, a.kept0 k, c.kept k (by simp), d.kept k (.inr (by simp)), i, j⟩
theorem ShX.hold_new {A : Nat → Prop} {W V : World} {b q : Nat} {e f g : Int} {s : DiskS} {h : ShS} (hX : ShX A W b q e f g s h) (k : Kept W V []) (p : Nat) (C : Prop) (hp : C ∨ (W.heap.size ≤ p ∧ p < V.heap.size)) : ShX (fun x => A x ∧ (x ≠ p ∨ C)) V b q e f g s h := by
  obtain ⟨v, bq, o, a, c, d, i, j⟩ := hX.ex
  exact ⟨v, bq, o, a.hold_new k p C hp, c.kept k (by simp), d.kept k (.inr (by simp)), i.imp id (fun h => ⟨fun hx => h.1 hx.1, h.2⟩), fun hx => j hx.1⟩
theorem ShX.st {A : Nat → Prop} {W : World} {b q : Nat} {e f g : Int} {s : DiskS} {h : ShS} (hX : ShX A W b q e f g s h) : St A W b s := by
  obtain ⟨v, bq, o, a, c, d, i, j⟩ := hX.ex
  exact a
/-- a shadow beside what the disk's own operations turn -/
theorem ShX.on {A B : Nat → Prop} {W V : World} {b q : Nat} {e f g : Int} {s t : DiskS} {h : ShS} (hX : ShX A W b q e f g s h) (hS : St A V b t) (k : KeptA A W V) : ShX A V b q e f g t h := by
  obtain ⟨v, bq, o, a, c, d, i, j⟩ := hX.ex
  exact ⟨v, bq, o, hS, k.blk c j, k.sl d (i.imp id (fun h => h.1)), i, j⟩
theorem ShX.qlt {A : Nat → Prop} {W : World} {b q : Nat} {e f g : Int} {s : DiskS} {h : ShS} (hX : ShX A W b q e f g s h) : q < W.heap.size := by
  obtain ⟨v, bq, o, a, c, d, i, j⟩ := hX.ex
  exact c.lt
/-- a row of the caller's own, made and turned beside it -/
theorem ShX.own_turn {A : Nat → Prop} {W V X : World} {b q : Nat} {e f g : Int} {s : DiskS} {h : ShS} (hX : ShX A W b q e f g s h) (k : Kept W V []) (p : Nat) (hp : W.heap.size ≤ p ∧ p < V.heap.size) (k2 : Kept V X [p]) : ShX (fun x => A x ∧ (x ≠ p ∨ False)) X b q e f g s h := by
  obtain ⟨v, bq, o, a, c, d, i, j⟩ := hX.ex
  have hq := c.lt
  obtain ⟨⟨F, hF, hFA⟩, hU⟩ := a.hold_new k p False (.inr hp)
  refine ⟨v, bq, o, ⟨⟨F, hF.kept k2 (fun y hy hm => by simp at hy; subst hy; exact (hFA _ hm).2.elim (fun h => h rfl) id), hFA⟩, fun y hy => hU y (Nat.le_trans k2.size hy)⟩, (c.kept k (by simp)).kept k2 (by simp; omega), (d.kept k (.inr (by simp))).kept k2 ?_, i.imp id (fun h => ⟨fun hx => h.1 hx.1, h.2⟩), fun hx => j hx.1⟩
  by_cases e0 : h.now = []
  · exact .inl e0
  · have := d.lt e0
    exact .inr (by simp; omega)
theorem commit_any {A : Nat → Prop} {W : World} {b q : Nat} {s : DiskS} {e f g : Int} {h0 : ShS} (hX : ShX A W b q e f g s h0) (hg : GeoLaid W) (hA : ∀ x, A x → nGlobals ≤ x) (ho : s.ops < 500000000) (q0 : 0 ≤ h0.seq) (q1 : h0.seq ≤ 18446744073709551615) (w0 : -1 ≤ h0.which) (w1 : h0.which ≤ 2) (v : Value) (bq off : Nat) (l : List Int) (hs : Sl .u8 W v bq off l) (hq : l = [] ∨ (¬ A bq ∧ bq ≠ q)) (hB : Bts l) (hnB : Bts h0.now) (hl : l.length ≤ 100000) (hnl : h0.now.length ≤ 100000) :
    Calls Tryz.prog 21 #[pt q, v] W (fun ee V => ee = .returned (.int .i64 (commitM s h0 e f g l).2.2) ∧ Committed A W V b q e f g (commitM s h0 e f g l)) := by
  by_cases hw : commitWhy h0 l = -1
  · exact commit_yes hX hg hA ho q0 q1 w0 w1 v bq off l hs hq hB hnB hl hnl hw
  · refine (commit_no hX v bq off l hs hB hnB hl hnl hw).mono ?_
    rintro ee V ⟨rfl, k⟩
    have hc : commitM s h0 e f g l = (s, h0, commitWhy h0 l) := by unfold commitM; rw [if_pos hw]
    rw [hc]
    exact ⟨rfl, KeptA.of0 k, A, fun x hx => hx, hX.kept0 k⟩
theorem image_x {A : Nat → Prop} {W : World} {b q : Nat} {e f g : Int} {s : DiskS} {h : ShS} (hX : ShX A W b q e f g s h) (hl : h.now.length ≤ 1000000) :
    Calls Tryz.prog 16 #[pt q] W (fun ee V => ∃ v nb, ee = .returned v ∧ Own 5 .u8 V W.heap.size v h.now ∧ Sl .u8 V v nb 0 h.now ∧ (h.now = [] ∨ (v.ownBlock = some nb ∧ W.heap.size ≤ nb ∧ nb < V.heap.size)) ∧ Kept W V []) := by
  obtain ⟨v, bq, o, a, c, d, i, j⟩ := hX.ex
  refine (image_any W q _ c v bq o h.now rfl d hl).mono ?_
  rintro _ V ⟨v', rfl, hown, k⟩
  obtain ⟨nb, hs, hn⟩ := hown.sl
  refine ⟨v', nb, rfl, hown, hs, ?_, k⟩
  by_cases e0 : h.now = []
  · exact .inl e0
  · have := hn.resolve_left e0
    exact .inr ⟨this.1, this.2, hs.lt e0⟩
theorem seq_x {A : Nat → Prop} {W : World} {b q : Nat} {e f g : Int} {s : DiskS} {h : ShS} (hX : ShX A W b q e f g s h) : Calls Tryz.prog 17 #[pt q] W (fun ee V => ee = .returned (.int .u64 h.seq) ∧ W = V) := by
  obtain ⟨v, bq, o, a, c, d, i, j⟩ := hX.ex
  exact seq_any W q _ c h.seq rfl
theorem which_x {A : Nat → Prop} {W : World} {b q : Nat} {e f g : Int} {s : DiskS} {h : ShS} (hX : ShX A W b q e f g s h) : Calls Tryz.prog 18 #[pt q] W (fun ee V => ee = .returned (.int .i64 h.which) ∧ W = V) := by
  obtain ⟨v, bq, o, a, c, d, i, j⟩ := hX.ex
  exact which_any W q _ c h.which rfl
theorem stale_x {A : Nat → Prop} {W : World} {b q : Nat} {e f g : Int} {s : DiskS} {h : ShS} (hX : ShX A W b q e f g s h) : Calls Tryz.prog 26 #[pt q] W (fun ee V => ee = .returned (.bool h.stale) ∧ W = V) := by
  obtain ⟨v, bq, o, a, c, d, i, j⟩ := hX.ex
  exact stale_any W q _ c h.stale rfl
/-- Format, where nothing fails -/
theorem format_go {s : DiskS} {e f g : Int} (nf : s.NoFail) (cl : s.cach.length = s.last.length) (hs2 : s.size ≤ 4096) (hw : atWhy s 0 e f g = 0) (ho : s.ops < 500000000) (h8 : gTotal e f g ≤ 8192) :
    ∃ s1, ShInv s1 ⟨facL e f g, 1, 0, false⟩ e f g ∧ Kin s s1 (secs (gTotal e f g) s.size + 6) ∧ s1.get (slotAt s1 1 e f g) = List.replicate s1.size 0 ∧ s1.marks = s.marks ∧ ∀ (A : Nat → Prop) (W : World) (b : Nat), St A W b s → GeoLaid W → (∀ x, A x → nGlobals ≤ x) → Calls Tryz.prog 14 #[pt b, .agg #[.int .i64 e, .int .i64 f, .int .i64 g]] W (After A W b (s1, 0)) := by
  have h := format_ok nf cl hs2 hw
  refine ⟨(formatM s e f g).1, h.2.2.1, h.2.1, h.2.2.2, (format_ran hs2 hw).marks, fun A W b hS hG hA => ?_⟩
  have c := format_any hS hG hA ho e f g h8
  have e1 : formatM s e f g = ((formatM s e f g).1, 0) := Prod.ext rfl h.1
  rw [e1] at c
  exact c
/-- what Open hands back -/
def OpenX (A : Nat → Prop) (W : World) (b : Nat) (e f g : Int) (t : DiskS) (h : ShS) (ee : Ending) (V : World) : Prop :=
  KeptA A W V ∧ ∃ q bq, ee = .returned (.tuple #[pt q, .int .i64 0]) ∧ ShX (fun x => A x ∧ (x ≠ bq ∨ h.now = []) ∧ x ≠ q) V b q e f g t h ∧ W.heap.size ≤ q ∧ (h.now = [] ∨ W.heap.size ≤ bq)
/-- Open, where nothing fails -/
theorem open_go {s : DiskS} {h : ShS} {e f g : Int} (hi : ShInv s h e f g) (ho : s.ops < 500000000) (hsm : spanN s.size e f g ≤ 201) :
    ∃ t n, n ≤ 403 ∧ ShInv t h e f g ∧ Kin s t n ∧ (∀ j, t.get j = s.get j) ∧ t.writes = s.writes ∧ t.marks = s.marks ∧ ∀ (A : Nat → Prop) (W : World) (b : Nat), St A W b s → GeoLaid W → (∀ x, A x → nGlobals ≤ x) →
      Calls Tryz.prog 15 #[pt b, .agg #[.int .i64 e, .int .i64 f, .int .i64 g]] W (OpenX A W b e f g t h) := by
  obtain ⟨t, n, hn, ho1, hk, hgt, hwr, hma⟩ := shopen_ok hi
  refine ⟨t, n, by omega, hi.kin hk hgt, hk, hgt, hwr, hma, fun A W b hS hG hA => ?_⟩
  have c := shopen_any hS hG hA ho e f g hsm
  rw [ho1] at c
  refine c.mono ?_
  rintro ee V ⟨hK, h1 | ⟨_, q, bq, h2, h3, h4, h5⟩⟩
  · exact absurd rfl h1.1
  · exact ⟨hK, q, bq, h2, h3, h4, h5⟩
/-- Commit of an unlike image, where nothing fails -/
theorem commit_go {s : DiskS} {h : ShS} {e f g : Int} (hi : ShInv s h e f g) (ho : s.ops < 500000000) (ht : gTotal e f g ≤ 8192) {l : List Int} (hl : l.length = gTotal e f g) (hB : Bts l) (hne : l ≠ h.now) (hq : h.seq < 18446744073709551615) :
    ∃ t, ShInv t ⟨l, h.seq + 1, 1 - h.which, false⟩ e f g ∧ Kin s t (secs l.length s.size + 3) ∧ t = (layS s (1 - h.which) e f g (h.seq + 1) l).1 ∧ ∀ (A : Nat → Prop) (W : World) (b q : Nat) (v : Value) (bq off : Nat), ShX A W b q e f g s h → GeoLaid W → (∀ x, A x → nGlobals ≤ x) → Sl .u8 W v bq off l → (l = [] ∨ (¬ A bq ∧ bq ≠ q)) →
      Calls Tryz.prog 21 #[pt q, v] W (fun ee V => ee = .returned (.int .i64 0) ∧ Committed A W V b q e f g (t, ⟨l, h.seq + 1, 1 - h.which, false⟩, 0)) := by
  obtain ⟨t, hc, hk, hi2, ht2⟩ := shcommit_ok hi hl hB hne hq
  refine ⟨t, hi2, hk, ht2, fun A W b q v bq off hX hG hA hs hqq => ?_⟩
  have c := commit_any hX hG hA ho hi.q0 hi.q1 (by have := hi.wh; omega) (by have := hi.wh; omega) v bq off l hs hqq hB hi.bts (by omega) (by have := hi.len; omega)
  rw [hc] at c
  exact c
/-- Commit of the current image -/
theorem commit_cur {s : DiskS} {h : ShS} {e f g : Int} (hi : ShInv s h e f g) (ho : s.ops < 500000000) (ht : gTotal e f g ≤ 8192) (A : Nat → Prop) (W : World) (b q : Nat) (v : Value) (bq off : Nat) (hX : ShX A W b q e f g s h) (hG : GeoLaid W) (hs : Sl .u8 W v bq off h.now) :
    Calls Tryz.prog 21 #[pt q, v] W (fun ee V => ee = .returned (.int .i64 0) ∧ Kept W V []) := by
  have hw : commitWhy h h.now = 0 := by
    unfold commitWhy
    rw [if_neg (by rw [hi.fresh]; simp), if_neg (by simp), if_pos rfl]
  have c := commit_no hX v bq off h.now hs hi.bts hi.bts (by have := hi.len; omega) (by have := hi.len; omega) (by rw [hw]; decide)
  rw [hw] at c
  exact c
end Go.Proofs.YtcikhnkehglkgaaGreatDoor
