/- PROVED: the plain law of ShadowStale, and the Commit that follows it. No conditions beyond those that each theorem states. -/
import Derived.Test.YtcikhnkehglkgaaGreatDoorShM
namespace Go.Proofs.YtcikhnkehglkgaaGreatDoor
open Go.RowKit Go.Proofs.YtcikhnkehglkgaaGreatDoorLib Go.Shelf
set_option linter.unusedSimpArgs false
set_option linter.unusedVariables false

theorem Ran.kin {s t : DiskS} {n : Nat} {er : Int} (h : Ran s t n er) : Kin s t (t.ops - s.ops) := ⟨h.size, h.len, h.cach, h.plan, by have := h.lo; omega⟩
theorem stale_law {s : DiskS} {fl x : List Int} {e f g : Int} (hi : ShInv s ⟨fl, 1, 0, false⟩ e f g) (hz : s.get (slotAt s 1 e f g) = List.replicate s.size 0) (hp : ∀ n, s.plan n = false) (hx : x.length = gTotal e f g) (hB : Bts x) (k : Nat) (hk : k < spanN s.size e f g + 2) :
    (layS (s.fail ((s.ops : Int) + 1 + k)) 1 e f g 2 x).2 = 3 ∧ (layS (s.fail ((s.ops : Int) + 1 + k)) 1 e f g 2 x).1.ops ≤ s.ops + spanN s.size e f g + 2 ∧ (layS (s.fail ((s.ops : Int) + 1 + k)) 1 e f g 2 x).1.size = s.size ∧ ∃ h, (h = ⟨fl, 1, 0, false⟩ ∨ h = ⟨x, 2, 1, false⟩) ∧ ShInv (layS (s.fail ((s.ops : Int) + 1 + k)) 1 e f g 2 x).1 h e f g := by
  have hsp := slot_span hi.s2 hi.ok
  have e1 : (s.fail ((s.ops : Int) + 1 + k)).size = s.size := rfl
  have e2 : (s.fail ((s.ops : Int) + 1 + k)).ops = s.ops := rfl
  have hpl : ∀ m : Int, (s.fail ((s.ops : Int) + 1 + k)).plan m = (m == (s.ops : Int) + 1 + k) := fun m => by
    show (s.plan m || m == (s.ops : Int) + 1 + k) = _
    rw [hp]; rfl
  have hw1 : atWhy (s.fail ((s.ops : Int) + 1 + k)) 1 e f g = 0 := atWhy_other (s := s) hi.ok (.inr rfl)
  have r := layS_ran (s := s.fail ((s.ops : Int) + 1 + k)) hi.s2 hw1 hx hB 2
  have lf := layS_left (s := s.fail ((s.ops : Int) + 1 + k)) hi.cl hi.s2 hw1 hx hB 2
  rw [e1, hx] at r
  generalize layS (s.fail ((s.ops : Int) + 1 + k)) 1 e f g 2 x = L at *
  obtain ⟨t, er⟩ := L
  simp only at r lf ⊢
  have hne : er ≠ 0 := by
    intro h0
    have h1 := r.ok h0
    have h2 := h1.2 ((s.ops : Int) + 1 + k) (by rw [e2]; omega) (by rw [h1.1, e2]; omega)
    rw [hpl] at h2
    simp at h2
  have h3 := r.no hne
  have hops : (t.ops : Int) = (s.ops : Int) + 1 + k := by
    have h4 := h3.2.2
    rw [hpl] at h4
    simpa using h4
  refine ⟨h3.1, by have h5 := r.hi; rw [e2] at h5; omega, r.size, ?_⟩
  have nf : t.NoFail := fun m hm => by rw [r.plan, hpl]; simp; omega
  have cl := r.cl hi.cl
  have s2 : t.size ≤ 4096 := by rw [r.size]; exact hi.s2
  have ok : atWhy t 0 e f g = 0 := by rw [atWhy_ran r]; exact hi.ok
  have g0 : Sealed t 0 e f g 1 fl := by
    have hg : Sealed (s.fail ((s.ops : Int) + 1 + k)) 0 e f g 1 fl := ⟨hi.good.head, hi.good.body⟩
    refine hg.kin r.kin (fun i h1 h2 => lf.1 i ?_)
    have hl := hi.len
    simp only at hl
    rw [e1, hl] at h2
    have e3 : slotAt (s.fail ((s.ops : Int) + 1 + k)) (1 - 1) e f g = slotAt (s.fail ((s.ops : Int) + 1 + k)) 0 e f g := rfl
    have h4 := slots_apart (s.fail ((s.ops : Int) + 1 + k)) (a := 1) (e := e) (f := f) (g := g) (.inr rfl) (j := i) (by rw [e3]; exact h1) (by rw [e3, e1, hsp]; omega)
    exact h4
  rcases lf.2 with ⟨_, hh⟩ | hs
  · refine ⟨⟨fl, 1, 0, false⟩, .inl rfl, ⟨nf, cl, s2, ok, .inl rfl, rfl, hi.len, hi.bts, by show (0 : Int) ≤ 1; decide, by show (1 : Int) ≤ _; decide, g0, ?_⟩⟩
    refine .inl ?_
    show t.get (slotAt t 1 e f g) = _
    rw [slotAt_ran r, hh, r.size]
    exact hz
  · refine ⟨⟨x, 2, 1, false⟩, .inr rfl, ⟨nf, cl, s2, ok, .inr rfl, rfl, hx, hB, by show (0 : Int) ≤ 2; decide, by show (2 : Int) ≤ _; decide, hs, .inr ⟨1, fl, by decide, by show (1 : Int) < 2; decide, hi.len, g0⟩⟩⟩
theorem commit_fin {t : DiskS} {h : ShS} {fl x : List Int} {e f g : Int} (hi : ShInv t h e f g) (hc : h = ⟨fl, 1, 0, false⟩ ∨ h = ⟨x, 2, 1, false⟩) (ho : t.ops < 500000000) (ht : gTotal e f g ≤ 8192) (hx : x.length = gTotal e f g) (hB : Bts x) (hne : x ≠ fl) :
    ∃ u h2, h2.now = x ∧ h2.stale = false ∧ ∀ (A : Nat → Prop) (W : World) (b q : Nat) (v : Value) (bq off : Nat), ShX A W b q e f g t h → GeoLaid W → (∀ x, A x → nGlobals ≤ x) → Sl .u8 W v bq off x → (x = [] ∨ (¬ A bq ∧ bq ≠ q)) →
      Calls Tryz.prog 21 #[pt q, v] W (fun ee V => ee = .returned (.int .i64 0) ∧ KeptA (fun y => A y ∨ y = q) W V ∧ ∃ B : Nat → Prop, (∀ y, B y → A y) ∧ ShX B V b q e f g u h2) := by
  rcases hc with rfl | rfl
  · obtain ⟨u, i2, _, _, c⟩ := commit_go hi ho ht hx hB hne (by show (1 : Int) < _; decide)
    exact ⟨u, _, rfl, rfl, fun A W b q v bq off hX hG hA hs hq => (c A W b q v bq off hX hG hA hs hq).mono (fun ee V ⟨a, k, B, h1, h2⟩ => ⟨a, k, B, h1, h2⟩)⟩
  · exact ⟨t, _, rfl, rfl, fun A W b q v bq off hX hG hA hs hq => (commit_cur hi ho ht A W b q v bq off hX hG hs).mono (fun ee V ⟨a, k⟩ => ⟨a, KeptA.of0 k, A, fun y hy => hy, hX.kept0 k⟩)⟩
end Go.Proofs.YtcikhnkehglkgaaGreatDoor
