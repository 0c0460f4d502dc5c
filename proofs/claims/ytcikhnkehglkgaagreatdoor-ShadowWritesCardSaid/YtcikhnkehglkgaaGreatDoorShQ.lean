/- PROVED: the plain laws of a shadow where no operation fails: what is formatted is opened, what is committed is opened. No conditions beyond those that each theorem states. -/
import Derived.Test.YtcikhnkehglkgaaGreatDoorShP
namespace Go.Proofs.YtcikhnkehglkgaaGreatDoor
open Go.RowKit Go.Proofs.YtcikhnkehglkgaaGreatDoorLib
set_option linter.unusedSimpArgs false
set_option linter.unusedVariables false

theorem atWhy_other {s : DiskS} {a b e f g : Int} (h : atWhy s a e f g = 0) (hb : b = 0 ∨ b = 1) : atWhy s b e f g = 0 := by
  obtain ⟨hr, ⟨_, _⟩, hsz, hrm⟩ := atWhy_yes h
  unfold atWhy
  rw [if_neg (by simp [hr]), if_neg (by omega), if_neg (by omega)]
theorem slots_apart (s : DiskS) {a e f g : Int} (ha : a = 0 ∨ a = 1) {j : Nat} (hj : slotAt s (1 - a) e f g ≤ j) (hk : j < slotAt s (1 - a) e f g + spanN s.size e f g) :
    j < slotAt s a e f g ∨ slotAt s a e f g + spanN s.size e f g ≤ j := by
  unfold slotAt at *
  rcases ha with rfl | rfl
  · simp only [Int.sub_zero, Int.toNat_one, Int.toNat_zero, Nat.one_mul, Nat.zero_mul] at *
    omega
  · simp only [Int.sub_self, Int.toNat_one, Int.toNat_zero, Nat.one_mul, Nat.zero_mul] at *
    omega
/-- an image and its head, each synced -/
theorem layS_ok {s : DiskS} (hn : s.NoFail) (hc : s.cach.length = s.last.length) (hs2 : s.size ≤ 4096) {which e f g : Int} (hw : atWhy s which e f g = 0) {l : List Int} (hl : l.length = gTotal e f g) (hB : Bts l) (seq : Int) :
    (layS s which e f g seq l).2 = 0 ∧ Kin s (layS s which e f g seq l).1 (secs l.length s.size + 3) ∧ Sealed (layS s which e f g seq l).1 which e f g seq l ∧
    ∀ j, (j < slotAt s which e f g ∨ slotAt s which e f g + spanN s.size e f g ≤ j) → (layS s which e f g seq l).1.get j = s.get j := by
  obtain ⟨h1, k1, g1, hrest⟩ := seal_law hn hc hs2 hw hl hB seq
  have f1 := NoFail.fails (k1.nofail hn)
  have y1 := sync_kin f1
  have gy := get_sync f1 (k1.cl hc)
  obtain ⟨p1, pk, pse, pg⟩ := hrest _ 1 y1.2 gy
  have k3 := (k1.trans y1.2).trans pk
  have f3 := NoFail.fails (k3.nofail hn)
  have y3 := sync_kin f3
  have gz := get_sync f3 (k3.cl hc)
  have k4 := k3.trans y3.2
  have hsp := slot_span hs2 hw
  have ft := slot_fits hw
  unfold layS
  rw [if_neg (by simp [h1]), if_neg (by simp [y1.1]), if_neg (by simp [p1])]
  refine ⟨y3.1, k4, pse.kin y3.2 (fun i _ _ => gz i), fun j hj => ?_⟩
  rw [gz, pg j (by omega), gy, g1 j (by omega)]
theorem wipeM_ok {s : DiskS} (hn : s.NoFail) (hc : s.cach.length = s.last.length) (hs2 : s.size ≤ 4096) {which e f g : Int} (hw : atWhy s which e f g = 0) :
    (wipeM s which e f g).2 = 0 ∧ Kin s (wipeM s which e f g).1 1 ∧ ∀ j, (wipeM s which e f g).1.get j = if j = slotAt s which e f g then List.replicate s.size 0 else s.get j := by
  have hft := slot_fits hw
  have hsp := slot_span hs2 hw
  have hp := put_law hn hc (i := slotAt s which e f g) (by omega) (l := padL [] s.size) (padL_len _ _ (by simp))
  have he : wipeM s which e f g = s.write (slotAt s which e f g : Int) (padL [] s.size) := by unfold wipeM; rw [if_neg (by simp [hw])]
  rw [he, ← padL_nil]
  exact ⟨hp.1, hp.2.1.kin, hp.2.2⟩
/-- a disk on which a shadow lies -/
structure ShInv (s : DiskS) (h : ShS) (e f g : Int) : Prop where
  nf : s.NoFail
  cl : s.cach.length = s.last.length
  s2 : s.size ≤ 4096
  ok : atWhy s 0 e f g = 0
  wh : h.which = 0 ∨ h.which = 1
  fresh : h.stale = false
  len : h.now.length = gTotal e f g
  bts : Bts h.now
  q0 : 0 ≤ h.seq
  q1 : h.seq ≤ 18446744073709551615
  good : Sealed s h.which e f g h.seq h.now
  other : s.get (slotAt s (1 - h.which) e f g) = List.replicate s.size 0 ∨ ∃ q l, 0 ≤ q ∧ q < h.seq ∧ l.length = gTotal e f g ∧ Sealed s (1 - h.which) e f g q l
theorem ShInv.kin {s t : DiskS} {h : ShS} {e f g : Int} {n : Nat} (hi : ShInv s h e f g) (k : Kin s t n) (hg : ∀ j, t.get j = s.get j) : ShInv t h e f g :=
  ⟨k.nofail hi.nf, k.cl hi.cl, by rw [k.size]; exact hi.s2, by rw [atWhy_kin k]; exact hi.ok, hi.wh, hi.fresh, hi.len, hi.bts, hi.q0, hi.q1, hi.good.kin k (fun i _ _ => hg i),
    hi.other.imp (fun h => by rw [slotAt_kin k, hg, k.size]; exact h) (fun ⟨q, l, a, b, c, d⟩ => ⟨q, l, a, b, c, d.kin k (fun i _ _ => hg i)⟩)⟩
/-- what was formatted -/
theorem format_ok {s : DiskS} (hn : s.NoFail) (hc : s.cach.length = s.last.length) (hs2 : s.size ≤ 4096) {e f g : Int} (hw : atWhy s 0 e f g = 0) :
    (formatM s e f g).2 = 0 ∧ Kin s (formatM s e f g).1 (secs (gTotal e f g) s.size + 6) ∧ ShInv (formatM s e f g).1 ⟨facL e f g, 1, 0, false⟩ e f g ∧ (formatM s e f g).1.get (slotAt (formatM s e f g).1 1 e f g) = List.replicate (formatM s e f g).1.size 0 := by
  have hr := (atWhy_yes hw).1
  have a := wipeM_ok hn hc hs2 hw
  have hw1 : atWhy (wipeM s 0 e f g).1 1 e f g = 0 := by rw [atWhy_kin a.2.1]; exact atWhy_other hw (.inr rfl)
  have b := wipeM_ok (a.2.1.nofail hn) (a.2.1.cl hc) (by rw [a.2.1.size]; exact hs2) hw1
  have kb := a.2.1.trans b.2.1
  have fb := NoFail.fails (kb.nofail hn)
  have y := sync_kin fb
  have gy := get_sync fb (kb.cl hc)
  have ky := kb.trans y.2
  have ew : wipesM s e f g = (wipeM (wipeM s 0 e f g).1 1 e f g).1.sync := by
    unfold wipesM
    rw [if_neg (by simp [a.1]), if_neg (by simp [b.1])]
  have hwy : atWhy (wipeM (wipeM s 0 e f g).1 1 e f g).1.sync.1 0 e f g = 0 := by rw [atWhy_kin ky]; exact hw
  have lk := layS_ok (ky.nofail hn) (ky.cl hc) (by rw [ky.size]; exact hs2) hwy (facL_len hr) (facL_bts e f g) 1
  have k := ky.trans lk.2.1
  have hsp := slot_span hs2 hw
  have ef : formatM s e f g = layS (wipeM (wipeM s 0 e f g).1 1 e f g).1.sync.1 0 e f g 1 (facL e f g) := by
    unfold formatM
    rw [ew, if_neg (by simp [y.1])]
  rw [ef]
  rw [facL_len hr, ky.size] at k
  have hz : (layS (wipeM (wipeM s 0 e f g).1 1 e f g).1.sync.1 0 e f g 1 (facL e f g)).1.get (slotAt (layS (wipeM (wipeM s 0 e f g).1 1 e f g).1.sync.1 0 e f g 1 (facL e f g)).1 1 e f g) = List.replicate (layS (wipeM (wipeM s 0 e f g).1 1 e f g).1.sync.1 0 e f g 1 (facL e f g)).1.size 0 := by
    rw [slotAt_kin k, k.size, lk.2.2.2 _ (by rw [slotAt_kin ky, ky.size]; unfold slotAt; simp only [Int.sub_zero, Int.toNat_one, Int.toNat_zero, Nat.one_mul, Nat.zero_mul]; omega), gy, b.2.2, slotAt_kin a.2.1, if_pos rfl, a.2.1.size]
  refine ⟨lk.1, by have e1 : 1 + 1 + 1 + (secs (gTotal e f g) s.size + 3) = secs (gTotal e f g) s.size + 6 := by omega
                   rw [← e1]; exact k, ⟨k.nofail hn, k.cl hc, by rw [k.size]; exact hs2, by rw [atWhy_kin k]; exact hw, .inl rfl, rfl, facL_len hr, facL_bts e f g, by show (0 : Int) ≤ 1; decide, by show (1 : Int) ≤ 18446744073709551615; decide, lk.2.2.1, .inl hz⟩, hz⟩
/-- a slot as it is read -/
theorem read_inv {s : DiskS} {h : ShS} {e f g : Int} (hi : ShInv s h e f g) {w : Int} (hw : w = 0 ∨ w = 1) :
    ∃ k r, k ≤ spanN s.size e f g ∧ readM s w e f g = (s.ticks k, r, 0) ∧ (w = h.which → r = ⟨2, 0, h.seq, h.now⟩) ∧ (w ≠ h.which → r.st = 0 ∨ r.st = 2 ∧ r.seq < h.seq) := by
  have ok : atWhy s w e f g = 0 := atWhy_other hi.ok hw
  by_cases hwh : w = h.which
  · subst hwh
    exact ⟨_, _, Nat.le_refl _, hi.good.read hi.nf hi.s2 ok hi.len hi.q0 hi.q1, fun _ => rfl, fun hx => absurd rfl hx⟩
  · have e1 : w = 1 - h.which := by rcases hw with rfl | rfl <;> rcases hi.wh with hh | hh <;> omega
    subst e1
    rcases hi.other with hb | ⟨q, l, q0, q1, hl, hs⟩
    · exact ⟨1, _, by rw [slot_span hi.s2 ok]; omega, read_bad hi.nf hi.s2 ok hb, fun hx => absurd hx hwh, fun _ => .inl rfl⟩
    · exact ⟨_, _, Nat.le_refl _, hs.read hi.nf hi.s2 ok hl q0 (by have := hi.q1; omega), fun hx => absurd hx hwh, fun _ => .inr ⟨rfl, q1⟩⟩
theorem canM_at {s : DiskS} {e f g : Int} (hw : atWhy s 0 e f g = 0) : canM s e f g = 0 := by
  obtain ⟨hr, _, hsz, hrm⟩ := atWhy_yes hw
  unfold canM
  rw [if_neg (by simp [hr]), if_neg (by omega), if_neg (by omega)]
/-- what is opened -/
theorem shopen_ok {s : DiskS} {h : ShS} {e f g : Int} (hi : ShInv s h e f g) :
    ∃ t n, n ≤ 2 * spanN s.size e f g + 1 ∧ openM s e f g = (t, h, 0) ∧ Kin s t n ∧ (∀ j, t.get j = s.get j) ∧ t.writes = s.writes ∧ t.marks = s.marks := by
  have hf := NoFail.fails hi.nf
  have y := sync_kin hf
  have gy := get_sync hf hi.cl
  have iy := hi.kin y.2 gy
  have wy : s.sync.1.writes = s.writes ∧ s.sync.1.marks = s.marks := by unfold DiskS.sync; rw [if_neg (by simp [hf])]; exact ⟨rfl, rfl⟩
  have szy := y.2.size
  generalize hY : s.sync = Y at *
  obtain ⟨y1, y2⟩ := Y
  simp only at y gy iy wy szy
  obtain ⟨rfl, ky⟩ := y
  obtain ⟨k0, r0, hk0, e0, c0, d0⟩ := read_inv iy (.inl rfl)
  have i1 := iy.kin (Kin.ticks y1 k0) (fun j => rfl)
  obtain ⟨k1, r1, hk1, e1, c1, d1⟩ := read_inv i1 (.inr rfl)
  have hb : bothM s e f g = ((y1.ticks k0).ticks k1, r0, r1, 0) := by
    unfold bothM
    rw [hY, if_neg (by simp)]
    simp only
    rw [e0, if_neg (by simp)]
    simp only
    rw [e1]
  have hbest : bestM r0 r1 = (⟨2, 0, h.seq, h.now⟩, h.which) := by
    unfold bestM
    rcases hi.wh with hh | hh
    · have a := c0 hh.symm
      have b := d1 (by omega)
      subst a
      rw [if_neg (by rintro ⟨p, q⟩; rcases b with b | b
                     · omega
                     · rcases q with q | q
                       · exact q rfl
                       · simp only at q; omega), if_pos (.inl rfl), hh]
    · have a := c1 hh.symm
      have b := d0 (by omega)
      subst a
      rw [if_pos ⟨rfl, by rcases b with b | b
                          · left; omega
                          · right; exact b.2⟩, hh]
  refine ⟨(y1.ticks k0).ticks k1, 1 + k0 + k1, ?_, ?_, (ky.trans (Kin.ticks y1 k0)).trans (Kin.ticks _ k1), fun j => gy j, wy.1, wy.2⟩
  · have hk1' : k1 ≤ spanN y1.size e f g := hk1
    rw [szy] at hk0 hk1'; omega
  · unfold openM
    rw [hb, if_neg (by simp [canM_at hi.ok]), if_neg (by simp)]
    simp only
    rw [hbest, if_neg (by simp), if_neg (by simp)]
    have := hi.fresh
    obtain ⟨a, b, c, d⟩ := h
    simp only at this
    subst this
    rfl
/-- what is committed, unlike the current one -/
theorem shcommit_ok {s : DiskS} {h : ShS} {e f g : Int} (hi : ShInv s h e f g) {l : List Int} (hl : l.length = gTotal e f g) (hB : Bts l) (hne : l ≠ h.now) (hq : h.seq < 18446744073709551615) :
    ∃ t, commitM s h e f g l = (t, ⟨l, h.seq + 1, 1 - h.which, false⟩, 0) ∧ Kin s t (secs l.length s.size + 3) ∧ ShInv t ⟨l, h.seq + 1, 1 - h.which, false⟩ e f g ∧ t = (layS s (1 - h.which) e f g (h.seq + 1) l).1 := by
  have hwo : 1 - h.which = 0 ∨ 1 - h.which = 1 := by have := hi.wh; omega
  have ok := atWhy_other hi.ok hwo
  have lk := layS_ok hi.nf hi.cl hi.s2 ok hl hB (h.seq + 1)
  have hsp := slot_span hi.s2 hi.ok
  have hwy : commitWhy h l = -1 := by
    unfold commitWhy
    rw [if_neg (by rw [hi.fresh]; simp), if_neg (by rw [hl, hi.len]; simp), if_neg hne, if_neg (by omega)]
  have e2 : (1 : Int) - (1 - h.which) = h.which := by omega
  refine ⟨_, ?_, lk.2.1, ⟨lk.2.1.nofail hi.nf, lk.2.1.cl hi.cl, by rw [lk.2.1.size]; exact hi.s2, by rw [atWhy_kin lk.2.1]; exact hi.ok, hwo, rfl, hl, hB, by have := hi.q0; simp only; omega, by simp only; omega, lk.2.2.1, ?_⟩, rfl⟩
  · unfold commitM
    rw [if_neg (by simp [hwy]), if_neg (by simp [lk.1])]
  · simp only
    rw [e2]
    refine .inr ⟨h.seq, h.now, hi.q0, by omega, hi.len, hi.good.kin lk.2.1 (fun i h1 h2 => lk.2.2.2 i ?_)⟩
    have h3 := slots_apart s hwo (j := i) (e := e) (f := f) (g := g) (by rw [e2]; exact h1) (by rw [e2, hsp, ← hi.len]; omega)
    exact h3
theorem shcommit_same {s : DiskS} {h : ShS} {e f g : Int} (hi : ShInv s h e f g) : commitM s h e f g h.now = (s, h, 0) := by
  have hwy : commitWhy h h.now = 0 := by
    unfold commitWhy
    rw [if_neg (by rw [hi.fresh]; simp), if_neg (by simp), if_pos rfl]
  unfold commitM
  rw [if_pos (by simp [hwy]), hwy]
end Go.Proofs.YtcikhnkehglkgaaGreatDoor
