/- PROVED: the plain laws of a shadow where an operation may fail: how many operations, what is written, what stays. No conditions beyond those that each theorem states. -/
import Derived.Test.YtcikhnkehglkgaaGreatDoorShQ
namespace Go.Proofs.YtcikhnkehglkgaaGreatDoor
open Go.RowKit Go.Proofs.YtcikhnkehglkgaaGreatDoorLib
set_option linter.unusedSimpArgs false
set_option linter.unusedVariables false

/-- a disk without its plans -/
def _root_.Go.Proofs.YtcikhnkehglkgaaGreatDoorLib.DiskS.bare (s : DiskS) : DiskS := { s with plan := fun _ => false }
theorem bare_nofail (s : DiskS) : s.bare.NoFail := fun _ _ => rfl
theorem bare_fails (s : DiskS) : s.bare.fails = false := rfl
theorem write_bare {s : DiskS} {i : Int} {l : List Int} (h : (s.write i l).2 ≠ 3) : s.bare.write i l = ((s.write i l).1.bare, (s.write i l).2) := by
  unfold DiskS.write at *
  by_cases hf : s.fails = true
  · rw [if_pos hf] at h; exact absurd rfl h
  rw [if_neg hf, if_neg (show ¬ s.bare.fails = true by rw [bare_fails]; simp)]
  by_cases h1 : i < 0
  · rw [if_pos h1, if_pos h1]; rfl
  rw [if_neg h1, if_neg h1]
  by_cases h2 : (s.last.length : Int) ≤ i
  · rw [if_pos h2, if_pos (show (s.bare.last.length : Int) ≤ i from h2)]; rfl
  rw [if_neg h2, if_neg (show ¬ (s.bare.last.length : Int) ≤ i from h2)]
  by_cases h3 : l.length ≠ s.size
  · rw [if_pos h3, if_pos (show l.length ≠ s.bare.size from h3)]; rfl
  rw [if_neg h3, if_neg (show ¬ l.length ≠ s.bare.size from h3)]
  rfl
theorem writesM_bare {s : DiskS} {a : Nat} {xs : List (List Int)} (h : (writesM s a xs).2 ≠ 3) : writesM s.bare a xs = ((writesM s a xs).1.bare, (writesM s a xs).2) := by
  induction xs generalizing s a with
  | nil => rfl
  | cons x xs ih =>
    by_cases hz : (s.write (a : Int) x).2 = 0
    · have e : writesM s a (x :: xs) = writesM (s.write (a : Int) x).1 (a + 1) xs := by rw [writesM, if_neg (by simp [hz])]
      have wb := write_bare (s := s) (i := a) (l := x) (by rw [hz]; decide)
      rw [e] at h ⊢
      rw [writesM, wb, if_neg (by simp [hz])]
      exact ih h
    · have e : writesM s a (x :: xs) = s.write (a : Int) x := by rw [writesM, if_pos hz]
      rw [e] at h ⊢
      rw [writesM, write_bare h, if_pos hz]
theorem sync_bare {s : DiskS} (h : s.sync.2 ≠ 3) : s.bare.sync = (s.sync.1.bare, s.sync.2) := by
  unfold DiskS.sync at *
  by_cases hf : s.fails = true
  · rw [if_pos hf] at h; exact absurd rfl h
  rw [if_neg hf, if_neg (show ¬ s.bare.fails = true by rw [bare_fails]; simp)]
  rfl
theorem dataM_bare {s : DiskS} {which e f g : Int} {l : List Int} (h : (dataM s which e f g l).2 ≠ 3) : dataM s.bare which e f g l = ((dataM s which e f g l).1.bare, (dataM s which e f g l).2) := by
  unfold dataM at *
  have e1 : atWhy s.bare which e f g = atWhy s which e f g := rfl
  rw [e1]
  by_cases h1 : atWhy s which e f g ≠ 0
  · rw [if_pos h1, if_pos h1]
  rw [if_neg h1] at h ⊢
  rw [if_neg h1]
  by_cases h2 : l.length ≠ gTotal e f g
  · rw [if_pos h2, if_pos h2]
  rw [if_neg h2] at h ⊢
  rw [if_neg h2]
  exact writesM_bare h
theorem sealM_bare {s : DiskS} {which e f g seq : Int} {l : List Int} (h : (sealM s which e f g seq l).2 ≠ 3) : sealM s.bare which e f g seq l = ((sealM s which e f g seq l).1.bare, (sealM s which e f g seq l).2) := by
  unfold sealM at *
  have e1 : atWhy s.bare which e f g = atWhy s which e f g := rfl
  rw [e1]
  by_cases h1 : atWhy s which e f g ≠ 0
  · rw [if_pos h1, if_pos h1]
  rw [if_neg h1] at h ⊢
  rw [if_neg h1]
  by_cases h2 : l.length ≠ gTotal e f g
  · rw [if_pos h2, if_pos h2]
  rw [if_neg h2] at h ⊢
  rw [if_neg h2]
  exact write_bare h
theorem wipeM_bare {s : DiskS} {which e f g : Int} (h : (wipeM s which e f g).2 ≠ 3) : wipeM s.bare which e f g = ((wipeM s which e f g).1.bare, (wipeM s which e f g).2) := by
  unfold wipeM at *
  have e1 : atWhy s.bare which e f g = atWhy s which e f g := rfl
  rw [e1]
  by_cases h1 : atWhy s which e f g ≠ 0
  · rw [if_pos h1, if_pos h1]
  rw [if_neg h1] at h ⊢
  rw [if_neg h1]
  exact write_bare h
theorem layS_bare {s : DiskS} {which e f g seq : Int} {l : List Int} (h : (layS s which e f g seq l).2 ≠ 3) : layS s.bare which e f g seq l = ((layS s which e f g seq l).1.bare, (layS s which e f g seq l).2) := by
  unfold layS at *
  by_cases h1 : (dataM s which e f g l).2 ≠ 0
  · rw [if_pos h1] at h ⊢
    rw [dataM_bare h, if_pos h1]
  rw [if_neg h1] at h ⊢
  rw [dataM_bare (show (dataM s which e f g l).2 ≠ 3 by omega)]
  simp only
  rw [if_neg h1]
  by_cases h2 : (dataM s which e f g l).1.sync.2 ≠ 0
  · rw [if_pos h2] at h ⊢
    rw [sync_bare h, if_pos h2]
  rw [if_neg h2] at h ⊢
  rw [sync_bare (show (dataM s which e f g l).1.sync.2 ≠ 3 by omega)]
  simp only
  rw [if_neg h2]
  by_cases h3 : (sealM (dataM s which e f g l).1.sync.1 which e f g seq l).2 ≠ 0
  · rw [if_pos h3] at h ⊢
    rw [sealM_bare h, if_pos h3]
  rw [if_neg h3] at h ⊢
  rw [sealM_bare (show (sealM (dataM s which e f g l).1.sync.1 which e f g seq l).2 ≠ 3 by omega)]
  simp only
  rw [if_neg h3]
  exact sync_bare h
theorem wipesM_bare {s : DiskS} {e f g : Int} (h : (wipesM s e f g).2 ≠ 3) : wipesM s.bare e f g = ((wipesM s e f g).1.bare, (wipesM s e f g).2) := by
  unfold wipesM at *
  by_cases h1 : (wipeM s 0 e f g).2 ≠ 0
  · rw [if_pos h1] at h ⊢
    rw [wipeM_bare h, if_pos h1]
  rw [if_neg h1] at h ⊢
  rw [wipeM_bare (show (wipeM s 0 e f g).2 ≠ 3 by omega)]
  simp only
  rw [if_neg h1]
  by_cases h2 : (wipeM (wipeM s 0 e f g).1 1 e f g).2 ≠ 0
  · rw [if_pos h2] at h ⊢
    rw [wipeM_bare h, if_pos h2]
  rw [if_neg h2] at h ⊢
  rw [wipeM_bare (show (wipeM (wipeM s 0 e f g).1 1 e f g).2 ≠ 3 by omega)]
  simp only
  rw [if_neg h2]
  exact sync_bare h
theorem formatM_bare {s : DiskS} {e f g : Int} (h : (formatM s e f g).2 ≠ 3) : formatM s.bare e f g = ((formatM s e f g).1.bare, (formatM s e f g).2) := by
  unfold formatM at *
  by_cases h1 : (wipesM s e f g).2 ≠ 0
  · rw [if_pos h1] at h ⊢
    rw [wipesM_bare h, if_pos h1]
  rw [if_neg h1] at h ⊢
  rw [wipesM_bare (show (wipesM s e f g).2 ≠ 3 by omega)]
  simp only
  rw [if_neg h1]
  exact layS_bare h
/-- how many operations were done, and whether one failed -/
structure Ran (s t : DiskS) (n : Nat) (er : Int) : Prop where
  size : t.size = s.size
  len : t.last.length = s.last.length
  cach : t.cach.length = s.cach.length
  plan : t.plan = s.plan
  marks : t.marks = s.marks
  lo : s.ops ≤ t.ops
  hi : t.ops ≤ s.ops + n
  ok : er = 0 → t.ops = s.ops + n ∧ ∀ m : Int, (s.ops : Int) < m → m ≤ (t.ops : Int) → s.plan m = false
  no : er ≠ 0 → er = 3 ∧ s.ops < t.ops ∧ s.plan (t.ops : Int) = true
theorem Ran.refl (s : DiskS) : Ran s s 0 0 := ⟨rfl, rfl, rfl, rfl, rfl, Nat.le_refl _, Nat.le_refl _, fun _ => ⟨rfl, fun m h1 h2 => by omega⟩, fun h => absurd rfl h⟩
theorem Ran.trans {s t u : DiskS} {n m : Nat} {e1 er : Int} (a : Ran s t n e1) (he : e1 = 0) (b : Ran t u m er) : Ran s u (n + m) er := by
  have ha := a.ok he
  refine ⟨b.size.trans a.size, b.len.trans a.len, b.cach.trans a.cach, b.plan.trans a.plan, b.marks.trans a.marks, by have := a.lo; have := b.lo; omega, by have := b.hi; omega, fun hz => ?_, fun hz => ?_⟩
  · have hb := b.ok hz
    refine ⟨by omega, fun m h1 h2 => ?_⟩
    by_cases hm : m ≤ (t.ops : Int)
    · exact ha.2 m h1 hm
    · rw [← a.plan]; exact hb.2 m (by omega) h2
  · have hb := b.no hz
    exact ⟨hb.1, by have := a.lo; omega, by rw [← a.plan]; exact hb.2.2⟩
theorem Ran.stop {s t : DiskS} {n m : Nat} {er : Int} (a : Ran s t n er) (he : er ≠ 0) (h : n ≤ m) : Ran s t m er :=
  ⟨a.size, a.len, a.cach, a.plan, a.marks, a.lo, by have := a.hi; omega, fun hz => absurd hz he, a.no⟩
theorem Ran.cl {s t : DiskS} {n : Nat} {er : Int} (h : Ran s t n er) (hc : s.cach.length = s.last.length) : t.cach.length = t.last.length := by rw [h.cach, h.len, hc]
theorem atWhy_ran {s t : DiskS} {n : Nat} {er : Int} (h : Ran s t n er) (which e f g : Int) : atWhy t which e f g = atWhy s which e f g := by
  unfold atWhy; rw [h.size, h.len]
theorem slotAt_ran {s t : DiskS} {n : Nat} {er : Int} (h : Ran s t n er) (which e f g : Int) : slotAt t which e f g = slotAt s which e f g := by
  unfold slotAt; rw [h.size]
theorem tick_ran {s : DiskS} (h : s.fails = true) : Ran s s.tick 1 3 :=
  ⟨rfl, rfl, rfl, rfl, rfl, Nat.le_succ _, Nat.le_refl _, fun h => absurd h (by decide), fun _ => ⟨rfl, Nat.lt_succ_self _, by
    have e : ((s.tick.ops : Nat) : Int) = (s.ops : Int) + 1 := by show (((s.ops + 1 : Nat)) : Int) = _; omega
    rw [e]; exact h⟩⟩
theorem Ran.one {s t : DiskS} (hf : s.fails = false) (k : Kin s t 1) (hm : t.marks = s.marks) : Ran s t 1 0 :=
  ⟨k.size, k.len, k.cach, k.plan, hm, by have := k.ops; omega, by have := k.ops; omega, fun _ => ⟨k.ops, fun m h1 h2 => by
    have e : m = (s.ops : Int) + 1 := by have := k.ops; omega
    rw [e]; exact hf⟩, fun h => absurd rfl h⟩
theorem write_ran {s : DiskS} {i : Nat} (hi : i < s.last.length) {l : List Int} (hl : l.length = s.size) : Ran s (s.write (i : Int) l).1 1 (s.write (i : Int) l).2 := by
  by_cases hf : s.fails = true
  · have e : s.write (i : Int) l = (s.tick, 3) := by unfold DiskS.write; rw [if_pos hf]
    rw [e]; exact tick_ran hf
  · have hf' : s.fails = false := by simpa using hf
    have w := write_wrote s (i : Int) l
    have e : (s.write (i : Int) l).2 = 0 := by rw [write_ok hf' hi hl]
    rw [e]
    exact Ran.one hf' w.kin w.marks
theorem sync_ran (s : DiskS) : Ran s s.sync.1 1 s.sync.2 := by
  by_cases hf : s.fails = true
  · have e : s.sync = (s.tick, 3) := by unfold DiskS.sync; rw [if_pos hf]
    rw [e]; exact tick_ran hf
  · have hf' : s.fails = false := by simpa using hf
    have y := sync_kin hf'
    rw [y.1]
    refine Ran.one hf' y.2 ?_
    unfold DiskS.sync; rw [if_neg hf]; rfl
theorem writesM_ran {s : DiskS} (a : Nat) (xs : List (List Int)) (hx : ∀ x, x ∈ xs → x.length = s.size) (ha : a + xs.length ≤ s.last.length) : Ran s (writesM s a xs).1 xs.length (writesM s a xs).2 := by
  induction xs generalizing s a with
  | nil => exact Ran.refl s
  | cons x xs ih =>
    simp only [List.length_cons] at ha ⊢
    have w := write_ran (s := s) (i := a) (by omega) (hx x (by simp))
    rw [writesM]
    by_cases hz : (s.write (a : Int) x).2 = 0
    · rw [if_neg (by simp [hz]), Nat.add_comm xs.length 1]
      exact w.trans hz (ih (a + 1) (fun y hy => by rw [w.size]; exact hx y (by simp [hy])) (by rw [w.len]; omega))
    · rw [if_pos hz]
      exact w.stop hz (by omega)
theorem data_ran {s : DiskS} {which e f g : Int} (hs2 : s.size ≤ 4096) (hw : atWhy s which e f g = 0) {l : List Int} (hl : l.length = gTotal e f g) (hB : Bts l) : Ran s (dataM s which e f g l).1 (secs l.length s.size) (dataM s which e f g l).2 := by
  have h32 := (atWhy_yes hw).2.2.1
  have hsp := slot_span hs2 hw
  have hf := slot_fits hw
  have hd : dataM s which e f g l = writesM s (slotAt s which e f g + 1) (imgL l s.size) := by unfold dataM; rw [if_neg (by simp [hw]), if_neg (by simp [hl])]
  have h := writesM_ran (s := s) (slotAt s which e f g + 1) (imgL l s.size) (fun x hx => (imgL_sec l s.size (by omega) hB x hx).1) (by rw [imgL_len, hl]; omega)
  rw [imgL_len] at h
  rw [hd]; exact h
theorem seal_ran {s : DiskS} {which e f g : Int} (hs2 : s.size ≤ 4096) (hw : atWhy s which e f g = 0) {l : List Int} (hl : l.length = gTotal e f g) (seq : Int) : Ran s (sealM s which e f g seq l).1 1 (sealM s which e f g seq l).2 := by
  have h32 := (atWhy_yes hw).2.2.1
  have hsp := slot_span hs2 hw
  have hf := slot_fits hw
  have hd : sealM s which e f g seq l = s.write (slotAt s which e f g : Int) (padL (encL e f g l.length seq (sumM l)) s.size) := by unfold sealM; rw [if_neg (by simp [hw]), if_neg (by simp [hl])]
  rw [hd]
  exact write_ran (by omega) (padL_len _ _ (by rw [encL_len]; omega))
theorem wipe_ran {s : DiskS} {which e f g : Int} (hs2 : s.size ≤ 4096) (hw : atWhy s which e f g = 0) : Ran s (wipeM s which e f g).1 1 (wipeM s which e f g).2 := by
  have hsp := slot_span hs2 hw
  have hf := slot_fits hw
  have hd : wipeM s which e f g = s.write (slotAt s which e f g : Int) (padL [] s.size) := by unfold wipeM; rw [if_neg (by simp [hw])]
  rw [hd]
  exact write_ran (by omega) (padL_len _ _ (by simp))
theorem layS_ran {s : DiskS} {which e f g : Int} (hs2 : s.size ≤ 4096) (hw : atWhy s which e f g = 0) {l : List Int} (hl : l.length = gTotal e f g) (hB : Bts l) (seq : Int) : Ran s (layS s which e f g seq l).1 (secs l.length s.size + 3) (layS s which e f g seq l).2 := by
  have a := data_ran hs2 hw hl hB
  unfold layS
  by_cases h1 : (dataM s which e f g l).2 ≠ 0
  · rw [if_pos h1]; exact a.stop h1 (by omega)
  have z1 : (dataM s which e f g l).2 = 0 := by omega
  rw [if_neg h1]
  have b := a.trans z1 (sync_ran _)
  by_cases h2 : (dataM s which e f g l).1.sync.2 ≠ 0
  · rw [if_pos h2]; exact b.stop h2 (by omega)
  have z2 : (dataM s which e f g l).1.sync.2 = 0 := by omega
  rw [if_neg h2]
  have c := b.trans z2 (seal_ran (by rw [b.size]; exact hs2) (by rw [atWhy_ran b]; exact hw) hl seq)
  by_cases h3 : (sealM (dataM s which e f g l).1.sync.1 which e f g seq l).2 ≠ 0
  · rw [if_pos h3]; exact c.stop h3 (by omega)
  have z3 : (sealM (dataM s which e f g l).1.sync.1 which e f g seq l).2 = 0 := by omega
  rw [if_neg h3]
  exact c.trans z3 (sync_ran _)
theorem wipes_ran {s : DiskS} {e f g : Int} (hs2 : s.size ≤ 4096) (hw : atWhy s 0 e f g = 0) : Ran s (wipesM s e f g).1 3 (wipesM s e f g).2 := by
  have a := wipe_ran hs2 hw
  unfold wipesM
  by_cases h1 : (wipeM s 0 e f g).2 ≠ 0
  · rw [if_pos h1]; exact a.stop h1 (by omega)
  have z1 : (wipeM s 0 e f g).2 = 0 := by omega
  rw [if_neg h1]
  have b := a.trans z1 (wipe_ran (by rw [a.size]; exact hs2) (by rw [atWhy_ran a]; exact atWhy_other hw (.inr rfl)))
  by_cases h2 : (wipeM (wipeM s 0 e f g).1 1 e f g).2 ≠ 0
  · rw [if_pos h2]; exact b.stop h2 (by omega)
  have z2 : (wipeM (wipeM s 0 e f g).1 1 e f g).2 = 0 := by omega
  rw [if_neg h2]
  exact b.trans z2 (sync_ran _)
theorem format_ran {s : DiskS} {e f g : Int} (hs2 : s.size ≤ 4096) (hw : atWhy s 0 e f g = 0) : Ran s (formatM s e f g).1 (secs (gTotal e f g) s.size + 6) (formatM s e f g).2 := by
  have hr := (atWhy_yes hw).1
  have a := wipes_ran hs2 hw
  unfold formatM
  by_cases h1 : (wipesM s e f g).2 ≠ 0
  · rw [if_pos h1]; exact a.stop h1 (by omega)
  have z1 : (wipesM s e f g).2 = 0 := by omega
  rw [if_neg h1]
  have b := a.trans z1 (layS_ran (s := (wipesM s e f g).1) (which := 0) (e := e) (f := f) (g := g) (by rw [a.size]; exact hs2) (by rw [atWhy_ran a]; exact hw) (facL_len hr) (facL_bts e f g) 1)
  rw [facL_len hr, a.size] at b
  have e1 : secs (gTotal e f g) s.size + 6 = 3 + (secs (gTotal e f g) s.size + 3) := by omega
  rw [e1]; exact b
/-- how many sectors are written -/
theorem write_writes (s : DiskS) (i : Int) (l : List Int) : (s.write i l).1.writes ≤ s.writes + 1 ∧ s.writes ≤ (s.write i l).1.writes ∧ ((s.write i l).2 = 0 → (s.write i l).1.writes = s.writes + 1) := by
  unfold DiskS.write
  split
  · exact ⟨Nat.le_succ _, Nat.le_refl _, fun h => absurd h (by simp)⟩
  split
  · exact ⟨Nat.le_succ _, Nat.le_refl _, fun h => absurd h (by simp)⟩
  split
  · exact ⟨Nat.le_succ _, Nat.le_refl _, fun h => absurd h (by simp)⟩
  split
  · exact ⟨Nat.le_succ _, Nat.le_refl _, fun h => absurd h (by simp)⟩
  · exact ⟨Nat.le_refl _, Nat.le_succ _, fun _ => rfl⟩
theorem writesM_writes (s : DiskS) (a : Nat) (xs : List (List Int)) : (writesM s a xs).1.writes ≤ s.writes + xs.length ∧ ((writesM s a xs).2 = 0 → (writesM s a xs).1.writes = s.writes + xs.length) := by
  induction xs generalizing s a with
  | nil => exact ⟨Nat.le_refl _, fun _ => rfl⟩
  | cons x xs ih =>
    have w := write_writes s (a : Int) x
    rw [writesM, List.length_cons]
    by_cases hz : (s.write (a : Int) x).2 = 0
    · rw [if_neg (by simp [hz])]
      have h := ih (s.write (a : Int) x).1 (a + 1)
      have w0 := w.2.2 hz
      exact ⟨by omega, fun h0 => by have := h.2 h0; omega⟩
    · rw [if_pos hz]
      exact ⟨by omega, fun h0 => absurd h0 hz⟩
theorem sync_writes (s : DiskS) : s.sync.1.writes = s.writes := by
  unfold DiskS.sync; split <;> rfl
theorem data_writes (s : DiskS) (which e f g : Int) (l : List Int) : (dataM s which e f g l).1.writes ≤ s.writes + secs l.length s.size ∧ ((dataM s which e f g l).2 = 0 → (dataM s which e f g l).1.writes = s.writes + secs l.length s.size) := by
  have h := writesM_writes s (slotAt s which e f g + 1) (imgL l s.size)
  rw [imgL_len] at h
  unfold dataM
  by_cases h1 : atWhy s which e f g ≠ 0
  · rw [if_pos h1]; exact ⟨Nat.le_add_right _ _, fun h0 => absurd h0 h1⟩
  rw [if_neg h1]
  by_cases h2 : l.length ≠ gTotal e f g
  · rw [if_pos h2]; exact ⟨Nat.le_add_right _ _, fun h0 => absurd h0 (by simp)⟩
  rw [if_neg h2]; exact h
theorem seal_writes (s : DiskS) (which e f g seq : Int) (l : List Int) : (sealM s which e f g seq l).1.writes ≤ s.writes + 1 ∧ ((sealM s which e f g seq l).2 = 0 → (sealM s which e f g seq l).1.writes = s.writes + 1) := by
  unfold sealM
  by_cases h1 : atWhy s which e f g ≠ 0
  · rw [if_pos h1]; exact ⟨Nat.le_succ _, fun h0 => absurd h0 h1⟩
  rw [if_neg h1]
  by_cases h2 : l.length ≠ gTotal e f g
  · rw [if_pos h2]; exact ⟨Nat.le_succ _, fun h0 => absurd h0 (by simp)⟩
  rw [if_neg h2]
  exact ⟨(write_writes _ _ _).1, (write_writes _ _ _).2.2⟩
theorem layS_writes (s : DiskS) (which e f g seq : Int) (l : List Int) : (layS s which e f g seq l).1.writes ≤ s.writes + secs l.length s.size + 1 ∧ ((layS s which e f g seq l).2 = 0 → (layS s which e f g seq l).1.writes = s.writes + secs l.length s.size + 1) := by
  have a := data_writes s which e f g l
  have b := sync_writes (dataM s which e f g l).1
  have c := seal_writes (dataM s which e f g l).1.sync.1 which e f g seq l
  have d := sync_writes (sealM (dataM s which e f g l).1.sync.1 which e f g seq l).1
  unfold layS
  by_cases h1 : (dataM s which e f g l).2 ≠ 0
  · rw [if_pos h1]; exact ⟨by omega, fun h0 => absurd h0 h1⟩
  rw [if_neg h1]
  have a2 := a.2 (by omega)
  by_cases h2 : (dataM s which e f g l).1.sync.2 ≠ 0
  · rw [if_pos h2]; exact ⟨by omega, fun h0 => absurd h0 h2⟩
  rw [if_neg h2]
  by_cases h3 : (sealM (dataM s which e f g l).1.sync.1 which e f g seq l).2 ≠ 0
  · rw [if_pos h3]; exact ⟨by omega, fun h0 => absurd h0 h3⟩
  rw [if_neg h3]
  have c2 := c.2 (by omega)
  exact ⟨by omega, fun _ => by omega⟩
/-- what stays -/
theorem write_get (s : DiskS) (i : Nat) (l : List Int) (j : Nat) (hj : j ≠ i) : (s.write (i : Int) l).1.get j = s.get j := by
  unfold DiskS.write
  split
  · rfl
  split
  · rfl
  split
  · rfl
  split
  · rfl
  · unfold DiskS.get
    simp only [Int.toNat_natCast, List.getElem?_set]
    rw [if_neg (fun e => hj e.symm)]
    rfl
theorem write_no (s : DiskS) (i : Int) (l : List Int) (h : (s.write i l).2 ≠ 0) : (s.write i l).1 = s.tick := by
  unfold DiskS.write at *
  split
  · rfl
  split
  · rfl
  split
  · rfl
  split
  · rfl
  · rename_i a b c d
    rw [if_neg a, if_neg b, if_neg c, if_neg d] at h
    exact absurd rfl h
theorem writesM_get (s : DiskS) (a : Nat) (xs : List (List Int)) (j : Nat) (hj : j < a ∨ a + xs.length ≤ j) : (writesM s a xs).1.get j = s.get j := by
  induction xs generalizing s a with
  | nil => rfl
  | cons x xs ih =>
    simp only [List.length_cons] at hj
    rw [writesM]
    split
    · exact write_get s a x j (by omega)
    · rw [ih _ _ (by omega)]; exact write_get s a x j (by omega)
theorem sync_get (s : DiskS) (hc : s.cach.length = s.last.length) (j : Nat) : s.sync.1.get j = s.get j := by
  by_cases hf : s.fails = true
  · unfold DiskS.sync; rw [if_pos hf]; rfl
  · exact get_sync (by simpa using hf) hc j
theorem dataG_get (s : DiskS) (which e f g : Int) (l : List Int) (j : Nat) (hj : j ≤ slotAt s which e f g ∨ slotAt s which e f g + 1 + secs l.length s.size ≤ j) : (dataM s which e f g l).1.get j = s.get j := by
  unfold dataM
  split
  · rfl
  split
  · rfl
  · exact writesM_get _ _ _ _ (by rw [imgL_len]; omega)
theorem sealG_get (s : DiskS) (which e f g seq : Int) (l : List Int) (j : Nat) (hj : j ≠ slotAt s which e f g) : (sealM s which e f g seq l).1.get j = s.get j := by
  unfold sealM
  split
  · rfl
  split
  · rfl
  · exact write_get _ _ _ _ hj
theorem sealG_no (s : DiskS) (which e f g seq : Int) (l : List Int) (h : (sealM s which e f g seq l).2 ≠ 0) (j : Nat) : (sealM s which e f g seq l).1.get j = s.get j := by
  unfold sealM at *
  split
  · rfl
  split
  · rfl
  · rename_i a b
    rw [if_neg a, if_neg b] at h
    rw [write_no _ _ _ h]; rfl
/-- what a lay leaves, failed or not -/
theorem layS_left {s : DiskS} (hc : s.cach.length = s.last.length) (hs2 : s.size ≤ 4096) {which e f g : Int} (hw : atWhy s which e f g = 0) {l : List Int} (hl : l.length = gTotal e f g) (hB : Bts l) (seq : Int) :
    (∀ j, (j < slotAt s which e f g ∨ slotAt s which e f g + spanN s.size e f g ≤ j) → (layS s which e f g seq l).1.get j = s.get j) ∧
    (((layS s which e f g seq l).2 ≠ 0 ∧ (layS s which e f g seq l).1.get (slotAt s which e f g) = s.get (slotAt s which e f g)) ∨ Sealed (layS s which e f g seq l).1 which e f g seq l) := by
  have hsp := slot_span hs2 hw
  have a := data_ran hs2 hw hl hB
  have dg := dataG_get s which e f g l
  have b := sync_ran (dataM s which e f g l).1
  have sg := sync_get (dataM s which e f g l).1 (a.cl hc)
  unfold layS
  by_cases h1 : (dataM s which e f g l).2 ≠ 0
  · rw [if_pos h1]
    exact ⟨fun j hj => dg j (by rw [hl]; omega), .inl ⟨h1, dg _ (.inl (Nat.le_refl _))⟩⟩
  rw [if_neg h1]
  have z1 : (dataM s which e f g l).2 = 0 := by omega
  by_cases h2 : (dataM s which e f g l).1.sync.2 ≠ 0
  · rw [if_pos h2]
    exact ⟨fun j hj => by rw [sg, dg j (by rw [hl]; omega)], .inl ⟨h2, by rw [sg, dg _ (.inl (Nat.le_refl _))]⟩⟩
  rw [if_neg h2]
  have z2 : (dataM s which e f g l).1.sync.2 = 0 := by omega
  have ab := a.trans z1 b
  have cg := sealG_get (dataM s which e f g l).1.sync.1 which e f g seq l
  have cn := sealG_no (dataM s which e f g l).1.sync.1 which e f g seq l
  rw [slotAt_ran ab] at cg
  by_cases h3 : (sealM (dataM s which e f g l).1.sync.1 which e f g seq l).2 ≠ 0
  · rw [if_pos h3]
    exact ⟨fun j hj => by rw [cn h3, sg, dg j (by rw [hl]; omega)], .inl ⟨h3, by rw [cn h3, sg, dg _ (.inl (Nat.le_refl _))]⟩⟩
  rw [if_neg h3]
  have z3 : (sealM (dataM s which e f g l).1.sync.1 which e f g seq l).2 = 0 := by omega
  have c := seal_ran (s := (dataM s which e f g l).1.sync.1) (by rw [ab.size]; exact hs2) (by rw [atWhy_ran ab]; exact hw) hl seq
  have abc := ab.trans z2 c
  have zg := sync_get (sealM (dataM s which e f g l).1.sync.1 which e f g seq l).1 (abc.cl hc)
  have zr := sync_ran (sealM (dataM s which e f g l).1.sync.1 which e f g seq l).1
  refine ⟨fun j hj => by rw [zg, cg j (by omega), sg, dg j (by rw [hl]; omega)], .inr ?_⟩
  -- the plans aside, nothing failed till the last sync
  obtain ⟨q1, q2, q3, q4⟩ := seal_law (s := s.bare) (bare_nofail s) hc hs2 (show atWhy s.bare which e f g = 0 from hw) hl hB seq
  rw [dataM_bare (show (dataM s which e f g l).2 ≠ 3 by omega)] at q2 q4
  obtain ⟨r1, r2, r3, r4⟩ := q4 (dataM s which e f g l).1.sync.1.bare 1 (by
    have y := sync_kin (s := (dataM s which e f g l).1.bare) rfl
    rw [sync_bare (show (dataM s which e f g l).1.sync.2 ≠ 3 by omega)] at y
    exact y.2) (fun j => sg j)
  rw [sealM_bare (show (sealM (dataM s which e f g l).1.sync.1 which e f g seq l).2 ≠ 3 by omega)] at r3
  refine ⟨?_, fun i hi => ?_⟩
  · rw [slotAt_ran zr, zg, zr.size]; exact r3.head
  · rw [zr.size] at hi ⊢
    rw [slotAt_ran zr, zg]; exact r3.body i hi
end Go.Proofs.YtcikhnkehglkgaaGreatDoor
