/- PROVED: law07's made; the plain law of ShadowWrites; how many sectors a shadow's disk wrote, as a step. No conditions beyond those that each theorem states. -/
import Derived.Test.YtcikhnkehglkgaaGreatDoorShS
import Derived.Test.YtcikhnkehglkgaaGreatDoorDkWr
namespace Go.Proofs.YtcikhnkehglkgaaGreatDoor
open Go.RowKit Go.Proofs.YtcikhnkehglkgaaGreatDoorLib Go.Shelf
set_option linter.unusedSimpArgs false
set_option linter.unusedVariables false

theorem sess_writes {w V : World} {n b q : Nat} {e f g : Int} {d : DiskS} {h : ShS} {L : List (Nat × Value × List Int)} (s : Sess w V n b q e f g d h L) : Calls Tryz.prog 27 #[pt b] V (fun ee V' => ee = .returned (.int .i64 d.writes) ∧ Sess w V' n b q e f g d h L) := by
  obtain ⟨A, a1, _⟩ := s.ex
  obtain ⟨⟨F, hF, _⟩, _⟩ := a1.st
  refine (writes_any V b F d hF).mono ?_
  rintro _ V' ⟨_, rfl, rfl, k⟩
  exact ⟨rfl, s.kept0 k⟩
theorem writes_go {s : DiskS} {h : ShS} {e f g : Int} (hi : ShInv s h e f g) {l : List Int} (hl : l.length = gTotal e f g) (hB : Bts l) : (layS s (1 - h.which) e f g (h.seq + 1) l).1.writes = s.writes + spanN s.size e f g := by
  have hwo : 1 - h.which = 0 ∨ 1 - h.which = 1 := by have := hi.wh; omega
  have lk := layS_ok hi.nf hi.cl hi.s2 (atWhy_other hi.ok hwo) hl hB (h.seq + 1)
  have hw := (layS_writes s (1 - h.which) e f g (h.seq + 1) l).2 lk.1
  rw [hw, slot_span hi.s2 hi.ok, hl]; omega
/-- a Commit that may fail -/
theorem writes_fin {s : DiskS} {h : ShS} {e f g : Int} (hi : ShInv s h e f g) (hq : h.seq < 18446744073709551615) {y : List Int} (hl : y.length = gTotal e f g) (hB : Bts y) (F : Int) :
    ((commitM (s.fail F) h e f g y).2.2 = 0 ∨ (commitM (s.fail F) h e f g y).2.2 = 3) ∧ (commitM (s.fail F) h e f g y).1.writes ≤ s.writes + spanN s.size e f g := by
  have hwo : 1 - h.which = 0 ∨ 1 - h.which = 1 := by have := hi.wh; omega
  have hsp := slot_span hi.s2 hi.ok
  have r := layS_ran (s := s.fail F) (which := 1 - h.which) (e := e) (f := f) (g := g) hi.s2 (atWhy_other (s := s) hi.ok hwo) hl hB (h.seq + 1)
  have hw := (layS_writes (s.fail F) (1 - h.which) e f g (h.seq + 1) y).1
  have e1 : (s.fail F).writes = s.writes := rfl
  have e2 : (s.fail F).size = s.size := rfl
  rw [e1, e2, hl] at hw
  have hcw : commitWhy h y = 0 ∨ commitWhy h y = -1 := by
    unfold commitWhy
    rw [if_neg (by rw [hi.fresh]; simp), if_neg (by rw [hl, hi.len]; simp)]
    by_cases c : y = h.now
    · rw [if_pos c]; exact .inl rfl
    · rw [if_neg c, if_neg (by omega)]; exact .inr rfl
  unfold commitM
  rcases hcw with c | c
  · rw [if_pos (by rw [c]; decide)]
    exact ⟨.inl c, by show s.writes ≤ _; omega⟩
  · rw [if_neg (by rw [c]; simp)]
    by_cases hz : (layS (s.fail F) (1 - h.which) e f g (h.seq + 1) y).2 ≠ 0
    · rw [if_pos hz]
      exact ⟨.inr (r.no hz).1, by show (layS _ _ _ _ _ _ _).1.writes ≤ _; omega⟩
    · rw [if_neg hz]
      exact ⟨.inl rfl, by show (layS _ _ _ _ _ _ _).1.writes ≤ _; omega⟩
theorem xor_u8 (a : Int) : 0 ≤ bits BinOp.xor IntKind.u8 a 1 ∧ bits BinOp.xor IntKind.u8 a 1 ≤ 255 := by
  unfold bits
  simp only [IntKind.wrap_u8]
  omega
set_option maxRecDepth 100000 in
set_option maxHeartbeats 1000000 in
/-- law07's made -/
theorem made_any (w : World) (v : Value) (b off : Nat) (l : List Int) (hs : Sl .u8 w v b off l) (m : Nat) (hm : m ≤ 1000000) :
    Calls Tryz.prog 19 #[v, .int .i64 m] w (Post w [] fun v' W => Own 5 .u8 W w.heap.size v' (splice (List.replicate m 0) 0 (l.take m))) := by
  obtain ⟨i0, hi8, hz0, hz1, hz2⟩ := info_parts info8
  obtain ⟨w1, hmk, hrow, k1⟩ := make_own (P := Tryz.prog) (k := .u8) Tryz.underlying27 hi8 hz0 hz1 (by omega) m (by omega) w
  obtain ⟨w2, hcp, hrow2, k2⟩ := hrow.copy (P := Tryz.prog) (g := w.heap.size) rfl 27 27 3 5 Tryz.underlying27 (by kernel_rfl) 0 m m (hs.kept k1 (.inr (by simp))) (by simp; omega)
  have HR := Lib.hid (And.intro hrow2 ((k1.mono (S2 := [w.heap.size]) (by simp)).trans k2 (by simp)))
  obtain ⟨Ar, cr, rfl⟩ := hs.form
  clear hs hi8 hz0 hz1 hz2 hrow k1 hrow2 k2
  go_enter Tryz.func19, Tryz.ntmps19
  go_wp2_with fail
  go_ret
  exact ⟨_, rfl, HR.out.1, HR.out.2.mono (fun b hb => by simp at hb; subst hb; exact .inr (Nat.le_refl _))⟩
/-- bytes of the caller's own, made -/
theorem Sess.own {w V V' : World} {n b q : Nat} {e f g : Int} {d : DiskS} {h : ShS} {L : List (Nat × Value × List Int)} (s : Sess w V n b q e f g d h L) (k : Kept V V' []) {v : Value} {l : List Int} (ho : Own 5 .u8 V' V.heap.size v l) : ∃ p, Sess w V' n b q e f g d h ((p, v, l) :: L) := by
  obtain ⟨p, hs, hp⟩ := ho.sl
  refine ⟨p, s.held k ?_ hs⟩
  by_cases e0 : l = []
  · exact .inl e0
  · exact .inr ⟨(hp.resolve_left e0).2, hs.lt e0⟩
theorem sess_made {w V : World} {n b q : Nat} {e f g : Int} {d : DiskS} {h : ShS} {L : List (Nat × Value × List Int)} (s : Sess w V n b q e f g d h L) (hn : w.heap.size = n) {v : Value} {bq off : Nat} {l : List Int} (hs : Sl .u8 w v bq off l) (hb : l = [] ∨ bq < w.heap.size) (m : Nat) (hm : m ≤ 1000000) :
    Calls Tryz.prog 19 #[v, .int .i64 m] V (fun ee V' => ∃ v' p, ee = .returned v' ∧ Sess w V' n b q e f g d h ((p, v', splice (List.replicate m 0) 0 (l.take m)) :: L)) := by
  refine (made_any V v bq off l (s.k.sl hs (hb.imp id (fun h hx => by omega))) m hm).mono ?_
  rintro _ V' ⟨v', rfl, ho, k⟩
  obtain ⟨p, s'⟩ := s.own k ho
  exact ⟨v', p, rfl, s'⟩
theorem made_len (m : Nat) (l : List Int) : (splice (List.replicate m 0) 0 (l.take m)).length = m := by
  rw [length_splice _ _ _ (by simp; omega)]; simp
theorem made_bts {l : List Int} (hB : Bts l) (m : Nat) : Bts (splice (List.replicate m 0) 0 (l.take m)) := by
  intro x hx
  unfold splice at hx
  rcases List.mem_append.1 hx with h | h
  · simp at h
  rcases List.mem_append.1 h with h | h
  · exact hB x (List.mem_of_mem_take h)
  · have h1 := List.mem_of_mem_drop h
    have h2 := List.eq_of_mem_replicate h1
    omega
/-- each byte's bit, the first k -/
def xorK (X : List Int) (k : Nat) : List Int := (X.take k).map (fun a => bits BinOp.xor IntKind.u8 a 1) ++ X.drop k
theorem xorK_zero (X : List Int) : xorK X 0 = X := by simp [xorK]
theorem xorK_len (X : List Int) (k : Nat) : (xorK X k).length = X.length := by simp [xorK]; omega
theorem xorK_at (X : List Int) (k : Nat) (a : Int) (h : X[k]? = some a) : (xorK X k)[k]? = some a := by
  have hk : k < X.length := (List.getElem?_eq_some_iff.1 h).1
  unfold xorK
  rw [List.getElem?_append_right (by simp; omega)]
  simp only [List.length_map, List.length_take]
  rw [List.getElem?_drop, show k + (k - min k X.length) = k by omega, h]
theorem xorK_step (X : List Int) (k : Nat) (a : Int) (h : X[k]? = some a) : (xorK X k).set k (bits BinOp.xor IntKind.u8 a 1) = xorK X (k + 1) := by
  have hk : k < X.length := (List.getElem?_eq_some_iff.1 h).1
  have e : X[k] = a := (List.getElem?_eq_some_iff.1 h).2
  unfold xorK
  rw [List.set_append_right _ _ (by simp; omega), List.take_add_one, h]
  simp only [List.length_map, List.length_take]
  rw [show k - min k X.length = 0 by omega, List.drop_eq_getElem_cons hk, List.set_cons_zero]
  simp
theorem xorK_bts {X : List Int} (hB : Bts X) (k : Nat) : Bts (xorK X k) := by
  intro x hx
  unfold xorK at hx
  rcases List.mem_append.1 hx with h | h
  · obtain ⟨a, _, rfl⟩ := List.mem_map.1 h
    exact xor_u8 a
  · exact hB x (List.mem_of_mem_drop h)
/-- a Commit that tells OK, of what is current and of what isn't -/
theorem sess_commits {w : World} {n : Nat} {s : DiskS} {h : ShS} {e f g : Int} (hi : ShInv s h e f g) (ho : s.ops < 400000000) (ht : gTotal e f g ≤ 8192) (hq : h.seq < 18446744073709551615) {l : List Int} (hl : l.length = gTotal e f g) (hB : Bts l) :
    ∃ t h2, ShInv t h2 e f g ∧ h2.now = l ∧ h2.seq ≤ h.seq + 1 ∧ t.ops ≤ s.ops + 8195 ∧ t.size = s.size ∧ t.marks = s.marks ∧ t.plan = s.plan ∧ (l = h.now → t = s ∧ h2 = h) ∧ (l ≠ h.now → t.writes = s.writes + spanN s.size e f g ∧ h2 = ⟨l, h.seq + 1, 1 - h.which, false⟩) ∧ ∀ (V : World) (b q : Nat) (L : List (Nat × Value × List Int)) (_ : Sess w V n b q e f g s h L) (bq : Nat) (v : Value) (_ : (bq, v, l) ∈ L),
      Calls Tryz.prog 21 #[pt q, v] V (fun ee V' => ee = .returned (.int .i64 0) ∧ Sess w V' n b q e f g t h2 L) := by
  by_cases hc : l = h.now
  · refine ⟨s, h, hi, hc.symm, by omega, by omega, rfl, rfl, rfl, fun _ => ⟨rfl, rfl⟩, fun h => absurd hc h, fun V b q L S bq v hm => ?_⟩
    obtain ⟨A, a1, a2, a3⟩ := S.ex
    refine (commit_cur hi (by omega) ht A V b q v bq 0 a1 S.geo (by rw [← hc]; exact S.sls _ hm)).mono ?_
    rintro ee V' ⟨rfl, k⟩
    exact ⟨rfl, S.kept0 k⟩
  · obtain ⟨t, i2, k2, et, c⟩ := commit_go hi (by omega) ht hl hB hc hq
    have hwo : 1 - h.which = 0 ∨ 1 - h.which = 1 := by have := hi.wh; omega
    have hr := layS_ran (s := s) (which := 1 - h.which) (e := e) (f := f) (g := g) hi.s2 (atWhy_other (s := s) hi.ok hwo) hl hB (h.seq + 1)
    have hsc : secs l.length s.size ≤ 8192 := by rw [hl]; exact Nat.le_trans (secs_le _ _ (by have := (atWhy_yes hi.ok).2.2.1; omega)) ht
    refine ⟨t, _, i2, rfl, by simp only; omega, by have := k2.ops; omega, k2.size, by rw [et]; exact hr.marks, k2.plan, fun h => absurd h hc, fun _ => ⟨by rw [et]; exact writes_go hi hl hB, rfl⟩, fun V b q L S bq v hm => ?_⟩
    obtain ⟨A, a1, a2, a3⟩ := S.ex
    have hng := S.ng
    refine (c A V b q v bq 0 a1 S.geo (fun x hx => by have := a2 x hx; omega) (S.sls _ hm) ((a3 _ hm).imp id (fun h => ⟨h.1, h.2.1⟩))).mono ?_
    rintro ee V' ⟨rfl, k, B, h1, h2⟩
    exact ⟨rfl, S.on a2 a3 k h1 h2⟩
end Go.Proofs.YtcikhnkehglkgaaGreatDoor
