/- PROVED: a shadow at work: the world, the disk, the chips' sizes, and the bytes that are held beside; each function of a shadow as one step. No conditions beyond those that each theorem states. -/
import Derived.Test.YtcikhnkehglkgaaGreatDoorShM
import Derived.Test.YtcikhnkehglkgaaGreatDoorRw
namespace Go.Proofs.YtcikhnkehglkgaaGreatDoor
open Go.RowKit Go.Proofs.YtcikhnkehglkgaaGreatDoorLib Go.Shelf
set_option linter.unusedSimpArgs false
set_option linter.unusedVariables false

/-- bytes behind an empty row -/
theorem fresh_copy {W : World} {sv : Value} {bs so : Nat} {l : List Int} (hs : Sl .u8 W sv bs so l) (hl : l.length ≤ 1000000) :
    ∃ v' W', (Builtin.append_ #[27, 27] 27 #[.slice (some ⟨W.heap.size, 0, none⟩) 0 0, sv]).run Tryz.prog (W.alloc (.cells #[] 5)) = .ok v' W' ∧ Own 5 .u8 W' W.heap.size v' l ∧ Kept W W' [] := by
  obtain ⟨i0, hi, hz0, hz1, hz2⟩ := info_parts info8
  have hE : Own 5 .u8 (W.alloc (.cells #[] 5)) W.heap.size (.slice (some ⟨W.heap.size, 0, none⟩) 0 0) [] := World.ownsRow_made (base := W.heap.size) (e := 5) (size := 1) W #[] 0 (Nat.le_refl _) (Nat.zero_le _) rfl
  have kE : Kept W (W.alloc (.cells #[] 5)) [] := (Kept.refl _ _).alloc _
  obtain ⟨v7, w7, hap, ho7, k7⟩ := own_append (P := Tryz.prog) Tryz.underlying27 hi hz0 hz1 hz2 hE (hs.kept kE (.inr (by simp))) (by simp; omega) (by unfold maxLen; simp; omega) (by simp) 27
  rw [List.nil_append] at ho7
  exact ⟨v7, w7, hap, ho7, kE.trans k7 (by simp [Value.ownBlock])⟩
structure Sess (w V : World) (n b q : Nat) (e f g : Int) (d : DiskS) (h : ShS) (L : List (Nat × Value × List Int)) : Prop where
  ex : ∃ A : Nat → Prop, ShX A V b q e f g d h ∧ (∀ x, A x → n + 1 ≤ x) ∧ ∀ p, p ∈ L → (p.2.2 = [] ∨ (¬ A p.1 ∧ p.1 ≠ q ∧ p.1 < V.heap.size))
  geo : GeoLaid V
  blk : Blk V n 23 [.int .i64 e, .int .i64 f, .int .i64 g]
  k : KeptA (fun x => n + 1 ≤ x) w V
  sls : ∀ p, p ∈ L → Sl .u8 V p.2.1 p.1 0 p.2.2
  qn : n + 1 ≤ q
  ng : nGlobals ≤ n
theorem Sess.kept0 {w V V' : World} {n b q : Nat} {e f g : Int} {d : DiskS} {h : ShS} {L : List (Nat × Value × List Int)} (s : Sess w V n b q e f g d h L) (k : Kept V V' []) : Sess w V' n b q e f g d h L := by
  obtain ⟨A, a1, a2, a3⟩ := s.ex
  exact ⟨⟨A, a1.kept0 k, a2, fun p hp => (a3 p hp).imp id (fun h => ⟨h.1, h.2.1, Nat.lt_of_lt_of_le h.2.2 k.size⟩)⟩, s.geo.kept k (by simp), s.blk.kept k (by simp), s.k.trans (KeptA.of0 k), fun p hp => (s.sls p hp).kept k (.inr (by simp)), s.qn, s.ng⟩
/-- bytes of the caller's own, made and then turned -/
theorem Sess.push {w V V' V2 : World} {n b q : Nat} {e f g : Int} {d : DiskS} {h : ShS} {L : List (Nat × Value × List Int)} (s : Sess w V n b q e f g d h L) (k : Kept V V' []) {p : Nat} (hp : V.heap.size ≤ p ∧ p < V'.heap.size) (k2 : Kept V' V2 [p]) {v : Value} {l : List Int} (hs : Sl .u8 V2 v p 0 l) : Sess w V2 n b q e f g d h ((p, v, l) :: L) := by
  obtain ⟨A, a1, a2, a3⟩ := s.ex
  have hnV := s.blk.lt
  refine ⟨⟨_, a1.own_turn k p hp k2, fun x hx => a2 x hx.1, fun r hr => ?_⟩, (s.geo.kept k (by simp)).kept k2 (fun x hx => by simp at hx; have := s.ng; omega), (s.blk.kept k (by simp)).kept k2 (by simp; omega), (s.k.trans (KeptA.of0 k)).trans (KeptA.of k2 (fun x hx => by simp at hx; omega)), fun r hr => ?_, s.qn, s.ng⟩
  · rcases List.mem_cons.1 hr with rfl | hr
    · exact .inr ⟨fun hx => hx.2.elim (fun h => h rfl) id, by have := a1.qlt; simp only; omega, Nat.lt_of_lt_of_le hp.2 k2.size⟩
    · exact (a3 r hr).imp id (fun h => ⟨fun hx => h.1 hx.1, h.2.1, by have h1 := h.2.2; have h2 := k.size; have h3 := k2.size; omega⟩)
  · rcases List.mem_cons.1 hr with rfl | hr
    · exact hs
    · exact ((s.sls r hr).kept k (.inr (by simp))).kept k2 ((a3 r hr).imp id (fun h => by have := h.2.2; simp; omega))
theorem Sess.held {w V V' : World} {n b q : Nat} {e f g : Int} {d : DiskS} {h : ShS} {L : List (Nat × Value × List Int)} (s : Sess w V n b q e f g d h L) (k : Kept V V' []) {p : Nat} {v : Value} {l : List Int} (hp : l = [] ∨ (V.heap.size ≤ p ∧ p < V'.heap.size)) (hs : Sl .u8 V' v p 0 l) : Sess w V' n b q e f g d h ((p, v, l) :: L) := by
  obtain ⟨A, a1, a2, a3⟩ := s.ex
  refine ⟨⟨_, a1.hold_new k p (l = []) hp, fun x hx => a2 x hx.1, fun r hr => ?_⟩, s.geo.kept k (by simp), s.blk.kept k (by simp), s.k.trans (KeptA.of0 k), fun r hr => ?_, s.qn, s.ng⟩
  · rcases List.mem_cons.1 hr with rfl | hr
    · by_cases e0 : l = []
      · exact .inl e0
      · have h1 := hp.resolve_left e0
        exact .inr ⟨fun hx => hx.2.elim (fun h => h rfl) e0, by have := a1.qlt; simp only; omega, h1.2⟩
    · exact (a3 r hr).imp id (fun h => ⟨fun hx => h.1 hx.1, h.2.1, Nat.lt_of_lt_of_le h.2.2 k.size⟩)
  · rcases List.mem_cons.1 hr with rfl | hr
    · exact hs
    · exact (s.sls r hr).kept k (.inr (by simp))
/-- the disk's own turned, and the shadow's block -/
theorem Sess.on {w V V' : World} {n b q : Nat} {e f g : Int} {d t : DiskS} {h h' : ShS} {L : List (Nat × Value × List Int)} {A B : Nat → Prop} (s : Sess w V n b q e f g d h L) (a2 : ∀ x, A x → n + 1 ≤ x) (a3 : ∀ p, p ∈ L → (p.2.2 = [] ∨ (¬ A p.1 ∧ p.1 ≠ q ∧ p.1 < V.heap.size))) (k : KeptA (fun x => A x ∨ x = q) V V') (hB : ∀ x, B x → A x) (hX : ShX B V' b q e f g t h') : Sess w V' n b q e f g t h' L := by
  have hq := s.qn
  have hn := s.ng
  have hU : ∀ x, (A x ∨ x = q) → n + 1 ≤ x := fun x hx => hx.elim (a2 x) (fun h => by omega)
  exact ⟨⟨B, hX, fun x hx => a2 x (hB x hx), fun p hp => (a3 p hp).imp id (fun h => ⟨fun hx => h.1 (hB _ hx), h.2.1, Nat.lt_of_lt_of_le h.2.2 k.size⟩)⟩, k.geo s.geo (fun x hx => by have := hU x hx; omega), k.blk s.blk (fun hx => by have := hU _ hx; omega), s.k.trans (k.mono hU), fun p hp => k.sl (s.sls p hp) ((a3 p hp).imp id (fun h hx => hx.elim h.1 h.2.1)), hq, hn⟩
theorem sess_image {w V : World} {n b q : Nat} {e f g : Int} {d : DiskS} {h : ShS} {L : List (Nat × Value × List Int)} (s : Sess w V n b q e f g d h L) (hl : h.now.length ≤ 1000000) :
    Calls Tryz.prog 16 #[pt q] V (fun ee V' => ∃ v nb, ee = .returned v ∧ Sess w V' n b q e f g d h ((nb, v, h.now) :: L)) := by
  obtain ⟨A, a1, a2, a3⟩ := s.ex
  refine (image_x a1 hl).mono ?_
  rintro ee V' ⟨v, nb, rfl, _, hs, hnb, k⟩
  exact ⟨v, nb, rfl, s.held k (hnb.imp id (fun h => h.2)) hs⟩
theorem sess_seq {w V : World} {n b q : Nat} {e f g : Int} {d : DiskS} {h : ShS} {L : List (Nat × Value × List Int)} (s : Sess w V n b q e f g d h L) : Calls Tryz.prog 17 #[pt q] V (fun ee V' => ee = .returned (.int .u64 h.seq) ∧ V = V') := by
  obtain ⟨A, a1, _⟩ := s.ex
  exact seq_x a1
theorem sess_which {w V : World} {n b q : Nat} {e f g : Int} {d : DiskS} {h : ShS} {L : List (Nat × Value × List Int)} (s : Sess w V n b q e f g d h L) : Calls Tryz.prog 18 #[pt q] V (fun ee V' => ee = .returned (.int .i64 h.which) ∧ V = V') := by
  obtain ⟨A, a1, _⟩ := s.ex
  exact which_x a1
theorem sess_stale {w V : World} {n b q : Nat} {e f g : Int} {d : DiskS} {h : ShS} {L : List (Nat × Value × List Int)} (s : Sess w V n b q e f g d h L) : Calls Tryz.prog 26 #[pt q] V (fun ee V' => ee = .returned (.bool h.stale) ∧ V = V') := by
  obtain ⟨A, a1, _⟩ := s.ex
  exact stale_x a1
theorem sess_commit {w V : World} {n b q : Nat} {e f g : Int} {d : DiskS} {h : ShS} {L : List (Nat × Value × List Int)} (s : Sess w V n b q e f g d h L) (ho : d.ops < 500000000) (q0 : 0 ≤ h.seq) (q1 : h.seq ≤ 18446744073709551615) (w0 : -1 ≤ h.which) (w1 : h.which ≤ 2) (hnB : Bts h.now) (hnl : h.now.length ≤ 100000) {bq : Nat} {v : Value} {l : List Int} (hm : (bq, v, l) ∈ L) (hB : Bts l) (hl : l.length ≤ 100000) :
    Calls Tryz.prog 21 #[pt q, v] V (fun ee V' => ee = .returned (.int .i64 (commitM d h e f g l).2.2) ∧ Sess w V' n b q e f g (commitM d h e f g l).1 (commitM d h e f g l).2.1 L) := by
  obtain ⟨A, a1, a2, a3⟩ := s.ex
  have hng := s.ng
  refine (commit_any a1 s.geo (fun x hx => by have := a2 x hx; omega) ho q0 q1 w0 w1 v bq 0 l (s.sls _ hm) ((a3 _ hm).imp id (fun h => ⟨h.1, h.2.1⟩)) hB hnB hl hnl).mono ?_
  rintro ee V' ⟨rfl, k, B, h1, h2⟩
  exact ⟨rfl, s.on a2 a3 k h1 h2⟩
theorem sess_ops {w V : World} {n b q : Nat} {e f g : Int} {d : DiskS} {h : ShS} {L : List (Nat × Value × List Int)} (s : Sess w V n b q e f g d h L) : Calls Tryz.prog 25 #[pt b] V (fun ee V' => ee = .returned (.int .i64 d.ops) ∧ Sess w V' n b q e f g d h L) := by
  obtain ⟨A, a1, _⟩ := s.ex
  obtain ⟨⟨F, hF, _⟩, _⟩ := a1.st
  refine (ops_any V b F d hF).mono ?_
  rintro _ V' ⟨_, rfl, rfl, k⟩
  exact ⟨rfl, s.kept0 k⟩
theorem sess_fail {w V : World} {n b q : Nat} {e f g : Int} {d : DiskS} {h : ShS} {L : List (Nat × Value × List Int)} (s : Sess w V n b q e f g d h L) (hm : d.marks < 1000000000) (m : Int) (h0 : -9223372036854775808 ≤ m) (h1 : m ≤ 9223372036854775807) : Calls Tryz.prog 24 #[pt b, .int .i64 m] V (fun ee V' => ee = .returned (.tuple #[]) ∧ Sess w V' n b q e f g (d.fail m) h L) := by
  obtain ⟨A, a1, a2, a3⟩ := s.ex
  obtain ⟨⟨F, hF, hFA⟩, hU⟩ := a1.st
  refine (fail_any V b F d hF hm m h0 h1).mono ?_
  rintro _ V' ⟨_, rfl, ⟨rfl, hd⟩, k⟩
  have kA : KeptA A V V' := KeptA.of k hFA
  exact ⟨rfl, s.on a2 a3 (kA.mono (fun x hx => .inl hx)) (fun x hx => hx) (a1.on (B := A) ⟨⟨F, hd, hFA⟩, fun x hx => hU x (Nat.le_trans k.size hx)⟩ kA)⟩
theorem sess_open {w V : World} {n b q : Nat} {e f g : Int} {d t : DiskS} {h h' : ShS} {L : List (Nat × Value × List Int)} (s : Sess w V n b q e f g d h L)
    (c : ∀ (A : Nat → Prop) (W : World) (b : Nat), St A W b d → GeoLaid W → (∀ x, A x → nGlobals ≤ x) → Calls Tryz.prog 15 #[pt b, .agg #[.int .i64 e, .int .i64 f, .int .i64 g]] W (OpenX A W b e f g t h')) :
    Calls Tryz.prog 15 #[pt b, .agg #[.int .i64 e, .int .i64 f, .int .i64 g]] V (fun ee V' => ∃ q', ee = .returned (.tuple #[pt q', .int .i64 0]) ∧ Sess w V' n b q' e f g t h' L) := by
  obtain ⟨A, a1, a2, a3⟩ := s.ex
  have hng := s.ng
  have hlt := s.blk.lt
  refine (c A V b a1.st s.geo (fun x hx => by have := a2 x hx; omega)).mono ?_
  rintro ee V' ⟨k, q', bq, rfl, hX, hq', _⟩
  exact ⟨q', rfl, ⟨⟨_, hX, fun x hx => a2 x hx.1, fun p hp => (a3 p hp).imp id (fun h => ⟨fun hx => h.1 hx.1, by omega, Nat.lt_of_lt_of_le h.2.2 k.size⟩)⟩, k.geo s.geo (fun x hx => by have := a2 x hx; omega), k.blk s.blk (fun hx => by have := a2 _ hx; omega), s.k.trans (k.mono a2), fun p hp => k.sl (s.sls p hp) ((a3 p hp).imp id (fun h => h.1)), by omega, hng⟩⟩
theorem sess_start {w W V : World} {n b : Nat} {e f g : Int} {t : DiskS} {h : ShS} {ee : Ending} (hO : OpenX (fun x => n + 1 ≤ x) W b e f g t h ee V) (hg : GeoLaid W) (hb : Blk W n 23 [.int .i64 e, .int .i64 f, .int .i64 g]) (k : KeptA (fun x => n + 1 ≤ x) w W) (hn : nGlobals ≤ n) :
    ∃ q, ee = .returned (.tuple #[pt q, .int .i64 0]) ∧ Sess w V n b q e f g t h [] := by
  obtain ⟨kO, q, bq, rfl, hX, hq, _⟩ := hO
  have hlt := hb.lt
  exact ⟨q, rfl, ⟨⟨_, hX, fun x hx => hx.1, fun p hp => (by cases hp)⟩, kO.geo hg (fun x hx => by omega), kO.blk hb (by omega), k.trans kO, fun p hp => (by cases hp), by omega, hn⟩⟩
end Go.Proofs.YtcikhnkehglkgaaGreatDoor
