/- PROVED: the contract of a shadow's Commit of an unlike image. No conditions beyond those that each theorem states. -/
import Derived.Test.YtcikhnkehglkgaaGreatDoorShJ
namespace Go.Proofs.YtcikhnkehglkgaaGreatDoor
open Go.RowKit Go.Proofs.YtcikhnkehglkgaaGreatDoorLib Go.Shelf
set_option linter.unusedSimpArgs false
set_option linter.unusedVariables false

theorem enter_clone (cap : Array Value) (W : World) : (callFunc 56 cap).run Tryz.prog W = .ok (.enter 56 cap) W := enters_of Tryz.func56 (by kernel_rfl) rfl cap W
set_option maxRecDepth 100000 in
set_option maxHeartbeats 2000000 in
theorem commit_yes {A : Nat → Prop} {W : World} {b q : Nat} {s : DiskS} {e f g : Int} {h0 : ShS} (hX : ShX A W b q e f g s h0) (hg : GeoLaid W) (hA : ∀ x, A x → nGlobals ≤ x) (ho : s.ops < 500000000) (q0 : 0 ≤ h0.seq) (q1 : h0.seq ≤ 18446744073709551615) (w0 : -1 ≤ h0.which) (w1 : h0.which ≤ 2) (v : Value) (bq off : Nat) (l : List Int) (hs : Sl .u8 W v bq off l) (hq : l = [] ∨ (¬ A bq ∧ bq ≠ q)) (hB : Bts l) (hnB : Bts h0.now) (hl : l.length ≤ 100000) (hnl : h0.now.length ≤ 100000) (hw : commitWhy h0 l = -1) :
    Calls Tryz.prog 21 #[pt q, v] W (fun ee V => ee = .returned (.int .i64 (commitM s h0 e f g l).2.2) ∧ Committed A W V b q e f g (commitM s h0 e f g l)) := by
  have hmf : ∀ (fn : Fn) (first cap : Array Value) (w : World), (Instr.makeFunc fn first cap).run Tryz.prog w = .ok (.func fn first cap) w := fun _ _ _ _ => rfl
  have hcw : commitWhy h0 l = if h0.stale = true then 11 else if l.length ≠ h0.now.length then 1 else if l = h0.now then 0 else if h0.seq = 18446744073709551615 then 12 else -1 := rfl
  rw [hw] at hcw
  have hst : h0.stale = false := by
    by_cases c : h0.stale = true
    · rw [if_pos c] at hcw; omega
    · simpa using c
  rw [if_neg (by rw [hst]; simp)] at hcw
  have hlen : l.length = h0.now.length := by
    by_cases c : l.length ≠ h0.now.length
    · rw [if_pos c] at hcw; omega
    · omega
  rw [if_neg (by simp [hlen])] at hcw
  have hne : l ≠ h0.now := by
    intro c
    rw [if_pos c] at hcw; omega
  rw [if_neg hne] at hcw
  have hsq : h0.seq ≠ 18446744073709551615 := by
    intro c
    rw [if_pos c] at hcw; omega
  clear hcw
  have HCM : Hid (commitM s h0 e f g l = (if (layS s (1 - h0.which) e f g (h0.seq + 1) l).2 ≠ 0 then ((layS s (1 - h0.which) e f g (h0.seq + 1) l).1, ⟨h0.now, h0.seq, h0.which, true⟩, (layS s (1 - h0.which) e f g (h0.seq + 1) l).2) else ((layS s (1 - h0.which) e f g (h0.seq + 1) l).1, ⟨l, h0.seq + 1, 1 - h0.which, false⟩, 0))) := Lib.hid (by unfold commitM; rw [if_neg (by simp [hw])])
  obtain ⟨vn, bn, on, hSt, hbq, hsn, hqn, hAq⟩ := hX.ex
  obtain ⟨Av, cv, rfl⟩ := hs.form
  obtain ⟨An, cn, rfl⟩ := hsn.form
  obtain ⟨n, hn⟩ : ∃ n, W.heap.size = n := ⟨_, rfl⟩
  obtain ⟨W1, hW1⟩ : ∃ W1, W1 = W.alloc (.cells #[pt q] 32) := ⟨_, rfl⟩
  have k1 : Kept W W1 [] := by rw [hW1]; exact (Kept.refl W []).alloc _
  have b1 : Blk W1 n 32 [pt q] := by rw [hW1, ← hn]; exact Blk.new _ _ _
  have s1 : W1.heap.size = n + 1 := by rw [hW1, World.size_alloc, hn]
  have S1 : St (fun x => A x ∧ x ≠ n) W1 b s := by rw [hW1, ← hn]; exact hSt.alloc_hold _
  obtain ⟨W2, hW2⟩ : ∃ W2, W2 = W1.alloc (.cells #[.slice Av l.length cv] 27) := ⟨_, rfl⟩
  have k2 : Kept W1 W2 [] := by rw [hW2]; exact (Kept.refl W1 []).alloc _
  have b2 : Blk W2 (n + 1) 27 [.slice Av l.length cv] := by rw [hW2, ← s1]; exact Blk.new _ _ _
  have s2 : W2.heap.size = n + 2 := by rw [hW2, World.size_alloc, s1]
  have S2 : St (fun x => (A x ∧ x ≠ n) ∧ x ≠ n + 1) W2 b s := by rw [hW2, ← s1]; exact S1.alloc_hold _
  obtain ⟨W3, hW3⟩ : ∃ W3, W3 = W2.drew.drew := ⟨_, rfl⟩
  have k3 : Kept W2 W3 [] := by rw [hW3]; exact (Kept.refl W2 []).drew.drew
  have s3 : W3.heap.size = n + 2 := by rw [hW3]; exact s2
  have S3 : St (fun x => (A x ∧ x ≠ n) ∧ x ≠ n + 1) W3 b s := S2.kept0 k3
  obtain ⟨W4, hW4⟩ : ∃ W4, W4 = W3.alloc (.cells #[.int .i64 (1 - h0.which)] 3) := ⟨_, rfl⟩
  have k4 : Kept W3 W4 [] := by rw [hW4]; exact (Kept.refl W3 []).alloc _
  have b4 : Blk W4 (n + 2) 3 [.int .i64 (1 - h0.which)] := by rw [hW4, ← s3]; exact Blk.new _ _ _
  have s4 : W4.heap.size = n + 3 := by rw [hW4, World.size_alloc, s3]
  have S4 : St (fun x => ((A x ∧ x ≠ n) ∧ x ≠ n + 1) ∧ x ≠ n + 2) W4 b s := by rw [hW4, ← s3]; exact S3.alloc_hold _
  have k24 : Kept W2 W4 [] := k3.trans k4 (by simp)
  have k04 : Kept W W4 [] := (k1.trans k2 (by simp)).trans k24 (by simp)
  have c1 := (b1.kept k2 (by simp)).kept k24 (by simp)
  have c2 := b2.kept k24 (by simp)
  have cq := hbq.kept k04 (by simp)
  have hqlt := hbq.lt
  have HT := Lib.hid (tried_any W4 58 #[pt n, pt (n + 2), pt (n + 1)] (fun er V => er = (layS s (1 - h0.which) e f g (h0.seq + 1) l).2 ∧ St (fun x => (((A x ∧ x ≠ n) ∧ x ≠ n + 1) ∧ x ≠ n + 2) ∧ x ≠ n + 3) V b (layS s (1 - h0.which) e f g (h0.seq + 1) l).1 ∧ KeptA (fun x => (((A x ∧ x ≠ n) ∧ x ≠ n + 1) ∧ x ≠ n + 2) ∧ x ≠ n + 3) W4 V) (enter_com1 _) (fun W5 hW5 => by
    have k5 : Kept W4 W5 [] := by rw [hW5]; exact (Kept.refl W4 []).alloc _
    have S5 : St (fun x => (((A x ∧ x ≠ n) ∧ x ≠ n + 1) ∧ x ≠ n + 2) ∧ x ≠ n + 3) W5 b s := by rw [hW5, ← s4]; exact S4.alloc_hold _
    have b5 : Blk W5 (n + 3) 30 [.int .i64 0] := by rw [hW5, ← s4]; exact Blk.new _ _ _
    refine (com1_any S5 ((hg.kept k04 (by simp)).kept k5 (by simp)) (fun x hx => hA x hx.1.1.1.1) ho e f g h0 (.slice An h0.now.length cn) (1 - h0.which) q0 (by omega) (c1.kept k5 (by simp)) (b4.kept k5 (by simp)) (.slice Av l.length cv) (c2.kept k5 (by simp)) (cq.kept k5 (by simp)) bq off l ((hs.kept k04 (.inr (by simp))).kept k5 (.inr (by simp))) (hq.imp id (fun h hx => h.1 hx.1.1.1.1)) hB hl (fun hx => hx.1.1.1.2 rfl) (fun hx => hx.1.2 rfl) (fun hx => hx.1.1.2 rfl) (fun hx => hAq hx.1.1.1.1)).mono ?_
    rintro ee V ⟨hO, hS, hK⟩
    rw [s4]
    exact ⟨_, hO, ⟨rfl, hS, (KeptA.of0 k5).trans hK⟩, hK.blk b5 (fun hx => hx.2 rfl)⟩))
  rw [s4] at HT
  have HE := Lib.hid (fun V (kV : Kept W2 V []) => equal_any V Av An l.length cv h0.now.length cn bq off bn on l h0.now (((hs.kept k1 (.inr (by simp))).kept k2 (.inr (by simp))).kept kV (.inr (by simp))) (((hsn.kept k1 (.inr (by simp))).kept k2 (.inr (by simp))).kept kV (.inr (by simp))) hB hnB)
  rw [decide_eq_false hne, ← hlen] at HE
  have HB := Lib.hid (And.intro (b1.kept k2 (by simp)) (And.intro b2 (hbq.kept (k1.trans k2 (by simp)) (by simp))))
  have HB4 := Lib.hid (And.intro c1 (And.intro c2 (And.intro b4 cq)))
  have HSL := Lib.hid (And.intro (hs.kept k04 (.inr (by simp))) (And.intro (hsn.kept k04 (.inr (by simp))) (And.intro hq (And.intro hqn hAq))))
  have HK4 := Lib.hid (And.intro k04 (And.intro hSt.up (And.intro hn (And.intro hqlt s4))))
  have HLL := Lib.hid (And.intro hl hB)
  have KD := Lib.hid (k3)
  rw [hW3] at KD
  have HW3 := Lib.hid (And.intro hW3 (And.intro hW4 s3))
  generalize layS s (1 - h0.which) e f g (h0.seq + 1) l = L at *
  obtain ⟨d, er⟩ := L
  obtain ⟨now, seq, which, stale⟩ := h0
  simp only at hst hsq hlen HE HB HB4 HCM HSL HT HW3 w0 w1 q0 q1
  subst hst
  have x1 : IntKind.i64.wrap (1 - which) = 1 - which := by rw [IntKind.wrap_i64]; omega
  have x2 : IntKind.u64.wrap (seq + 1) = seq + 1 := by rw [IntKind.wrap_u64]; omega
  have x3 : (seq == 18446744073709551615) = false := by simpa using hsq
  have x4 : ((l.length : Int) != (l.length : Int)) = false := by simp
  have l0 : (0 : Int) ≤ l.length := by omega
  have l1 : (l.length : Int) ≤ 100000 := by omega
  have HLEN := Lib.hid hlen
  rw [← hlen] at HB HB4
  clear hX hSt hbq hsn hqn hAq hs hq hB hnB hl hnl hw k1 b1 k2 b2 k3 k4 b4 k24 k04 c1 c2 cq S1 S2 S3 S4 s2 s3 s4 hW3 hW4 hlen hne hsq hg hA ho q0 q1 w0 w1 hqlt
  have c1 := HB.out.1.cell 0 rfl
  have c2 := HB.out.2.1.cell 0 rfl
  have s4 := HB.out.2.2.cell 4 rfl
  have s5 := HB.out.2.2.cell 5 rfl
  have s6 := HB.out.2.2.cell 6 rfl
  have s7 := HB.out.2.2.cell 7 rfl
  simp only at s4 s5 s6 s7
  have e4 : W2.drew.cell? ⟨q, 4, none⟩ = _ := s4
  have e1 : W2.drew.cell? ⟨n, 0, none⟩ = _ := c1
  have e2 : W2.drew.cell? ⟨n + 1, 0, none⟩ = _ := c2
  have f4 : W2.drew.drew.cell? ⟨q, 4, none⟩ = _ := s4
  have f1 : W2.drew.drew.cell? ⟨n, 0, none⟩ = _ := c1
  have f2 : W2.drew.drew.cell? ⟨n + 1, 0, none⟩ = _ := c2
  have f5 : W2.drew.drew.cell? ⟨q, 5, none⟩ = _ := s5
  have f6 : W2.drew.drew.cell? ⟨q, 6, none⟩ = _ := s6
  go_enter Tryz.func21, Tryz.ntmps21
  go_upto_region 1 with fail
  simp only [hn, ← hW1, s1, ← hW2]
  clear hn hW1 s1 hW2
  go_wp2_with fail
  go_region
  go_wp2_with fail
  go_region_held3 (fun W => W.cell? ⟨n, 0, none⟩ = some (pt q) ∧ W.cell? ⟨n + 1, 0, none⟩ = some (.slice Av l.length cv) ∧ W.cell? ⟨q, 4, none⟩ = some (.slice An l.length cn)) (first | (with_reducible exact ⟨f1, f2, f4⟩) | go_keep) (first
    | (go_at_call 57; (with_reducible refine (HE.out _ KD.out).mono ?_); rintro _ wy ⟨rfl, rfl⟩))
  go_upto_region 10 with fail
  have hz2 : W2.heap.size = n + 2 := by have h := HW3.out.2.2; rw [HW3.out.1] at h; exact h
  have hww : (W2.alloc (.cells #[.int .i64 (1 - which)] 3)).drew.drew = W4 := by rw [HW3.out.2.1, HW3.out.1]; rfl
  rw [hww]
  simp only [hz2]
  clear hz2 hww c1 c2 s4 s5 s6 s7 e1 e2 e4 f1 f2 f4 f5 f6
  go_wp2_with fail
  refine HT.out.mono ?_
  rintro _ V' ⟨er', V, rfl, ⟨hEr, hS, hK⟩, hk⟩
  subst hEr
  have hqn : q < n := by have h1 := HK4.out.2.2.1; have h2 := HK4.out.2.2.2.1; omega
  have hup : ∀ x, ¬ A x → x < n := fun x hx => by
    by_cases hlt : x < n
    · exact hlt
    · exact absurd (HK4.out.2.1 x (by have := HK4.out.2.2.1; omega)) hx
  have b1' := (hK.blk HB4.out.1 (fun h => h.1.1.1.2 rfl)).kept hk (by simp)
  have b2' := (hK.blk HB4.out.2.1 (fun h => h.1.1.2 rfl)).kept hk (by simp)
  have b5' := (hK.blk HB4.out.2.2.1 (fun h => h.1.2 rfl)).kept hk (by simp)
  have bq' := (hK.blk HB4.out.2.2.2 (fun h => HSL.out.2.2.2.2 h.1.1.1.1)).kept hk (by simp; omega)
  have sl' := (hK.sl HSL.out.1 (HSL.out.2.2.1.imp id (fun h hx => h.1 hx.1.1.1.1))).kept hk (HSL.out.2.2.1.imp id (fun h => by have := hup _ h.1; simp; omega))
  have sn' := (hK.sl HSL.out.2.1 (HSL.out.2.2.2.1.imp id (fun h hx => h.1 hx.1.1.1.1))).kept hk (HSL.out.2.2.2.1.imp id (fun h => by have := hup _ h.1; simp; omega))
  have S' := St.turn hS hk
  have kk : KeptA A W V' := ((KeptA.of0 HK4.out.1).trans (hK.mono (fun x hx => hx.1.1.1.1))).trans (KeptA.of hk (fun x hx => by simp at hx; subst hx; exact HK4.out.2.1 _ (by have := HK4.out.2.2.1; omega)))
  have HBV := Lib.hid (And.intro b1' (And.intro b2' (And.intro b5' bq')))
  have HSV := Lib.hid (And.intro sl' (And.intro sn' (And.intro S' kk)))
  have HQN := Lib.hid (And.intro hqn hup)
  clear hS hK hk hqn hup sl' sn' S' kk
  have c1 := b1'.cell 0 rfl
  have s7 := bq'.cell 7 rfl
  have f7 := bq'.free 7
  simp only at s7
  by_cases hz : er' = 0
  · subst hz
    go_upto_region 14 with fail
    obtain ⟨U, hU⟩ : ∃ U, U = V'.setCell ⟨q, 7, none⟩ (.bool false) := ⟨_, rfl⟩
    have kU : Kept V' U [q] := by rw [hU]; exact (Kept.refl V' [q]).setCell (.inl (by simp)) _
    have hbU : Blk U q 87 (shCells b e f g (.slice An l.length cn) ⟨now, seq, which, false⟩) := by
      have h := HBV.out.2.2.2.set 7 (.bool false)
      simp only [List.set, shCells] at h
      rw [hU]; exact h
    have hnq : n ∉ [q] ∧ n + 1 ∉ [q] ∧ n + 2 ∉ [q] := by have := HQN.out.1; simp; omega
    have HBU := Lib.hid (And.intro (HBV.out.1.kept kU hnq.1) (And.intro (HBV.out.2.1.kept kU hnq.2.1) (And.intro (HBV.out.2.2.1.kept kU hnq.2.2) hbU)))
    have HSU := Lib.hid (HSV.out.1.kept kU (HSL.out.2.2.1.imp id (fun h => by simpa using h.2)))
    have SU : St (fun x => (((A x ∧ x ≠ n) ∧ x ≠ n + 1) ∧ x ≠ n + 2) ∧ x ≠ n + 3) U b d := by
      obtain ⟨⟨F, hF, hFA⟩, hUp⟩ := HSV.out.2.2.1
      exact ⟨⟨F, hF.kept kU (fun y hy hm => by simp at hy; subst hy; exact HSL.out.2.2.2.2 (hFA _ hm).1.1.1.1), hFA⟩, fun y hy => hUp y (Nat.le_trans kU.size hy)⟩
    have HSTU := Lib.hid SU
    have HKU := Lib.hid ((HSV.out.2.2.2.mono (B := fun x => A x ∨ x = q) (fun x hx => .inl hx)).trans (KeptA.of kU (fun x hx => by simp at hx; exact .inr hx)))
    rw [← hU]
    clear hU kU hbU hnq SU c1 s7 f7 b1' b2' b5' bq'
    have kd : Kept U U.drew [] := (Kept.refl U []).drew
    have hb1 := HBU.out.1.kept kd (by simp)
    have hb2 := HBU.out.2.1.kept kd (by simp)
    have hb5 := HBU.out.2.2.1.kept kd (by simp)
    have hbq := HBU.out.2.2.2.kept kd (by simp)
    have c1 := hb1.cell 0 rfl
    have c2 := hb2.cell 0 rfl
    have c5 := hb5.cell 0 rfl
    have s5 := hbq.cell 5 rfl
    simp only at s5
    have HCL := Lib.hid (clone_any U.drew _ bq off l (HSU.out.kept kd (.inr (by simp))) (by have := HLL.out.1; omega))
    have HBD := Lib.hid (And.intro hb1 (And.intro hb2 (And.intro hb5 hbq)))
    have HUD := Lib.hid kd
    have dq0 : (n = q) = False := eq_false (by have := HQN.out.1; omega)
    have dq1 : (n + 1 = q) = False := eq_false (by have := HQN.out.1; omega)
    have dq2 : (n + 2 = q) = False := eq_false (by have := HQN.out.1; omega)
    have dr0 : (q = n) = False := eq_false (by have := HQN.out.1; omega)
    have dr1 : (q = n + 1) = False := eq_false (by have := HQN.out.1; omega)
    have dr2 : (q = n + 2) = False := eq_false (by have := HQN.out.1; omega)
    clear hb1 hb2 hb5 hbq kd
    refine wp_region_held_drew (S := (fun W => W.cell? ⟨n, 0, none⟩ = some (pt q) ∧ W.cell? ⟨n + 1, 0, none⟩ = some (.slice Av l.length cv) ∧ W.cell? ⟨n + 2, 0, none⟩ = some (.int .i64 (1 - which)))) (by kernel_rfl) ⟨c1, c2, c5⟩ (fun hHeld => ?_)
    refine wpAnyH_take (i := 0) (v := pt q) rfl (by kernel_rfl) (by kernel_rfl) (by kernel_rfl) (fun _ _ _ h => h) (Or.inl ⟨by rfl, by (intro w hSw; (try dsimp only at hSw); go_simp)⟩) (by assumption) ?_
    (try simp only [Act.put, List.setIfInBounds_toArray, List.set_cons_zero, List.set_cons_succ])
    refine wpAnyH_take (i := 1) (v := pt q) rfl (by kernel_rfl) (by kernel_rfl) (by kernel_rfl) (fun _ _ _ h => h) (Or.inl ⟨by rfl, by (intro w hSw; (try dsimp only at hSw); go_simp)⟩) (by assumption) ?_
    (try simp only [Act.put, List.setIfInBounds_toArray, List.set_cons_zero, List.set_cons_succ])
    refine wpAnyH_take (i := 2) (v := pt q) rfl (by kernel_rfl) (by kernel_rfl) (by kernel_rfl) (fun _ _ _ h => h) (Or.inl ⟨by rfl, by (intro w hSw; (try dsimp only at hSw); go_simp)⟩) (by assumption) ?_
    (try simp only [Act.put, List.setIfInBounds_toArray, List.set_cons_zero, List.set_cons_succ])
    refine wpAnyH_take (i := 3) (v := .slice Av l.length cv) rfl (by kernel_rfl) (by kernel_rfl) (by kernel_rfl) (fun _ _ _ h => h) (Or.inl ⟨by rfl, by (intro w hSw; (try dsimp only at hSw); go_simp)⟩) (by assumption) ?_
    (try simp only [Act.put, List.setIfInBounds_toArray, List.set_cons_zero, List.set_cons_succ])
    refine wpAnyH_take (i := 5) (v := pt q) rfl (by kernel_rfl) (by kernel_rfl) (by kernel_rfl) (fun _ _ _ h => h) (Or.inl ⟨by rfl, by (intro w hSw; (try dsimp only at hSw); go_simp)⟩) (by assumption) ?_
    (try simp only [Act.put, List.setIfInBounds_toArray, List.set_cons_zero, List.set_cons_succ])
    refine wpAnyH_take (i := 6) (v := pt q) rfl (by kernel_rfl) (by kernel_rfl) (by kernel_rfl) (fun _ _ _ h => h) (Or.inl ⟨by rfl, by (intro w hSw; (try dsimp only at hSw); go_simp)⟩) (by assumption) ?_
    (try simp only [Act.put, List.setIfInBounds_toArray, List.set_cons_zero, List.set_cons_succ])
    refine wpAnyH_take (i := 7) (v := .pointer (some ⟨q, 5, none⟩)) rfl (by kernel_rfl) (by kernel_rfl) (by kernel_rfl) (fun _ _ _ h => h) (Or.inl ⟨by rfl, by (intro w hSw; (try dsimp only at hSw); go_simp)⟩) (by assumption) ?_
    (try simp only [Act.put, List.setIfInBounds_toArray, List.set_cons_zero, List.set_cons_succ])
    refine wpAnyH_take (i := 10) (v := .int .i64 (1 - which)) rfl (by kernel_rfl) (by kernel_rfl) (by kernel_rfl) (fun _ _ _ h => h) (Or.inl ⟨by rfl, by (intro w hSw; (try dsimp only at hSw); go_simp)⟩) (by assumption) ?_
    (try simp only [Act.put, List.setIfInBounds_toArray, List.set_cons_zero, List.set_cons_succ])
    refine wpAnyH_ready (rs := [4, 8]) (by kernel_rfl) (by simp) ?_
    refine AllReadyH.cons rfl (fun K hK => ?_) ?_
    · -- the call first
      refine step_call_at 56 _ _ HCL.out (enter_clone _) #[.tmp 54] #[27] rfl rfl rfl (by simp [Act.eval]) (by rintro V ⟨v, h, _⟩; cases h) (by rintro ch V ⟨v, h, _⟩; cases h) ?_
      rintro _ X ⟨vc, hvv, hown, kc⟩
      cases hvv
      obtain ⟨nb, hsc, hnb⟩ := hown.sl
      obtain ⟨Ac, cc, rfl⟩ := hsc.form
      have HQ := Lib.hid (HBD.out.2.2.2.kept kc (by simp))
      have r1 := (HBD.out.1.kept kc (by simp)).cell 0 rfl
      have r2 := (HBD.out.2.1.kept kc (by simp)).cell 0 rfl
      have r5 := (HBD.out.2.2.1.kept kc (by simp)).cell 0 rfl
      have v4 := HQ.out.cell 4 rfl
      have v5 := HQ.out.cell 5 rfl
      have v6 := HQ.out.cell 6 rfl
      simp only at v4 v5 v6
      have w4 := HQ.out.free 4
      have w5 := HQ.out.free 5
      have w6 := HQ.out.free 6
      have HCC := Lib.hid (And.intro hsc (And.intro hnb kc))
      clear hown hsc hnb kc
      refine hK.out _ _ ⟨r1, r2, r5⟩ (fun hHeld => ?_)
      clear hK K
      (try simp only [Act.put, List.setIfInBounds_toArray, List.set_cons_zero, List.set_cons_succ])
      refine wpAnyH_ready (rs := [8]) (by kernel_rfl) (by simp) ?_
      refine AllReadyH.cons rfl (fun K hK => ?_) ?_
      rotate_left
      · exact AllReadyH.nil
      go_simp
      refine hK.out _ _ ⟨r1, r2, r5⟩ (fun hHeld => ?_)
      clear hK K
      (try simp only [Act.put, List.setIfInBounds_toArray, List.set_cons_zero, List.set_cons_succ])
      refine wpAnyH_take (i := 9) (v := .int .u64 (seq + 1)) rfl (by kernel_rfl) (by kernel_rfl) (by kernel_rfl) (fun _ _ _ h => h) (Or.inl ⟨by rfl, by (intro w hSw; (try dsimp only at hSw); go_simp)⟩) (by assumption) ?_
      (try simp only [Act.put, List.setIfInBounds_toArray, List.set_cons_zero, List.set_cons_succ])
      refine wpAnyH_take (i := 11) (v := pt q) rfl (by kernel_rfl) (by kernel_rfl) (by kernel_rfl) (fun _ _ _ h => h) (Or.inl ⟨by rfl, by (intro w hSw; (try dsimp only at hSw); go_simp)⟩) (by assumption) ?_
      (try simp only [Act.put, List.setIfInBounds_toArray, List.set_cons_zero, List.set_cons_succ])
      refine wpAnyH_take (i := 12) (v := .pointer (some ⟨q, 4, none⟩)) rfl (by kernel_rfl) (by kernel_rfl) (by kernel_rfl) (fun _ _ _ h => h) (Or.inl ⟨by rfl, by (intro w hSw; (try dsimp only at hSw); go_simp)⟩) (by assumption) ?_
      (try simp only [Act.put, List.setIfInBounds_toArray, List.set_cons_zero, List.set_cons_succ])
      refine wpAnyH_ready (rs := [13]) (by kernel_rfl) (by simp) ?_
      refine AllReadyH.cons rfl (fun K hK => ?_) ?_
      rotate_left
      · exact AllReadyH.nil
      go_simp
      refine hK.out _ _ (by go_keep) (fun hHeld => ?_)
      clear hK K
      (try simp only [Act.put, List.setIfInBounds_toArray, List.set_cons_zero, List.set_cons_succ])
      refine wpAnyH_take (i := 14) (v := pt q) rfl (by kernel_rfl) (by kernel_rfl) (by kernel_rfl) (fun _ _ _ h => h) (Or.inl ⟨by rfl, by (intro w hSw; (try dsimp only at hSw); go_simp)⟩) (by assumption) ?_
      (try simp only [Act.put, List.setIfInBounds_toArray, List.set_cons_zero, List.set_cons_succ])
      refine wpAnyH_take (i := 15) (v := .pointer (some ⟨q, 5, none⟩)) rfl (by kernel_rfl) (by kernel_rfl) (by kernel_rfl) (fun _ _ _ h => h) (Or.inl ⟨by rfl, by (intro w hSw; (try dsimp only at hSw); go_simp)⟩) (by assumption) ?_
      (try simp only [Act.put, List.setIfInBounds_toArray, List.set_cons_zero, List.set_cons_succ])
      refine wpAnyH_ready (rs := [16]) (by kernel_rfl) (by simp) ?_
      refine AllReadyH.cons rfl (fun K hK => ?_) ?_
      rotate_left
      · exact AllReadyH.nil
      go_simp
      refine hK.out _ _ (by go_keep) (fun hHeld => ?_)
      clear hK K
      (try simp only [Act.put, List.setIfInBounds_toArray, List.set_cons_zero, List.set_cons_succ])
      refine wpAnyH_take (i := 17) (v := pt q) rfl (by kernel_rfl) (by kernel_rfl) (by kernel_rfl) (fun _ _ _ h => h) (Or.inl ⟨by rfl, by (intro w hSw; (try dsimp only at hSw); go_simp)⟩) (by assumption) ?_
      (try simp only [Act.put, List.setIfInBounds_toArray, List.set_cons_zero, List.set_cons_succ])
      refine wpAnyH_take (i := 18) (v := .pointer (some ⟨q, 6, none⟩)) rfl (by kernel_rfl) (by kernel_rfl) (by kernel_rfl) (fun _ _ _ h => h) (Or.inl ⟨by rfl, by (intro w hSw; (try dsimp only at hSw); go_simp)⟩) (by assumption) ?_
      (try simp only [Act.put, List.setIfInBounds_toArray, List.set_cons_zero, List.set_cons_succ])
      refine wpAnyH_ready (rs := [19]) (by kernel_rfl) (by simp) ?_
      refine AllReadyH.cons rfl (fun K hK => ?_) ?_
      rotate_left
      · exact AllReadyH.nil
      go_simp
      refine hK.out _ _ (by go_keep) (fun hHeld => ?_)
      clear hK K
      (try simp only [Act.put, List.setIfInBounds_toArray, List.set_cons_zero, List.set_cons_succ])
      refine wpAnyH_done (by kernel_rfl) ?_ _
      go_wp2_with fail
      go_ret
      have hz := ((HQ.out.set 4 (.slice Ac l.length cc)).set 5 (.int .u64 (seq + 1))).set 6 (.int .i64 (1 - which))
      simp only [List.set, shCells] at hz
      have kz : Kept X (((X.setCell ⟨q, 4, none⟩ (.slice Ac l.length cc)).setCell ⟨q, 5, none⟩ (.int .u64 (seq + 1))).setCell ⟨q, 6, none⟩ (.int .i64 (1 - which))) [q] := (((Kept.refl X [q]).setCell (.inl (by simp)) _).setCell (.inl (by simp)) _).setCell (.inl (by simp)) _
      have hnb : l = [] ∨ (U.heap.size ≤ nb ∧ nb < X.heap.size) := by
        by_cases e0 : l = []
        · exact .inl e0
        · exact .inr ⟨(HCC.out.2.1.resolve_left e0).2, HCC.out.1.lt e0⟩
      have hqU : q < U.heap.size := HBU.out.2.2.2.lt
      have kx : Kept U X [] := HUD.out.trans HCC.out.2.2 (by simp)
      have hSX := HSTU.out.hold_new kx nb (l = []) hnb
      obtain ⟨⟨F, hF, hFA⟩, hUp⟩ := hSX
      rw [HCM.out, if_neg (by simp)]
      refine ⟨rfl, (HKU.out.trans (KeptA.of0 kx)).trans (KeptA.of kz (fun x hx => by simp at hx; exact .inr hx)), fun x => ((((A x ∧ x ≠ n) ∧ x ≠ n + 1) ∧ x ≠ n + 2) ∧ x ≠ n + 3) ∧ (x ≠ nb ∨ l = []), fun x hx => hx.1.1.1.1.1, ⟨_, nb, 0, ⟨⟨F, hF.kept kz (fun y hy hm => by simp at hy; subst hy; exact HSL.out.2.2.2.2 (hFA _ hm).1.1.1.1.1), hFA⟩, fun y hy => hUp y (Nat.le_trans kz.size hy)⟩, hz, HCC.out.1.kept kz (hnb.imp id (fun h => by simp; omega)), ?_, fun hx => HSL.out.2.2.2.2 hx.1.1.1.1.1⟩⟩
      by_cases e0 : l = []
      · exact .inl e0
      · exact .inr ⟨fun hx => hx.2.elim (fun h => h rfl) e0, by have := hnb.resolve_left e0; omega⟩
    refine AllReadyH.cons rfl (fun K hK => ?_) AllReadyH.nil
    go_simp
    refine hK.out _ _ ⟨c1, c2, c5⟩ (fun hHeld => ?_)
    clear hK K
    (try simp only [Act.put, List.setIfInBounds_toArray, List.set_cons_zero, List.set_cons_succ])
    refine wpAnyH_take (i := 9) (v := .int .u64 (seq + 1)) rfl (by kernel_rfl) (by kernel_rfl) (by kernel_rfl) (fun _ _ _ h => h) (Or.inl ⟨by rfl, by (intro w hSw; (try dsimp only at hSw); go_simp)⟩) (by assumption) ?_
    (try simp only [Act.put, List.setIfInBounds_toArray, List.set_cons_zero, List.set_cons_succ])
    refine wpAnyH_ready (rs := [4]) (by kernel_rfl) (by simp) ?_
    refine AllReadyH.cons rfl (fun K hK => ?_) AllReadyH.nil
    refine step_call_at 56 _ _ HCL.out (enter_clone _) #[.tmp 54] #[27] rfl rfl rfl (by simp [Act.eval]) (by rintro V ⟨v, h, _⟩; cases h) (by rintro ch V ⟨v, h, _⟩; cases h) ?_
    rintro _ X ⟨vc, hvv, hown, kc⟩
    cases hvv
    obtain ⟨nb, hsc, hnb⟩ := hown.sl
    obtain ⟨Ac, cc, rfl⟩ := hsc.form
    have HQ := Lib.hid (HBD.out.2.2.2.kept kc (by simp))
    have r1 := (HBD.out.1.kept kc (by simp)).cell 0 rfl
    have r2 := (HBD.out.2.1.kept kc (by simp)).cell 0 rfl
    have r5 := (HBD.out.2.2.1.kept kc (by simp)).cell 0 rfl
    have v4 := HQ.out.cell 4 rfl
    have v5 := HQ.out.cell 5 rfl
    have v6 := HQ.out.cell 6 rfl
    simp only at v4 v5 v6
    have w4 := HQ.out.free 4
    have w5 := HQ.out.free 5
    have w6 := HQ.out.free 6
    have HCC := Lib.hid (And.intro hsc (And.intro hnb kc))
    clear hown hsc hnb kc
    refine hK.out _ _ ⟨r1, r2, r5⟩ (fun hHeld => ?_)
    clear hK K
    (try simp only [Act.put, List.setIfInBounds_toArray, List.set_cons_zero, List.set_cons_succ])
    refine wpAnyH_take (i := 11) (v := pt q) rfl (by kernel_rfl) (by kernel_rfl) (by kernel_rfl) (fun _ _ _ h => h) (Or.inl ⟨by rfl, by (intro w hSw; (try dsimp only at hSw); go_simp)⟩) (by assumption) ?_
    (try simp only [Act.put, List.setIfInBounds_toArray, List.set_cons_zero, List.set_cons_succ])
    refine wpAnyH_take (i := 12) (v := .pointer (some ⟨q, 4, none⟩)) rfl (by kernel_rfl) (by kernel_rfl) (by kernel_rfl) (fun _ _ _ h => h) (Or.inl ⟨by rfl, by (intro w hSw; (try dsimp only at hSw); go_simp)⟩) (by assumption) ?_
    (try simp only [Act.put, List.setIfInBounds_toArray, List.set_cons_zero, List.set_cons_succ])
    refine wpAnyH_ready (rs := [13]) (by kernel_rfl) (by simp) ?_
    refine AllReadyH.cons rfl (fun K hK => ?_) ?_
    rotate_left
    · exact AllReadyH.nil
    go_simp
    refine hK.out _ _ (by go_keep) (fun hHeld => ?_)
    clear hK K
    (try simp only [Act.put, List.setIfInBounds_toArray, List.set_cons_zero, List.set_cons_succ])
    refine wpAnyH_take (i := 14) (v := pt q) rfl (by kernel_rfl) (by kernel_rfl) (by kernel_rfl) (fun _ _ _ h => h) (Or.inl ⟨by rfl, by (intro w hSw; (try dsimp only at hSw); go_simp)⟩) (by assumption) ?_
    (try simp only [Act.put, List.setIfInBounds_toArray, List.set_cons_zero, List.set_cons_succ])
    refine wpAnyH_take (i := 15) (v := .pointer (some ⟨q, 5, none⟩)) rfl (by kernel_rfl) (by kernel_rfl) (by kernel_rfl) (fun _ _ _ h => h) (Or.inl ⟨by rfl, by (intro w hSw; (try dsimp only at hSw); go_simp)⟩) (by assumption) ?_
    (try simp only [Act.put, List.setIfInBounds_toArray, List.set_cons_zero, List.set_cons_succ])
    refine wpAnyH_ready (rs := [16]) (by kernel_rfl) (by simp) ?_
    refine AllReadyH.cons rfl (fun K hK => ?_) ?_
    rotate_left
    · exact AllReadyH.nil
    go_simp
    refine hK.out _ _ (by go_keep) (fun hHeld => ?_)
    clear hK K
    (try simp only [Act.put, List.setIfInBounds_toArray, List.set_cons_zero, List.set_cons_succ])
    refine wpAnyH_take (i := 17) (v := pt q) rfl (by kernel_rfl) (by kernel_rfl) (by kernel_rfl) (fun _ _ _ h => h) (Or.inl ⟨by rfl, by (intro w hSw; (try dsimp only at hSw); go_simp)⟩) (by assumption) ?_
    (try simp only [Act.put, List.setIfInBounds_toArray, List.set_cons_zero, List.set_cons_succ])
    refine wpAnyH_take (i := 18) (v := .pointer (some ⟨q, 6, none⟩)) rfl (by kernel_rfl) (by kernel_rfl) (by kernel_rfl) (fun _ _ _ h => h) (Or.inl ⟨by rfl, by (intro w hSw; (try dsimp only at hSw); go_simp)⟩) (by assumption) ?_
    (try simp only [Act.put, List.setIfInBounds_toArray, List.set_cons_zero, List.set_cons_succ])
    refine wpAnyH_ready (rs := [19]) (by kernel_rfl) (by simp) ?_
    refine AllReadyH.cons rfl (fun K hK => ?_) ?_
    rotate_left
    · exact AllReadyH.nil
    go_simp
    refine hK.out _ _ (by go_keep) (fun hHeld => ?_)
    clear hK K
    (try simp only [Act.put, List.setIfInBounds_toArray, List.set_cons_zero, List.set_cons_succ])
    refine wpAnyH_done (by kernel_rfl) ?_ _
    go_wp2_with fail
    go_ret
    have hz := ((HQ.out.set 4 (.slice Ac l.length cc)).set 5 (.int .u64 (seq + 1))).set 6 (.int .i64 (1 - which))
    simp only [List.set, shCells] at hz
    have kz : Kept X (((X.setCell ⟨q, 4, none⟩ (.slice Ac l.length cc)).setCell ⟨q, 5, none⟩ (.int .u64 (seq + 1))).setCell ⟨q, 6, none⟩ (.int .i64 (1 - which))) [q] := (((Kept.refl X [q]).setCell (.inl (by simp)) _).setCell (.inl (by simp)) _).setCell (.inl (by simp)) _
    have hnb : l = [] ∨ (U.heap.size ≤ nb ∧ nb < X.heap.size) := by
      by_cases e0 : l = []
      · exact .inl e0
      · exact .inr ⟨(HCC.out.2.1.resolve_left e0).2, HCC.out.1.lt e0⟩
    have hqU : q < U.heap.size := HBU.out.2.2.2.lt
    have kx : Kept U X [] := HUD.out.trans HCC.out.2.2 (by simp)
    have hSX := HSTU.out.hold_new kx nb (l = []) hnb
    obtain ⟨⟨F, hF, hFA⟩, hUp⟩ := hSX
    rw [HCM.out, if_neg (by simp)]
    refine ⟨rfl, (HKU.out.trans (KeptA.of0 kx)).trans (KeptA.of kz (fun x hx => by simp at hx; exact .inr hx)), fun x => ((((A x ∧ x ≠ n) ∧ x ≠ n + 1) ∧ x ≠ n + 2) ∧ x ≠ n + 3) ∧ (x ≠ nb ∨ l = []), fun x hx => hx.1.1.1.1.1, ⟨_, nb, 0, ⟨⟨F, hF.kept kz (fun y hy hm => by simp at hy; subst hy; exact HSL.out.2.2.2.2 (hFA _ hm).1.1.1.1.1), hFA⟩, fun y hy => hUp y (Nat.le_trans kz.size hy)⟩, hz, HCC.out.1.kept kz (hnb.imp id (fun h => by simp; omega)), ?_, fun hx => HSL.out.2.2.2.2 hx.1.1.1.1.1⟩⟩
    by_cases e0 : l = []
    · exact .inl e0
    · exact .inr ⟨fun hx => hx.2.elim (fun h => h rfl) e0, by have := hnb.resolve_left e0; omega⟩
  · have t1 : (er' != 0) = true := by simpa using hz
    have HZ := Lib.hid hz
    clear hz
    go_wp2_with fail
    go_ret
    have kU : Kept V' (V'.setCell ⟨q, 7, none⟩ (.bool true)) [q] := (Kept.refl V' [q]).setCell (.inl (by simp)) _
    have hbU := HBV.out.2.2.2.set 7 (.bool true)
    simp only [List.set, shCells] at hbU
    obtain ⟨⟨F, hF, hFA⟩, hUp⟩ := HSV.out.2.2.1
    rw [HCM.out, if_pos HZ.out]
    refine ⟨rfl, (HSV.out.2.2.2.mono (B := fun x => A x ∨ x = q) (fun x hx => .inl hx)).trans (KeptA.of kU (fun x hx => by simp at hx; exact .inr hx)), fun x => (((A x ∧ x ≠ n) ∧ x ≠ n + 1) ∧ x ≠ n + 2) ∧ x ≠ n + 3, fun x hx => hx.1.1.1.1, ⟨_, bn, on, ⟨⟨F, hF.kept kU (fun y hy hm => by simp at hy; subst hy; exact HSL.out.2.2.2.2 (hFA _ hm).1.1.1.1), hFA⟩, fun y hy => hUp y (Nat.le_trans kU.size hy)⟩, hbU, ?_, HSL.out.2.2.2.1.imp id (fun h => ⟨fun hx => h.1 hx.1.1.1.1, h.2⟩), fun hx => HSL.out.2.2.2.2 hx.1.1.1.1⟩⟩
    have h := HSV.out.2.1.kept kU (HSL.out.2.2.2.1.imp id (fun h => by simpa using h.2))
    rw [← HLEN.out] at h
    exact h
end Go.Proofs.YtcikhnkehglkgaaGreatDoor
