/- PROVED: the contract of a shadow's Commit. No conditions beyond those that each theorem states. -/
import Derived.Test.YtcikhnkehglkgaaGreatDoorShI
import Derived.Deep.RegionHeld2
namespace Go.Proofs.YtcikhnkehglkgaaGreatDoor
open Go.RowKit Go.Proofs.YtcikhnkehglkgaaGreatDoorLib Go.Shelf
set_option linter.unusedSimpArgs false
set_option linter.unusedVariables false

theorem step_call_at {P : Program} {ops : Array Oper} {o : Oper} {a : Act} {w W0 : World} {K : Act → World → Prop} {Q : Exit → Act → World → Prop} {E : Prop} (f : Nat) (args : Array Value) (R : Ending → World → Prop) (hc : Calls P f args W0 R) (he : ∀ W : World, (callFunc f args).run P W = .ok (.enter f args) W) (xs : Array Operand) (ts : Array TypeId) (hW : w = W0) (hgd : o.guard = none)
    (ho : o.op = .call { callee := .value (.func f), args := xs, argTypes := ts }) (hx : xs.map a.eval = args) (hout : ∀ W, R .outgrown W → False)
    (h2 : ∀ ch W, R (.panicked ch) W → Q (.panic ch) a W) (h1 : ∀ v W, R (.returned v) W → K (a.put o.dst v) W) : if Region.wanted o (yielded ops a.tmps) = true then Oper.wp P o a w K Q else E := by
  subst hW
  have hw : Region.wanted o (yielded ops a.tmps) = true := by simp [Region.wanted, hgd]
  rw [if_pos hw]
  unfold Oper.wp
  have hr : (execOp a.eval o).run P w = .ok (.enter f args) w := by
    have hx' : Array.map (fun x => a.eval x) xs = args := hx
    simp [execOp, ho, resolve, Deferred.ofValue, invoke, hx', he, Act.eval]
  rw [hr, Oper.upon_enter]
  refine hc.mono ?_
  intro e W hR
  cases e with
  | returned v => exact h1 v W hR
  | panicked ch => exact h2 ch W hR
  | outgrown => exact (hout W hR).elim
theorem enter_lay (cap : Array Value) (W : World) : (callFunc 51 cap).run Tryz.prog W = .ok (.enter 51 cap) W := enters_of Tryz.func51 (by kernel_rfl) rfl cap W
theorem enter_com1 (cap : Array Value) (W : World) : (callFunc 58 cap).run Tryz.prog W = .ok (.enter 58 cap) W := enters_of Tryz.func58 (by kernel_rfl) rfl cap W
set_option maxRecDepth 100000 in
set_option maxHeartbeats 2000000 in
theorem com1_any {A : Nat → Prop} {W : World} {b q p2 p3 p5 : Nat} {s : DiskS} (h : St A W b s) (hg : GeoLaid W) (hA : ∀ x, A x → nGlobals ≤ x) (ho : s.ops < 500000000) (e f g : Int) (h0 : ShS) (vn : Value) (which : Int) (q0 : 0 ≤ h0.seq) (q1 : h0.seq < 18446744073709551615)
    (h2 : Blk W p2 32 [pt q]) (h5 : Blk W p5 3 [.int .i64 which]) (v : Value) (h3 : Blk W p3 27 [v]) (hb : Blk W q 87 (shCells b e f g vn h0)) (bq off : Nat) (l : List Int) (hs : Sl .u8 W v bq off l) (hq : l = [] ∨ ¬ A bq) (hB : Bts l) (hl : l.length ≤ 100000) (n2 : ¬ A p2) (n5 : ¬ A p5) (n3 : ¬ A p3) (n7 : ¬ A q) :
    Calls Tryz.prog 58 #[pt p2, pt p5, pt p3] W (fun ee V => Outs (layS s which e f g (h0.seq + 1) l).2 ee ∧ St A V b (layS s which e f g (h0.seq + 1) l).1 ∧ KeptA A W V) := by
  have kd : Kept W W.drew [] := (Kept.refl W []).drew
  have HLY := Lib.hid (lay_any (h.kept0 kd) (hg.kept kd (by simp)) hA (by omega) which e f g (h0.seq + 1) (by omega) (by omega) v bq off l (hs.kept kd (.inr (by simp))) hq hB hl)
  obtain ⟨Ar, cr, rfl⟩ := hs.form
  have HK := Lib.hid (KeptA.of0 (A := A) kd)
  have HN := Lib.hid (And.intro n2 (And.intro n5 (And.intro n3 n7)))
  clear n2 n5 n3 n7
  have x1 : IntKind.u64.wrap (h0.seq + 1) = h0.seq + 1 := by rw [IntKind.wrap_u64]; omega
  have d2 := (h2.kept kd (by simp)).cell 0 rfl
  have d5 := (h5.kept kd (by simp)).cell 0 rfl
  have d3 := (h3.kept kd (by simp)).cell 0 rfl
  have hbd := hb.kept kd (by simp)
  have s0 := hbd.cell 0 rfl
  have s1 := hbd.cell 1 rfl
  have s2 := hbd.cell 2 rfl
  have s3 := hbd.cell 3 rfl
  have s5 := hbd.cell 5 rfl
  generalize layS s which e f g (h0.seq + 1) l = L at *
  obtain ⟨d, er⟩ := L
  generalize l.length = nl at *
  generalize h0.seq = sq at *
  clear h hg hA ho q0 q1 h2 h5 h3 hb hs hq hB hl hbd kd
  go_enter Tryz.func58, Tryz.ntmps58
  go_wp2_with fail
  go_region_held2 (fun W => W.cell? ⟨p2, 0, none⟩ = some (pt q) ∧ W.cell? ⟨p5, 0, none⟩ = some (.int .i64 which) ∧ W.cell? ⟨p3, 0, none⟩ = some (.slice Ar nl cr) ∧ W.cell? ⟨q, 0, none⟩ = some (pt b) ∧ W.cell? ⟨q, 1, none⟩ = some (.int .i64 e) ∧ W.cell? ⟨q, 2, none⟩ = some (.int .i64 f) ∧ W.cell? ⟨q, 3, none⟩ = some (.int .i64 g) ∧ W.cell? ⟨q, 5, none⟩ = some (.int .u64 sq)) (first | (with_reducible exact ⟨d2, d5, d3, s0, s1, s2, s3, s5⟩) | (with_reducible exact ⟨r2, r5, r3, t0, t1, t2, t3, t5⟩) | go_keep) (first
    | (refine step_call_at 51 _ _ HLY.out (enter_lay _) #[.tmp 6, .tmp 7, .tmp 11, .tmp 16, .tmp 17] #[28, 3, 23, 36, 27] ?_ ?_ ?_ ?_ ?_ ?_ ?_
       rfl
       rfl
       rfl
       (simp [Act.eval])
       (rintro V ⟨ho, _⟩; rcases ho with ⟨_, h⟩ | ⟨_, h⟩ <;> cases h)
       (rintro ch V ⟨ho, hS, hK⟩; exact ⟨rfl, ho, hS, HK.out.trans hK⟩)
       rintro vv V ⟨ho, hS, hK⟩
       obtain ⟨hz, hv⟩ : er = 0 ∧ vv = .tuple #[] := by
         rcases ho with ⟨h1, h2⟩ | ⟨_, h2⟩
         · cases h2; exact ⟨h1, rfl⟩
         · cases h2
       subst hv
       have r2 := hK.cell d2 HN.out.1
       have r5 := hK.cell d5 HN.out.2.1
       have r3 := hK.cell d3 HN.out.2.2.1
       have t0 := hK.cell s0 HN.out.2.2.2
       have t1 := hK.cell s1 HN.out.2.2.2
       have t2 := hK.cell s2 HN.out.2.2.2
       have t3 := hK.cell s3 HN.out.2.2.2
       have t5 := hK.cell s5 HN.out.2.2.2
       have HF := Lib.hid (And.intro hz (And.intro hS (HK.out.trans hK)))
       clear ho hS hK hz))
  all_goals (
    go_end0
    exact ⟨.inl ⟨HF.out.1, rfl⟩, HF.out.2.1, HF.out.2.2⟩)
/-- what a Commit leaves -/
def Committed (A : Nat → Prop) (W V : World) (b q : Nat) (e f g : Int) (R : DiskS × ShS × Int) : Prop :=
  KeptA (fun x => A x ∨ x = q) W V ∧ ∃ B : Nat → Prop, (∀ x, B x → A x) ∧ ShX B V b q e f g R.1 R.2.1
set_option maxRecDepth 100000 in
set_option maxHeartbeats 2000000 in
theorem commit_no {A : Nat → Prop} {W : World} {b q : Nat} {s : DiskS} {e f g : Int} {h0 : ShS} (hX : ShX A W b q e f g s h0) (v : Value) (bq off : Nat) (l : List Int) (hs : Sl .u8 W v bq off l) (hB : Bts l) (hnB : Bts h0.now) (hl : l.length ≤ 100000) (hnl : h0.now.length ≤ 100000) (hw : commitWhy h0 l ≠ -1) :
    Calls Tryz.prog 21 #[pt q, v] W (fun ee V => ee = .returned (.int .i64 (commitWhy h0 l)) ∧ Kept W V []) := by
  obtain ⟨vn, bn, on, hSt, hbq, hsn, hqn, hAq⟩ := hX.ex
  obtain ⟨n, hn⟩ : ∃ n, W.heap.size = n := ⟨_, rfl⟩
  obtain ⟨W1, hW1⟩ : ∃ W1, W1 = W.alloc (.cells #[pt q] 32) := ⟨_, rfl⟩
  have k1 : Kept W W1 [] := by rw [hW1]; exact (Kept.refl W []).alloc _
  have b1 : Blk W1 n 32 [pt q] := by rw [hW1, ← hn]; exact Blk.new _ _ _
  have s1 : W1.heap.size = n + 1 := by rw [hW1, World.size_alloc, hn]
  obtain ⟨Av, cv, rfl⟩ := hs.form
  obtain ⟨An, cn, rfl⟩ := hsn.form
  obtain ⟨W2, hW2⟩ : ∃ W2, W2 = W1.alloc (.cells #[.slice Av l.length cv] 27) := ⟨_, rfl⟩
  have k2 : Kept W1 W2 [] := by rw [hW2]; exact (Kept.refl W1 []).alloc _
  have b2 : Blk W2 (n + 1) 27 [.slice Av l.length cv] := by rw [hW2, ← s1]; exact Blk.new _ _ _
  have k := k1.trans k2 (by simp)
  have HB := Lib.hid (And.intro (b1.kept k2 (by simp)) (And.intro b2 (hbq.kept k (by simp))))
  have HK := Lib.hid k
  have HE := Lib.hid (fun V (kV : Kept W2 V []) => equal_any V Av An l.length cv h0.now.length cn bq off bn on l h0.now ((hs.kept k (.inr (by simp))).kept kV (.inr (by simp))) ((hsn.kept k (.inr (by simp))).kept kV (.inr (by simp))) hB hnB)
  have HW := Lib.hid hw
  have l0 : (0 : Int) ≤ l.length := by omega
  have l1 : (l.length : Int) ≤ 100000 := by omega
  have m0 : (0 : Int) ≤ h0.now.length := by omega
  have m1 : (h0.now.length : Int) ≤ 100000 := by omega
  have HC : Hid (commitWhy h0 l = if h0.stale = true then 11 else if l.length ≠ h0.now.length then 1 else if l = h0.now then 0 else if h0.seq = 18446744073709551615 then 12 else -1) := Lib.hid rfl
  clear hX hSt hbq hsn hqn hAq hs hB hnB hl hnl hw k1 b1 k2 b2 k
  obtain ⟨now, seq, which, stale⟩ := h0
  simp only at HB HE HC HW l0 l1 m0 m1
  generalize commitWhy ⟨now, seq, which, stale⟩ l = CW at *
  have c1 := HB.out.1.cell 0 rfl
  have c2 := HB.out.2.1.cell 0 rfl
  have s4 := HB.out.2.2.cell 4 rfl
  have s5 := HB.out.2.2.cell 5 rfl
  have s7 := HB.out.2.2.cell 7 rfl
  simp only at s4 s5 s7
  go_enter Tryz.func21, Tryz.ntmps21
  go_upto_region 1 with fail
  simp only [hn, ← hW1, s1, ← hW2]
  clear hn hW1 s1 hW2
  cases stale with
  | true =>
    have HE9 : Hid (CW = 11) := Lib.hid (by rw [HC.out]; rfl)
    go_wp2_with fail
    go_ret
    rw [HE9.out]
    exact ⟨rfl, HK.out⟩
  | false =>
  go_wp2_with fail
  by_cases hlen : l.length = now.length
  · have hli : (l.length : Int) = now.length := by omega
    have HLN := Lib.hid hlen
    have HE2 := HE
    have e4 : W2.drew.cell? ⟨q, 4, none⟩ = _ := s4
    have e1 : W2.drew.cell? ⟨n, 0, none⟩ = _ := c1
    have e2 : W2.drew.cell? ⟨n + 1, 0, none⟩ = _ := c2
    have e5 : W2.drew.cell? ⟨q, 5, none⟩ = _ := s5
    have kd : Kept W2 W2.drew.drew [] := (Kept.refl W2 []).drew.drew
    have HKD := Lib.hid kd
    have f4 : W2.drew.drew.cell? ⟨q, 4, none⟩ = _ := s4
    have f1 : W2.drew.drew.cell? ⟨n, 0, none⟩ = _ := c1
    have f2 : W2.drew.drew.cell? ⟨n + 1, 0, none⟩ = _ := c2
    have f5 : W2.drew.drew.cell? ⟨q, 5, none⟩ = _ := s5
    have t1 : ((l.length : Int) != (l.length : Int)) = false := by simp
    rw [← hlen] at s4 e4 f4 HE
    by_cases heq : l = now
    · have td : decide (l = now) = true := by simpa using heq
      rw [td] at HE
      have HE9 : Hid (CW = 0) := Lib.hid (by rw [HC.out, if_neg (by simp), if_neg (by simp [hlen]), if_pos heq])
      clear heq td HE2 hlen hli
      go_region
      go_wp2_with fail
      go_region_held3 (fun W => W.cell? ⟨n, 0, none⟩ = some (pt q) ∧ W.cell? ⟨n + 1, 0, none⟩ = some (.slice Av l.length cv) ∧ W.cell? ⟨q, 4, none⟩ = some (.slice An l.length cn)) (first | (with_reducible exact ⟨f1, f2, f4⟩) | go_keep) (first
        | (go_at_call 57; (with_reducible refine (HE.out _ HKD.out).mono ?_); rintro _ wy ⟨rfl, rfl⟩))
      all_goals (
        go_wp2_with fail
        go_ret
        rw [HE9.out]
        exact ⟨rfl, HK.out.trans HKD.out (by simp)⟩)
    · have td : decide (l = now) = false := by simpa using heq
      rw [td] at HE
      have hseq : seq = 18446744073709551615 := by
        by_cases h : seq = 18446744073709551615
        · exact h
        · exact absurd (by rw [HC.out, if_neg (by simp), if_neg (by simp [hlen]), if_neg heq, if_neg h]) HW.out
      have HE9 : Hid (CW = 12) := Lib.hid (by rw [HC.out, if_neg (by simp), if_neg (by simp [hlen]), if_neg heq, if_pos hseq])
      clear heq td HE2 hlen hli
      subst hseq
      go_region
      go_wp2_with fail
      go_region_held3 (fun W => W.cell? ⟨n, 0, none⟩ = some (pt q) ∧ W.cell? ⟨n + 1, 0, none⟩ = some (.slice Av l.length cv) ∧ W.cell? ⟨q, 4, none⟩ = some (.slice An l.length cn)) (first | (with_reducible exact ⟨f1, f2, f4⟩) | go_keep) (first
        | (go_at_call 57; (with_reducible refine (HE.out _ HKD.out).mono ?_); rintro _ wy ⟨rfl, rfl⟩))
      all_goals (
        go_wp2_with fail
        go_ret
        rw [HE9.out]
        exact ⟨rfl, HK.out.trans HKD.out (by simp)⟩)
  · have hli : ¬ ((l.length : Int) = now.length) := by omega
    have t1 : ((l.length : Int) != (now.length : Int)) = true := by rw [bne_iff_ne]; exact hli
    have HE9 : Hid (CW = 1) := Lib.hid (by rw [HC.out, if_neg (by simp), if_pos hlen])
    have e4 : W2.drew.cell? ⟨q, 4, none⟩ = _ := s4
    have e1 : W2.drew.cell? ⟨n, 0, none⟩ = _ := c1
    have e2 : W2.drew.cell? ⟨n + 1, 0, none⟩ = _ := c2
    have HKD := Lib.hid ((Kept.refl W2 []).drew)
    clear HE HC hlen
    go_region
    all_goals (
      go_wp2_with fail
      go_ret
      rw [HE9.out]
      exact ⟨rfl, HK.out.trans HKD.out (by simp)⟩)
end Go.Proofs.YtcikhnkehglkgaaGreatDoor
