/- PROVED: the contract of shadow.Format. No conditions beyond those that each theorem states. -/
import Derived.Test.YtcikhnkehglkgaaGreatDoorShB
import Derived.Test.YtcikhnkehglkgaaGreatDoorShE
namespace Go.Proofs.YtcikhnkehglkgaaGreatDoor
open Go.RowKit Go.Proofs.YtcikhnkehglkgaaGreatDoorLib Go.Shelf
set_option linter.unusedSimpArgs false
set_option linter.unusedVariables false

/-- what is new is held -/
theorem St.hold_new {A : Nat → Prop} {W V : World} {b : Nat} {s : DiskS} (h : St A W b s) (k : Kept W V []) (q : Nat) (C : Prop) (hq : C ∨ (W.heap.size ≤ q ∧ q < V.heap.size)) : St (fun x => A x ∧ (x ≠ q ∨ C)) V b s := by
  obtain ⟨⟨F, h1, h2⟩, h3⟩ := h
  refine ⟨⟨F, h1.kept k (by simp), fun x hx => ⟨h2 x hx, ?_⟩⟩, fun x hx => ⟨h3 x (Nat.le_trans k.size hx), ?_⟩⟩
  · rcases hq with h | h
    · exact .inr h
    · have := h1.lt x hx; exact .inl (by omega)
  · rcases hq with h | h
    · exact .inr h
    · exact .inl (by omega)
/-- a block that the disk avoids is turned -/
theorem St.turn {A : Nat → Prop} {W V : World} {b p : Nat} {s : DiskS} (h : St (fun x => A x ∧ x ≠ p) W b s) (k : Kept W V [p]) : St (fun x => A x ∧ x ≠ p) V b s := by
  obtain ⟨⟨F, h1, h2⟩, h3⟩ := h
  exact ⟨⟨F, h1.kept k (fun x hx hm => by simp at hx; exact (h2 x hm).2 hx), h2⟩, fun x hx => h3 x (Nat.le_trans k.size hx)⟩
theorem wipes_le (s : DiskS) (e f g : Int) : (wipesM s e f g).1.ops ≤ s.ops + 3 := by
  have a := (wipeM_le s 0 e f g).2
  have b := (wipeM_le (wipeM s 0 e f g).1 1 e f g).2
  have c := (sync_le (wipeM (wipeM s 0 e f g).1 1 e f g).1).2
  unfold wipesM
  split
  · omega
  split
  · omega
  · omega
theorem sync_err (s : DiskS) : True := trivial
/-- an operation that told OK: the chips are right -/
theorem wipes_right {s : DiskS} {e f g : Int} (h : (wipesM s e f g).2 = 0) : gRight e f g = true := by
  have hz : (wipeM s 0 e f g).2 = 0 := by
    unfold wipesM at h
    by_cases h1 : (wipeM s 0 e f g).2 ≠ 0
    · rw [if_pos h1] at h; exact absurd h h1
    · omega
  have hw : atWhy s 0 e f g = 0 := by
    unfold wipeM at hz
    by_cases h1 : atWhy s 0 e f g ≠ 0
    · rw [if_pos h1] at hz; exact absurd hz h1
    · omega
  exact (atWhy_yes hw).1
set_option maxRecDepth 100000 in
set_option maxHeartbeats 1000000 in
theorem form1_any {A : Nat → Prop} {W : World} {b p2 p3 : Nat} {s : DiskS} (h : St A W b s) (hg : GeoLaid W) (hA : ∀ x, A x → nGlobals ≤ x) (ho : s.ops < 500000000) (e f g : Int) (h8 : gTotal e f g ≤ 8192)
    (h2 : Blk W p2 28 [pt b]) (h3 : Blk W p3 23 [.int .i64 e, .int .i64 f, .int .i64 g]) (n2 : ¬ A p2) (n3 : ¬ A p3) :
    Calls Tryz.prog 46 #[pt p2, pt p3] W (fun ee V => Outs (formatM s e f g).2 ee ∧ St A V b (formatM s e f g).1 ∧ KeptA A W V) := by
  have hL : formatM s e f g = (if (wipesM s e f g).2 ≠ 0 then wipesM s e f g else layS (wipesM s e f g).1 0 e f g 1 (facL e f g)) := rfl
  have hM : wipesM s e f g = (if (wipeM s 0 e f g).2 ≠ 0 then wipeM s 0 e f g else if (wipeM (wipeM s 0 e f g).1 1 e f g).2 ≠ 0 then wipeM (wipeM s 0 e f g).1 1 e f g else (wipeM (wipeM s 0 e f g).1 1 e f g).1.sync) := rfl
  have hR := fun h => wipes_right (s := s) (e := e) (f := f) (g := g) h
  have o1 := (wipeM_le s 0 e f g).2
  have o2 := (wipeM_le (wipeM s 0 e f g).1 1 e f g).2
  have o3 := (sync_le (wipeM (wipeM s 0 e f g).1 1 e f g).1).2
  have HD := Lib.hid (wipe_st h hg hA (by omega) 0 e f g)
  have HG := Lib.hid (And.intro hg hA)
  have HB := Lib.hid (And.intro h2 h3)
  have HNN := Lib.hid (And.intro n2 n3)
  have HW := Lib.hid (fun (t : DiskS) (V : World) (hS : St A V b t) (hV : GeoLaid V) (ho : t.ops < 700000000) => wipe_st hS hV hA ho 1 e f g)
  have HLY := Lib.hid (fun (t : DiskS) (V : World) (B : Nat → Prop) (hB : ∀ x, B x → A x) (hS : St B V b t) (hV : GeoLaid V) (ho : t.ops < 600000000) (v : Value) (bq off : Nat) (hv : Sl .u8 V v bq off (facL e f g)) (hq : facL e f g = [] ∨ ¬ B bq) (hl : (facL e f g).length ≤ 100000) => lay_any hS hV (fun x hx => hA x (hB x hx)) ho 0 e f g 1 (by decide) (by decide) v bq off (facL e f g) hv hq (facL_bts e f g) hl)
  have HFA := Lib.hid (fun (V : World) (hV : GeoLaid V) (hr : gRight e f g = true) => factory_any V hV e f g hr h8)
  have HFL := Lib.hid (fun hr => show (facL e f g).length ≤ 100000 by rw [facL_len hr]; omega)
  generalize formatM s e f g = L at *
  generalize wipesM s e f g = M at *
  obtain ⟨m1, em⟩ := M
  generalize wipeM s 0 e f g = D at *
  obtain ⟨d1, e1⟩ := D
  simp only at hL hM o1 o2 o3 hR
  generalize hY : wipeM d1 1 e f g = Y at *
  obtain ⟨d2, e2⟩ := Y
  simp only at hM o2 o3
  generalize hZ : d2.sync = Z at *
  obtain ⟨d3, e3⟩ := Z
  simp only at hM o3
  have HL := Lib.hid (And.intro hL trivial)
  have HM := Lib.hid (And.intro hM trivial)
  have HY := Lib.hid (And.intro hY trivial)
  have HZ := Lib.hid (And.intro hZ trivial)
  have HRR := Lib.hid hR
  have HO := Lib.hid (And.intro ho (And.intro o1 (And.intro o2 o3)))
  have c2 := h2.cell 0 rfl
  have g0 := h3.cell 0 rfl
  have g1 := h3.cell 1 rfl
  have g2 := h3.cell 2 rfl
  clear h hg hA ho h2 h3 n2 n3 hL hM hY hZ hR o1 o2 o3 h8
  go_enter Tryz.func46, Tryz.ntmps46
  go_wp2_with fail
  refine HD.out.mono ?_
  rintro _ V1 ⟨rfl, hS, hK⟩
  have HS := Lib.hid hS
  have HB1 := Lib.hid (And.intro (hK.blk HB.out.1 HNN.out.1) (hK.blk HB.out.2 HNN.out.2))
  have HG1 := Lib.hid (hK.geo HG.out.1 HG.out.2)
  have HKA1 := Lib.hid (hK)
  clear hS hK c2 g0 g1 g2
  have c2 := HB1.out.1.cell 0 rfl
  have g0 := HB1.out.2.cell 0 rfl
  have g1 := HB1.out.2.cell 1 rfl
  have g2 := HB1.out.2.cell 2 rfl
  have HC0 := Lib.hid (HW.out _ _ HS.out HG1.out (by have := HO.out; (try simp only); omega))
  simp only at HC0
  rw [HY.out.1] at HC0
  go_wp2_with fail
  by_cases hz : e1 ≠ 0
  · refine (must_no _ _ hz).mono ?_
    rintro _ _ ⟨rfl, rfl⟩
    refine ⟨rfl, ?_⟩
    have hm := HM.out.1
    rw [if_pos hz] at hm
    simp only [Prod.mk.injEq] at hm
    obtain ⟨rfl, rfl⟩ := hm
    rw [HL.out.1, if_pos hz]
    exact ⟨.inr ⟨hz, rfl⟩, HS.out, HKA1.out⟩
  obtain rfl : e1 = 0 := by omega
  clear hz
  refine (must_ok _).mono ?_
  rintro _ _ ⟨rfl, rfl⟩
  go_wp2_with fail
  refine HC0.out.mono ?_
  rintro _ V2 ⟨rfl, hS, hK⟩
  have HS := Lib.hid hS
  have HB2 := Lib.hid (And.intro (hK.blk HB1.out.1 HNN.out.1) (hK.blk HB1.out.2 HNN.out.2))
  have HG2 := Lib.hid (hK.geo HG1.out HG.out.2)
  have HKA2 := Lib.hid (HKA1.out.trans hK)
  clear hS hK c2 g0 g1 g2
  have c2 := HB2.out.1.cell 0 rfl
  have g0 := HB2.out.2.cell 0 rfl
  have g1 := HB2.out.2.cell 1 rfl
  have g2 := HB2.out.2.cell 2 rfl
  have HC1 := Lib.hid (sync_st HS.out (by have := HO.out; (try simp only); omega))
  simp only at HC1
  rw [HZ.out.1] at HC1
  go_wp2_with fail
  by_cases hz : e2 ≠ 0
  · refine (must_no _ _ hz).mono ?_
    rintro _ _ ⟨rfl, rfl⟩
    refine ⟨rfl, ?_⟩
    have hm := HM.out.1
    rw [if_neg (by simp), if_pos hz] at hm
    simp only [Prod.mk.injEq] at hm
    obtain ⟨rfl, rfl⟩ := hm
    rw [HL.out.1, if_pos hz]
    exact ⟨.inr ⟨hz, rfl⟩, HS.out, HKA2.out⟩
  obtain rfl : e2 = 0 := by omega
  clear hz
  refine (must_ok _).mono ?_
  rintro _ _ ⟨rfl, rfl⟩
  go_wp2_with fail
  refine HC1.out.mono ?_
  rintro _ V3 ⟨rfl, hS, hK⟩
  have HS := Lib.hid hS
  have HB3 := Lib.hid (And.intro (hK.blk HB2.out.1 HNN.out.1) (hK.blk HB2.out.2 HNN.out.2))
  have HG3 := Lib.hid (hK.geo HG2.out HG.out.2)
  have HKA3 := Lib.hid (HKA2.out.trans hK)
  clear hS hK c2 g0 g1 g2
  have c2 := HB3.out.1.cell 0 rfl
  have g0 := HB3.out.2.cell 0 rfl
  have g1 := HB3.out.2.cell 1 rfl
  have g2 := HB3.out.2.cell 2 rfl
  go_wp2_with fail
  by_cases hz : e3 ≠ 0
  · refine (must_no _ _ hz).mono ?_
    rintro _ _ ⟨rfl, rfl⟩
    refine ⟨rfl, ?_⟩
    have hm := HM.out.1
    rw [if_neg (by simp), if_neg (by simp)] at hm
    simp only [Prod.mk.injEq] at hm
    obtain ⟨rfl, rfl⟩ := hm
    rw [HL.out.1, if_pos hz]
    exact ⟨.inr ⟨hz, rfl⟩, HS.out, HKA3.out⟩
  obtain rfl : e3 = 0 := by omega
  clear hz
  refine (must_ok _).mono ?_
  rintro _ _ ⟨rfl, rfl⟩
  go_wp2_with fail
  have hm := HM.out.1
  rw [if_neg (by simp), if_neg (by simp)] at hm
  simp only [Prod.mk.injEq] at hm
  obtain ⟨rfl, rfl⟩ := hm
  have hr := HRR.out rfl
  have HRI := Lib.hid (And.intro hr trivial)
  clear hr
  refine (HFA.out _ HG3.out HRI.out.1).mono ?_
  rintro _ V4 ⟨v, q, o, rfl, hv, hq, k4⟩
  have HS4 := Lib.hid (HS.out.hold_new k4 q (facL e f g = []) (by
    by_cases e0 : facL e f g = []
    · exact .inl e0
    · exact .inr ⟨hq.resolve_left e0, hv.lt e0⟩))
  have HC3 := Lib.hid (HLY.out _ _ _ (fun x hx => hx.1) HS4.out (HG3.out.kept k4 (by simp)) (by have := HO.out; (try simp only); omega) v q o hv (by
    by_cases e0 : facL e f g = []
    · exact .inl e0
    · exact .inr (fun h => h.2.elim (fun h => h rfl) e0)) (HFL.out HRI.out.1))
  have HB4 := Lib.hid (And.intro (HB3.out.1.kept k4 (by simp)) (HB3.out.2.kept k4 (by simp)))
  have HKA4 := Lib.hid (HKA3.out.trans (KeptA.of0 k4))
  clear hv hq k4 c2 g0 g1 g2
  have c2 := HB4.out.1.cell 0 rfl
  have g0 := HB4.out.2.cell 0 rfl
  have g1 := HB4.out.2.cell 1 rfl
  have g2 := HB4.out.2.cell 2 rfl
  go_wp2_with fail
  refine (must_ok _).mono ?_
  rintro _ _ ⟨rfl, rfl⟩
  go_wp2_with fail
  refine HC3.out.mono ?_
  rintro ee V5 ⟨ho, hS, hK⟩
  have HF := Lib.hid (And.intro (hS.more (B := A) (fun x hx => hx.1)) (HKA4.out.trans (hK.mono (fun x hx => hx.1))))
  clear hS hK
  rcases ho with ⟨hz, rfl⟩ | ⟨hz, rfl⟩
  · have HZZ := Lib.hid (And.intro hz trivial)
    clear hz
    go_wp2_with fail
    go_end0
    rw [HL.out.1, if_neg (by simp)]
    exact ⟨.inl ⟨HZZ.out.1, rfl⟩, HF.out.1, HF.out.2⟩
  · refine ⟨rfl, ?_⟩
    rw [HL.out.1, if_neg (by simp)]
    exact ⟨.inr ⟨hz, rfl⟩, HF.out.1, HF.out.2⟩
theorem enter_form1 (cap : Array Value) (W : World) : (callFunc 46 cap).run Tryz.prog W = .ok (.enter 46 cap) W := enters_of Tryz.func46 (by kernel_rfl) rfl cap W
set_option maxRecDepth 100000 in
set_option maxHeartbeats 1000000 in
theorem format_any {A : Nat → Prop} {W : World} {b : Nat} {s : DiskS} (h : St A W b s) (hg : GeoLaid W) (hA : ∀ x, A x → nGlobals ≤ x) (ho : s.ops < 500000000) (e f g : Int) (h8 : gTotal e f g ≤ 8192) :
    Calls Tryz.prog 14 #[pt b, .agg #[.int .i64 e, .int .i64 f, .int .i64 g]] W (After A W b (formatM s e f g)) := by
  have hmf : ∀ (fn : Fn) (first cap : Array Value) (w : World), (Instr.makeFunc fn first cap).run Tryz.prog w = .ok (.func fn first cap) w := fun _ _ _ _ => rfl
  obtain ⟨n, hn⟩ : ∃ n, W.heap.size = n := ⟨_, rfl⟩
  obtain ⟨W1, hW1⟩ : ∃ W1, W1 = W.alloc (.cells #[pt b] 28) := ⟨_, rfl⟩
  have b1 : Blk W1 n 28 [pt b] := by rw [hW1, ← hn]; exact Blk.new _ _ _
  have k1 : Kept W W1 [] := by rw [hW1]; exact (Kept.refl W []).alloc _
  have s1 : W1.heap.size = n + 1 := by rw [hW1, World.size_alloc, hn]
  have S1 : St (fun x => A x ∧ x ≠ n) W1 b s := by rw [hW1, ← hn]; exact h.alloc_hold _
  obtain ⟨W2, hW2⟩ : ∃ W2, W2 = W1.alloc (.cells #[.int .i64 e, .int .i64 f, .int .i64 g] 23) := ⟨_, rfl⟩
  have b2 : Blk W2 (n + 1) 23 [.int .i64 e, .int .i64 f, .int .i64 g] := by rw [hW2, ← s1]; exact Blk.new _ _ _
  have k2 : Kept W1 W2 [] := by rw [hW2]; exact (Kept.refl W1 []).alloc _
  have s2 : W2.heap.size = n + 2 := by rw [hW2, World.size_alloc, s1]
  have S2 : St (fun x => (A x ∧ x ≠ n) ∧ x ≠ n + 1) W2 b s := by rw [hW2, ← s1]; exact S1.alloc_hold _
  have g2 : GeoLaid W2 := hg.kept (k1.trans k2 (by simp)) (by simp)
  have HT := Lib.hid (tried_any W2 46 #[pt n, pt (n + 1)] (fun er V => er = (formatM s e f g).2 ∧ St (fun x => ((A x ∧ x ≠ n) ∧ x ≠ n + 1) ∧ x ≠ n + 2) V b (formatM s e f g).1 ∧ KeptA A W V) (enter_form1 _) (fun W3 hW3 => by
    have k3 : Kept W2 W3 [] := by rw [hW3]; exact (Kept.refl W2 []).alloc _
    have S3 : St (fun x => ((A x ∧ x ≠ n) ∧ x ≠ n + 1) ∧ x ≠ n + 2) W3 b s := by rw [hW3, ← s2]; exact S2.alloc_hold _
    have b3 : Blk W3 (n + 2) 30 [.int .i64 0] := by rw [hW3, ← s2]; exact Blk.new _ _ _
    refine (form1_any S3 (g2.kept k3 (by simp)) (fun x hx => hA x hx.1.1.1) ho e f g h8 ((b1.kept k2 (by simp)).kept k3 (by simp)) (b2.kept k3 (by simp)) (fun hx => hx.1.1.2 rfl) (fun hx => hx.1.2 rfl)).mono ?_
    rintro ee V ⟨hO, hS, hK⟩
    rw [s2]
    exact ⟨_, hO, ⟨rfl, hS, (KeptA.of0 ((k1.trans k2 (by simp)).trans k3 (by simp))).trans (hK.mono (fun x hx => hx.1.1.1))⟩, hK.blk b3 (fun hx => hx.2 rfl)⟩))
  rw [s2] at HT
  have HUP := Lib.hid (h.up (n + 2) (by omega))
  generalize formatM s e f g = L at *
  clear h hg hA ho h8 b1 k1 S1 b2 k2 S2 g2
  go_enter Tryz.func14, Tryz.ntmps14
  go_upto_region 1 with fail
  simp only [hn, ← hW1, s1, ← hW2]
  clear hn hW1 s1 hW2 s2
  go_wp2_with fail
  refine HT.out.mono ?_
  rintro _ V' ⟨er, V, rfl, ⟨rfl, hS, hK⟩, hk⟩
  have hS' := St.turn hS hk
  have HF := Lib.hid (And.intro (hS'.more (B := A) (fun x hx => hx.1.1.1)) (hK.trans (KeptA.of hk (fun x hx => by simp at hx; subst hx; exact HUP.out))))
  clear hS hK hk hS'
  go_wp2_with fail
  go_ret
  exact ⟨rfl, HF.out.1, HF.out.2⟩
end Go.Proofs.YtcikhnkehglkgaaGreatDoor
