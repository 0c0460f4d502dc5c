/- PROVED: the contract of shadow.Open. No conditions beyond those that each theorem states. -/
import Derived.Test.YtcikhnkehglkgaaGreatDoorShF
import Derived.Test.YtcikhnkehglkgaaGreatDoorShG
namespace Go.Proofs.YtcikhnkehglkgaaGreatDoor
open Go.RowKit Go.Proofs.YtcikhnkehglkgaaGreatDoorLib Go.Shelf
set_option linter.unusedSimpArgs false
set_option linter.unusedVariables false

theorem sync_size (s : DiskS) : s.sync.1.size = s.size := by unfold DiskS.sync; split <;> rfl
theorem readsM_size (s : DiskS) (a n : Nat) : (readsM s a n).1.size = s.size := by
  induction n generalizing s a with
  | zero => rfl
  | succ n ih =>
    rw [readsM]
    split
    · rfl
    · exact ih s.tick (a + 1)
theorem readM_size (s : DiskS) (which e f g : Int) : (readM s which e f g).1.size = s.size := by
  have h := readsM_size s.tick (which.toNat * spanN s.size e f g + 1) (spanN s.size e f g - 1)
  unfold readM
  split
  · rfl
  split
  · rfl
  split
  · rfl
  split
  · rfl
  split
  · exact h
  split
  · exact h
  · exact h
theorem openM_eq {s d1 d2 d3 : DiskS} {e f g e1 e2 e3 : Int} {r0 r1 : SlotR} (h1 : s.sync = (d1, e1)) (h2 : readM d1 0 e f g = (d2, r0, e2)) (h3 : readM d2 1 e f g = (d3, r1, e3)) :
    openM s e f g = (if canM s e f g ≠ 0 then (s, ⟨[], 0, 0, false⟩, canM s e f g) else if e1 ≠ 0 then (d1, ⟨[], 0, 0, false⟩, e1) else if e2 ≠ 0 then (d2, ⟨[], 0, 0, false⟩, e2) else if e3 ≠ 0 then (d3, ⟨[], 0, 0, false⟩, e3) else
      if (bestM r0 r1).1.st = 1 then (d3, ⟨[], 0, 0, false⟩, 9) else if (bestM r0 r1).1.st = 0 then (d3, ⟨[], 0, 0, false⟩, 10) else (d3, ⟨(bestM r0 r1).1.img, (bestM r0 r1).1.seq, (bestM r0 r1).2, false⟩, 0)) := by
  unfold openM bothM
  rw [h1]
  simp only
  rw [h2]
  simp only
  rw [h3]
  simp only
  by_cases c0 : canM s e f g ≠ 0
  · rw [if_pos c0, if_pos c0]
  rw [if_neg c0, if_neg c0]
  by_cases c1 : e1 ≠ 0
  · simp only [if_pos c1]
  simp only [if_neg c1]
  by_cases c2 : e2 ≠ 0
  · simp only [if_pos c2]
  simp only [if_neg c2]
/-- a shadow as it lies -/
abbrev shCells (b : Nat) (e f g : Int) (v : Value) (h : ShS) : List Value := [pt b, .int .i64 e, .int .i64 f, .int .i64 g, v, .int .u64 h.seq, .int .i64 h.which, .bool h.stale]
/-- what Open's closure leaves -/
def Opened (A : Nat → Prop) (W V : World) (b q : Nat) (e f g : Int) (R : DiskS × ShS × Int) : Prop :=
  ∃ v bq, St (fun x => A x ∧ (x ≠ bq ∨ R.2.1.now = [])) V b R.1 ∧ Blk V q 87 (shCells b e f g v R.2.1) ∧ Sl .u8 V v bq 0 R.2.1.now ∧ (R.2.1.now = [] ∨ (W.heap.size ≤ bq ∧ bq < V.heap.size)) ∧ KeptA (fun x => A x ∨ x = q) W V
theorem Opened.none {A : Nat → Prop} {W V : World} {b q : Nat} {e f g er : Int} {d : DiskS} (hS : St A V b d) (hb : Blk V q 87 (shCells b e f g (.slice none 0 0) ⟨[], 0, 0, false⟩)) (hK : KeptA A W V) : Opened A W V b q e f g (d, ⟨[], 0, 0, false⟩, er) :=
  ⟨_, 0, hS.more (fun x hx => ⟨hx, .inr rfl⟩), hb, Sl.nil _ _ _ _, .inl rfl, hK.mono (fun x hx => .inl hx)⟩
set_option maxRecDepth 100000 in
set_option maxHeartbeats 2000000 in
theorem open1_any {A : Nat → Prop} {W : World} {b p2 p3 p6 q : Nat} {s : DiskS} (h : St A W b s) (hg : GeoLaid W) (hA : ∀ x, A x → nGlobals ≤ x) (ho : s.ops < 500000000) (e f g : Int) (hsm : spanN s.size e f g ≤ 201)
    (h2 : Blk W p2 28 [pt b]) (h3 : Blk W p3 23 [.int .i64 e, .int .i64 f, .int .i64 g]) (h6 : Blk W p6 32 [pt q]) (h7 : Blk W q 87 (shCells b e f g (.slice none 0 0) ⟨[], 0, 0, false⟩)) (n2 : ¬ A p2) (n3 : ¬ A p3) (n6 : ¬ A p6) (n7 : ¬ A q) (d6 : p6 ≠ q) :
    Calls Tryz.prog 52 #[pt p2, pt p3, pt p6] W (fun ee V => Outs (openM s e f g).2.2 ee ∧ Opened A W V b q e f g (openM s e f g)) := by
  have hp : ∀ (er : Int) (w : World), (Instr.panic (.iface 30 (.int .i64 er))).run Tryz.prog w = .halt (.panic (.iface 30 (.int .i64 er))) w := fun _ _ => rfl
  obtain ⟨⟨d1, e1⟩, hY⟩ : ∃ Y, s.sync = Y := ⟨_, rfl⟩
  obtain ⟨⟨d2, r0, e2⟩, hR0⟩ : ∃ Y, readM d1 0 e f g = Y := ⟨_, rfl⟩
  obtain ⟨⟨d3, r1, e3⟩, hR1⟩ : ∃ Y, readM d2 1 e f g = Y := ⟨_, rfl⟩
  have hL := openM_eq hY hR0 hR1
  have o1 := (sync_le s).2
  rw [hY] at o1
  have z1 := sync_size s
  rw [hY] at z1
  have o2 := (readM_le d1 0 e f g).2
  rw [hR0] at o2
  have z2 := readM_size d1 0 e f g
  rw [hR0] at z2
  simp only at o1 o2 z1 z2
  have HCN := Lib.hid (can_any h hg e f g)
  have HLY := Lib.hid (And.intro hY (And.intro hR0 hR1))
  have HOP := Lib.hid (And.intro ho (And.intro o1 o2))
  have HSZ := Lib.hid (show spanN d1.size e f g ≤ 201 ∧ spanN d2.size e f g ≤ 201 by rw [z2, z1]; exact ⟨hsm, hsm⟩)
  have HB := Lib.hid (And.intro h2 (And.intro h3 (And.intro h6 h7)))
  have HN := Lib.hid (And.intro n2 (And.intro n3 (And.intro n6 n7)))
  have HG := Lib.hid (And.intro hg hA)
  have HS0 := Lib.hid h
  have HSY := Lib.hid (fun (V : World) (hS : St A V b s) => sync_st hS (by omega))
  rw [hY] at HSY
  generalize openM s e f g = L at *
  generalize canM s e f g = e0 at *
  have HL := Lib.hid (And.intro hL trivial)
  have HD6 := Lib.hid (And.intro d6 trivial)
  clear h hg hA ho hsm h2 h3 h6 h7 n2 n3 n6 n7 hY hR0 hR1 hL o1 o2 z1 z2 d6
  have c2 := HB.out.1.cell 0 rfl
  have g0 := HB.out.2.1.cell 0 rfl
  have g1 := HB.out.2.1.cell 1 rfl
  have g2 := HB.out.2.1.cell 2 rfl
  go_enter Tryz.func52, Tryz.ntmps52
  go_wp2_with fail
  refine HCN.out.mono ?_
  rintro _ V1 ⟨rfl, k⟩
  have HS1 := Lib.hid (HS0.out.kept0 k)
  have HB1 := Lib.hid (And.intro (HB.out.1.kept k (by simp)) (And.intro (HB.out.2.1.kept k (by simp)) (And.intro (HB.out.2.2.1.kept k (by simp)) (HB.out.2.2.2.kept k (by simp)))))
  have HG1 := Lib.hid (HG.out.1.kept k (by simp))
  have HK1 := Lib.hid (KeptA.of0 (A := A) k)
  clear k c2 g0 g1 g2
  have c2 := HB1.out.1.cell 0 rfl
  have g0 := HB1.out.2.1.cell 0 rfl
  have g1 := HB1.out.2.1.cell 1 rfl
  have g2 := HB1.out.2.1.cell 2 rfl
  go_wp2_with fail
  by_cases hz : e0 ≠ 0
  · refine (must_no _ _ hz).mono ?_
    rintro _ _ ⟨rfl, rfl⟩
    refine ⟨rfl, ?_⟩
    rw [HL.out.1, if_pos hz]
    exact ⟨.inr ⟨hz, rfl⟩, Opened.none (HS1.out) HB1.out.2.2.2 HK1.out⟩
  obtain rfl : e0 = 0 := by omega
  clear hz
  refine (must_ok _).mono ?_
  rintro _ _ ⟨rfl, rfl⟩
  go_wp2_with fail
  refine (HSY.out _ HS1.out).mono ?_
  rintro _ V2 ⟨rfl, hS, hK⟩
  have HS2 := Lib.hid hS
  have HB2 := Lib.hid (And.intro (hK.blk HB1.out.1 HN.out.1) (And.intro (hK.blk HB1.out.2.1 HN.out.2.1) (And.intro (hK.blk HB1.out.2.2.1 HN.out.2.2.1) (hK.blk HB1.out.2.2.2 HN.out.2.2.2))))
  have HG2 := Lib.hid (hK.geo HG1.out HG.out.2)
  have HK2 := Lib.hid (HK1.out.trans hK)
  have HRD := Lib.hid (read_st hS HG2.out HG.out.2 (by have := HOP.out; (try simp only); omega) 0 e f g HSZ.out.1)
  simp only at HRD
  rw [HLY.out.2.1] at HRD
  clear hS hK c2 g0 g1 g2
  have c2 := HB2.out.1.cell 0 rfl
  have g0 := HB2.out.2.1.cell 0 rfl
  have g1 := HB2.out.2.1.cell 1 rfl
  have g2 := HB2.out.2.1.cell 2 rfl
  go_wp2_with fail
  by_cases hz : e1 ≠ 0
  · refine (must_no _ _ hz).mono ?_
    rintro _ _ ⟨rfl, rfl⟩
    refine ⟨rfl, ?_⟩
    rw [HL.out.1, if_neg (by simp), if_pos hz]
    exact ⟨.inr ⟨hz, rfl⟩, Opened.none (HS2.out) HB2.out.2.2.2 HK2.out⟩
  obtain rfl : e1 = 0 := by omega
  clear hz
  refine (must_ok _).mono ?_
  rintro _ _ ⟨rfl, rfl⟩
  go_wp2_with fail
  refine HRD.out.mono ?_
  rintro _ V3 ⟨A0, c0, i0, rfl, hsl, hqi, hS, hK⟩
  have HS3 := Lib.hid hS
  have HB3 := Lib.hid (And.intro (hK.blk HB2.out.1 HN.out.1) (And.intro (hK.blk HB2.out.2.1 HN.out.2.1) (And.intro (hK.blk HB2.out.2.2.1 HN.out.2.2.1) (hK.blk HB2.out.2.2.2 HN.out.2.2.2))))
  have HG3 := Lib.hid (hK.geo HG2.out HG.out.2)
  have HK3 := Lib.hid (HK2.out.trans hK)
  have HI0 := Lib.hid (And.intro hsl hqi)
  obtain ⟨m0, hm0⟩ : ∃ m0, V3.heap.size = m0 := ⟨_, rfl⟩
  obtain ⟨V4, hV4⟩ : ∃ V4, V4 = V3.alloc (.cells #[.int .i64 r0.st, .int .i64 r0.why, .int .u64 r0.seq, .slice A0 r0.img.length c0] 89) := ⟨_, rfl⟩
  have k4 : Kept V3 V4 [] := by rw [hV4]; exact (Kept.refl V3 []).alloc _
  have b4 : Blk V4 m0 89 [.int .i64 r0.st, .int .i64 r0.why, .int .u64 r0.seq, .slice A0 r0.img.length c0] := by rw [hV4, ← hm0]; exact Blk.new _ _ _
  have S4 : St (fun x => (A x ∧ (x ≠ i0 ∨ r0.img = [])) ∧ x ≠ m0) V4 b d2 := by rw [hV4, ← hm0]; exact hS.alloc_hold _
  have HS4 := Lib.hid S4
  have HB4 := Lib.hid (And.intro (HB3.out.1.kept k4 (by simp)) (And.intro (HB3.out.2.1.kept k4 (by simp)) (And.intro (HB3.out.2.2.1.kept k4 (by simp)) (HB3.out.2.2.2.kept k4 (by simp)))))
  have HX4 := Lib.hid b4
  have HI4 := Lib.hid (And.intro (hsl.kept k4 (.inr (by simp))) (hqi.imp id (fun h => (⟨h.1, Nat.lt_of_lt_of_le h.2 k4.size⟩ : _ ∧ _))))
  have HG4 := Lib.hid (HG3.out.kept k4 (by simp))
  have HK4 := Lib.hid (HK3.out.trans (KeptA.of0 k4))
  have HRD1 := Lib.hid (read_st S4 HG4.out (fun x hx => HG.out.2 x hx.1.1) (by have := HOP.out; omega) 1 e f g HSZ.out.2)
  rw [HLY.out.2.2] at HRD1
  clear hS hK c2 g0 g1 g2 hsl hqi k4 b4 S4
  go_upto_region 3 with fail
  simp only [hm0, ← hV4]
  clear hm0 hV4
  have c2 := HB4.out.1.cell 0 rfl
  have g0 := HB4.out.2.1.cell 0 rfl
  have g1 := HB4.out.2.1.cell 1 rfl
  have g2 := HB4.out.2.1.cell 2 rfl
  go_wp2_with fail
  by_cases hz : e2 ≠ 0
  · refine (must_no _ _ hz).mono ?_
    rintro _ _ ⟨rfl, rfl⟩
    refine ⟨rfl, ?_⟩
    rw [HL.out.1, if_neg (by simp), if_neg (by simp), if_pos hz]
    exact ⟨.inr ⟨hz, rfl⟩, Opened.none (HS4.out.more (fun x hx => hx.1.1)) HB4.out.2.2.2 HK4.out⟩
  obtain rfl : e2 = 0 := by omega
  clear hz
  refine (must_ok _).mono ?_
  rintro _ _ ⟨rfl, rfl⟩
  go_wp2_with fail
  refine HRD1.out.mono ?_
  rintro _ V5 ⟨A1, c1, i1, rfl, hsl, hqi, hS, hK⟩
  have HB5 := Lib.hid (And.intro (hK.blk HB4.out.1 (fun h => HN.out.1 h.1.1)) (And.intro (hK.blk HB4.out.2.1 (fun h => HN.out.2.1 h.1.1)) (And.intro (hK.blk HB4.out.2.2.1 (fun h => HN.out.2.2.1 h.1.1)) (hK.blk HB4.out.2.2.2 (fun h => HN.out.2.2.2 h.1.1)))))
  have HX5 := Lib.hid (hK.blk HX4.out (fun h => h.2 rfl))
  have HI5 := Lib.hid (hK.sl HI4.out.1 (by
    by_cases e0 : r0.img = []
    · exact .inl e0
    · exact .inr (fun h => h.1.2.elim (fun h => h rfl) e0)))
  have HSZ5 := Lib.hid (And.intro hK.size hK.size)
  have HK5 := Lib.hid (HK4.out.trans (hK.mono (fun x hx => hx.1.1)))
  obtain ⟨m1, hm1⟩ : ∃ m1, V5.heap.size = m1 := ⟨_, rfl⟩
  obtain ⟨V6, hV6⟩ : ∃ V6, V6 = V5.alloc (.cells #[.int .i64 r1.st, .int .i64 r1.why, .int .u64 r1.seq, .slice A1 r1.img.length c1] 89) := ⟨_, rfl⟩
  have k6 : Kept V5 V6 [] := by rw [hV6]; exact (Kept.refl V5 []).alloc _
  have b6 : Blk V6 m1 89 [.int .i64 r1.st, .int .i64 r1.why, .int .u64 r1.seq, .slice A1 r1.img.length c1] := by rw [hV6, ← hm1]; exact Blk.new _ _ _
  have HS6 := Lib.hid (hS.kept0 k6)
  have HB6 := Lib.hid (And.intro (HB5.out.1.kept k6 (by simp)) (And.intro (HB5.out.2.1.kept k6 (by simp)) (And.intro (HB5.out.2.2.1.kept k6 (by simp)) (HB5.out.2.2.2.kept k6 (by simp)))))
  have HX6 := Lib.hid (HX5.out.kept k6 (by simp))
  have HY6 := Lib.hid b6
  have HI6 := Lib.hid (HI5.out.kept k6 (.inr (by simp)))
  have HJ6 := Lib.hid (And.intro (hsl.kept k6 (.inr (by simp))) (hqi.imp id (fun h => (⟨h.1, Nat.lt_of_lt_of_le h.2 k6.size⟩ : _ ∧ _))))
  have HI46 : Hid (r0.img = [] ∨ (V2.heap.size ≤ i0 ∧ i0 < V6.heap.size)) := Lib.hid (HI4.out.2.imp id (fun h => ⟨h.1, Nat.lt_of_lt_of_le h.2 (Nat.le_trans HSZ5.out.1 k6.size)⟩))
  have HK6 := Lib.hid (HK5.out.trans (KeptA.of0 k6))
  clear hS hK c2 g0 g1 g2 hsl hqi k6 b6
  go_upto_region 5 with fail
  simp only [hm1, ← hV6]
  clear hm1 hV6
  have u0 := HX6.out.cell 0 rfl
  have u1 := HX6.out.cell 1 rfl
  have u2 := HX6.out.cell 2 rfl
  have u3 := HX6.out.cell 3 rfl
  have y0 := HY6.out.cell 0 rfl
  have y1 := HY6.out.cell 1 rfl
  have y2 := HY6.out.cell 2 rfl
  have y3 := HY6.out.cell 3 rfl
  go_wp2_with fail
  by_cases hz : e3 ≠ 0
  · refine (must_no _ _ hz).mono ?_
    rintro _ _ ⟨rfl, rfl⟩
    refine ⟨rfl, ?_⟩
    rw [HL.out.1, if_neg (by simp), if_neg (by simp), if_neg (by simp), if_pos hz]
    exact ⟨.inr ⟨hz, rfl⟩, Opened.none (HS6.out.more (fun x hx => hx.1.1.1)) HB6.out.2.2.2 HK6.out⟩
  obtain rfl : e3 = 0 := by omega
  clear hz
  refine (must_ok _).mono ?_
  rintro _ _ ⟨rfl, rfl⟩
  go_wp2_with fail
  have HBS : Hid (∃ (x : SlotR) (wh : Int) (Ax : Option Addr) (cx ix : Nat), bestM r0 r1 = (x, wh) ∧ (if r1.st = 2 ∧ (r0.st ≠ 2 ∨ r0.seq < r1.seq) then Value.tuple #[.agg #[.int .i64 r1.st, .int .i64 r1.why, .int .u64 r1.seq, .slice A1 r1.img.length c1], .int .i64 1] else if r0.st = 2 ∨ r0.st = 1 then .tuple #[.agg #[.int .i64 r0.st, .int .i64 r0.why, .int .u64 r0.seq, .slice A0 r0.img.length c0], .int .i64 0] else .tuple #[.agg #[.int .i64 r1.st, .int .i64 r1.why, .int .u64 r1.seq, .slice A1 r1.img.length c1], .int .i64 1]) = Value.tuple #[.agg #[.int .i64 x.st, .int .i64 x.why, .int .u64 x.seq, .slice Ax x.img.length cx], .int .i64 wh] ∧
      Sl .u8 V6 (.slice Ax x.img.length cx) ix 0 x.img ∧ (x.img = [] ∨ (W.heap.size ≤ ix ∧ ix < V6.heap.size)) ∧ St (fun y => A y ∧ (y ≠ ix ∨ x.img = [])) V6 b d3) := Lib.hid (by
    have hw2 : W.heap.size ≤ V2.heap.size := HK2.out.size
    have hw4 : W.heap.size ≤ V4.heap.size := HK4.out.size
    have a1 : St (fun y => A y ∧ (y ≠ i1 ∨ r1.img = [])) V6 b d3 := HS6.out.more (fun x hx => ⟨hx.1.1.1, hx.2⟩)
    have a0 : St (fun y => A y ∧ (y ≠ i0 ∨ r0.img = [])) V6 b d3 := HS6.out.more (fun x hx => hx.1.1)
    have q1 := HJ6.out.2.imp id (fun h => (⟨Nat.le_trans hw4 h.1, h.2⟩ : W.heap.size ≤ i1 ∧ i1 < V6.heap.size))
    have q0 := HI46.out.imp id (fun h => (⟨Nat.le_trans hw2 h.1, h.2⟩ : W.heap.size ≤ i0 ∧ i0 < V6.heap.size))
    unfold bestM
    by_cases h1 : r1.st = 2 ∧ (r0.st ≠ 2 ∨ r0.seq < r1.seq)
    · rw [if_pos h1, if_pos h1]; exact ⟨r1, 1, A1, c1, i1, rfl, rfl, HJ6.out.1, q1, a1⟩
    rw [if_neg h1, if_neg h1]
    by_cases h2 : r0.st = 2 ∨ r0.st = 1
    · rw [if_pos h2, if_pos h2]; exact ⟨r0, 0, A0, c0, i0, rfl, rfl, HI6.out, q0, a0⟩
    · rw [if_neg h2, if_neg h2]; exact ⟨r1, 1, A1, c1, i1, rfl, rfl, HJ6.out.1, q1, a1⟩)
  refine (best_any _ r0.st r0.why r0.seq r1.st r1.why r1.seq A0 A1 r0.img.length c0 r1.img.length c1).mono ?_
  rintro _ V7 ⟨rfl, k7⟩
  obtain ⟨x, wh, Ax, cx, ix, hbest, hval, hsx, hix, hSx⟩ := HBS.out
  rw [hval]
  have HBE := Lib.hid (And.intro hbest trivial)
  obtain ⟨m2, hm2⟩ : ∃ m2, V7.heap.size = m2 := ⟨_, rfl⟩
  obtain ⟨V8, hV8⟩ : ∃ V8, V8 = V7.alloc (.cells #[.int .i64 x.st, .int .i64 x.why, .int .u64 x.seq, .slice Ax x.img.length cx] 89) := ⟨_, rfl⟩
  have k78 : Kept V7 V8 [] := by rw [hV8]; exact (Kept.refl V7 []).alloc _
  have b8 : Blk V8 m2 89 [.int .i64 x.st, .int .i64 x.why, .int .u64 x.seq, .slice Ax x.img.length cx] := by rw [hV8, ← hm2]; exact Blk.new _ _ _
  have k8 : Kept V6 V8 [] := k7.trans k78 (by simp)
  have HMQ := Lib.hid (show m2 ≠ q by have h1 := HB6.out.2.2.2.lt; have h2 := k7.size; omega)
  have HB8 := Lib.hid (And.intro (HB6.out.1.kept k8 (by simp)) (And.intro (HB6.out.2.1.kept k8 (by simp)) (And.intro (HB6.out.2.2.1.kept k8 (by simp)) (HB6.out.2.2.2.kept k8 (by simp)))))
  have HX8 := Lib.hid b8
  have HI8 := Lib.hid (And.intro (hsx.kept k8 (.inr (by simp))) (And.intro (hix.imp id (fun h => (⟨h.1, Nat.lt_of_lt_of_le h.2 k8.size⟩ : _ ∧ _))) (hSx.kept0 k8)))
  have HK8 := Lib.hid (HK6.out.trans (KeptA.of0 k8))
  have HS8 := Lib.hid ((HS6.out.kept0 k8).more (B := A) (fun x hx => hx.1.1.1))
  clear hbest hval hsx hix hSx k7 k78 k8 HBS u0 u1 u2 u3 y0 y1 y2 y3 b8
  go_upto_region 7 with fail
  simp only [hm2, ← hV8]
  clear hm2 hV8
  have v0 := HX8.out.cell 0 rfl
  by_cases hx1 : x.st = 1
  · have t1 : (x.st == 1) = true := by simpa using hx1
    have HE := Lib.hid hx1
    clear hx1
    go_wp2_with fail
    refine ⟨rfl, ?_⟩
    rw [HL.out.1, if_neg (by simp), if_neg (by simp), if_neg (by simp), if_neg (by simp), HBE.out.1, if_pos HE.out]
    exact ⟨.inr ⟨by show (9 : Int) ≠ 0; decide, rfl⟩, Opened.none HS8.out HB8.out.2.2.2 HK8.out⟩
  have t1 : (x.st == 1) = false := by simpa using hx1
  by_cases hx0 : x.st = 0
  · have t0 : (x.st == 0) = true := by simpa using hx0
    have HE := Lib.hid (And.intro hx1 hx0)
    clear hx1 hx0
    go_wp2_with fail
    refine ⟨rfl, ?_⟩
    rw [HL.out.1, if_neg (by simp), if_neg (by simp), if_neg (by simp), if_neg (by simp), HBE.out.1, if_neg HE.out.1, if_pos HE.out.2]
    exact ⟨.inr ⟨by show (10 : Int) ≠ 0; decide, rfl⟩, Opened.none HS8.out HB8.out.2.2.2 HK8.out⟩
  have t0 : (x.st == 0) = false := by simpa using hx0
  have HE := Lib.hid (And.intro hx1 hx0)
  clear hx1 hx0
  have v2 := HX8.out.cell 2 rfl
  have v3 := HX8.out.cell 3 rfl
  have c6 := HB8.out.2.2.1.cell 0 rfl
  have s4 := HB8.out.2.2.2.cell 4 rfl
  have s5 := HB8.out.2.2.2.cell 5 rfl
  have s6 := HB8.out.2.2.2.cell 6 rfl
  have f4 := HB8.out.2.2.2.free 4
  have f5 := HB8.out.2.2.2.free 5
  have f6 := HB8.out.2.2.2.free 6
  have dq6 : (p6 = q) = False := eq_false HD6.out.1
  have dq8 : (m2 = q) = False := eq_false HMQ.out
  go_wp2_with fail
  go_region
  clear v0 v2 v3 c6 s4 s5 s6 f4 f5 f6 dq6 dq8 t1 t0
  go_end0
  rw [HL.out.1, if_neg (by simp), if_neg (by simp), if_neg (by simp), if_neg (by simp), HBE.out.1, if_neg HE.out.1, if_neg HE.out.2]
  have hz := (((HB8.out.2.2.2.set 4 (.slice Ax x.img.length cx)).set 5 (.int .u64 x.seq)).set 6 (.int .i64 wh)).drew
  simp only [List.set, shCells] at hz
  have kz : Kept V8 (((V8.setCell ⟨q, 4, none⟩ (.slice Ax x.img.length cx)).setCell ⟨q, 5, none⟩ (.int .u64 x.seq)).setCell ⟨q, 6, none⟩ (.int .i64 wh)).drew [q] := ((((Kept.refl V8 [q]).setCell (.inl (by simp)) _).setCell (.inl (by simp)) _).setCell (.inl (by simp)) _).drew
  have hsz : x.img = [] ∨ ix ≠ q := HI8.out.2.1.imp id (fun h => by have h1 := HB.out.2.2.2.lt; omega)
  refine ⟨.inl ⟨rfl, rfl⟩, _, ix, ?_, hz, HI8.out.1.kept kz (hsz.imp id (by simp)), HI8.out.2.1.imp id (fun h => (⟨h.1, Nat.lt_of_lt_of_le h.2 kz.size⟩ : _ ∧ _)), (HK8.out.mono (fun x hx => .inl hx)).trans (KeptA.of kz (fun x hx => by simp at hx; exact .inr hx))⟩
  obtain ⟨⟨F, hF, hFA⟩, hU⟩ := HI8.out.2.2
  exact ⟨⟨F, hF.kept kz (fun y hy hm => by simp at hy; subst hy; exact HN.out.2.2.2 (hFA _ hm).1), hFA⟩, fun y hy => hU y (Nat.le_trans kz.size hy)⟩
/-- a shadow that is open -/
structure ShX (A : Nat → Prop) (W : World) (b q : Nat) (e f g : Int) (s : DiskS) (h : ShS) : Prop where
  ex : ∃ v bq o, St A W b s ∧ Blk W q 87 (shCells b e f g v h) ∧ Sl .u8 W v bq o h.now ∧ (h.now = [] ∨ (¬ A bq ∧ bq ≠ q)) ∧ ¬ A q
theorem enter_open1 (cap : Array Value) (W : World) : (callFunc 52 cap).run Tryz.prog W = .ok (.enter 52 cap) W := enters_of Tryz.func52 (by kernel_rfl) rfl cap W
set_option maxRecDepth 100000 in
set_option maxHeartbeats 2000000 in
theorem shopen_any {A : Nat → Prop} {W : World} {b : Nat} {s : DiskS} (h : St A W b s) (hg : GeoLaid W) (hA : ∀ x, A x → nGlobals ≤ x) (ho : s.ops < 500000000) (e f g : Int) (hsm : spanN s.size e f g ≤ 201) :
    Calls Tryz.prog 15 #[pt b, .agg #[.int .i64 e, .int .i64 f, .int .i64 g]] W (fun ee V => KeptA A W V ∧
      ((openM s e f g).2.2 ≠ 0 ∧ ee = .returned (.tuple #[.pointer none, .int .i64 (openM s e f g).2.2]) ∧ St A V b (openM s e f g).1 ∨
       (openM s e f g).2.2 = 0 ∧ ∃ q bq, ee = .returned (.tuple #[pt q, .int .i64 0]) ∧ ShX (fun x => A x ∧ (x ≠ bq ∨ (openM s e f g).2.1.now = []) ∧ x ≠ q) V b q e f g (openM s e f g).1 (openM s e f g).2.1 ∧ W.heap.size ≤ q ∧ ((openM s e f g).2.1.now = [] ∨ W.heap.size ≤ bq))) := by
  have hmf : ∀ (fn : Fn) (first cap : Array Value) (w : World), (Instr.makeFunc fn first cap).run Tryz.prog w = .ok (.func fn first cap) w := fun _ _ _ _ => rfl
  obtain ⟨n, hn⟩ : ∃ n, W.heap.size = n := ⟨_, rfl⟩
  obtain ⟨W1, hW1⟩ : ∃ W1, W1 = W.alloc (.cells #[pt b] 28) := ⟨_, rfl⟩
  have b1 : Blk W1 n 28 [pt b] := by rw [hW1, ← hn]; exact Blk.new _ _ _
  have k1 : Kept W W1 [] := by rw [hW1]; exact (Kept.refl W []).alloc _
  have s1 : W1.heap.size = n + 1 := by rw [hW1, World.size_alloc, hn]
  have S1 : St (fun x => A x ∧ x ≠ n) W1 b s := by rw [hW1, ← hn]; exact h.alloc_hold _
  obtain ⟨W2, hW2⟩ : ∃ W2, W2 = W1.alloc (.cells #[.int .i64 e, .int .i64 f, .int .i64 g] 23) := ⟨_, rfl⟩
  have b2 : Blk W2 (n + 1) 23 [.int .i64 e, .int .i64 f, .int .i64 g] := by rw [hW2, ← s1]; exact Blk.new _ _ _
  have k2 : Kept W1 W2 [] := by rw [hW2]; exact (Kept.refl W1 []).alloc _
  have s2 : W2.heap.size = n + 2 := by rw [hW2, World.size_alloc, s1]
  have S2 : St (fun x => (A x ∧ x ≠ n) ∧ x ≠ n + 1) W2 b s := by rw [hW2, ← s1]; exact S1.alloc_hold _
  obtain ⟨W3, hW3⟩ : ∃ W3, W3 = W2.alloc (.cells #[pt b, .int .i64 e, .int .i64 f, .int .i64 g, .slice none 0 0, .int .u64 0, .int .i64 0, .bool false] 87) := ⟨_, rfl⟩
  have b3 : Blk W3 (n + 2) 87 (shCells b e f g (.slice none 0 0) ⟨[], 0, 0, false⟩) := by rw [hW3, ← s2]; exact Blk.new _ _ _
  have k3 : Kept W2 W3 [] := by rw [hW3]; exact (Kept.refl W2 []).alloc _
  have s3 : W3.heap.size = n + 2 + 1 := by rw [hW3, World.size_alloc, s2]
  have S3 : St (fun x => ((A x ∧ x ≠ n) ∧ x ≠ n + 1) ∧ x ≠ n + 2) W3 b s := by rw [hW3, ← s2]; exact S2.alloc_hold _
  obtain ⟨W4, hW4⟩ : ∃ W4, W4 = W3.alloc (.cells #[pt (n + 2)] 32) := ⟨_, rfl⟩
  have b4 : Blk W4 (n + 2 + 1) 32 [pt (n + 2)] := by rw [hW4, ← s3]; exact Blk.new _ _ _
  have k4 : Kept W3 W4 [] := by rw [hW4]; exact (Kept.refl W3 []).alloc _
  have s4 : W4.heap.size = n + 4 := by rw [hW4, World.size_alloc, s3]
  have S4 : St (fun x => (((A x ∧ x ≠ n) ∧ x ≠ n + 1) ∧ x ≠ n + 2) ∧ x ≠ n + 2 + 1) W4 b s := by rw [hW4, ← s3]; exact S3.alloc_hold _
  have k04 : Kept W W4 [] := ((k1.trans k2 (by simp)).trans k3 (by simp)).trans k4 (by simp)
  have c1 := ((b1.kept k2 (by simp)).kept k3 (by simp)).kept k4 (by simp)
  have c2 := (b2.kept k3 (by simp)).kept k4 (by simp)
  have c3 := b3.kept k4 (by simp)
  have g4 : GeoLaid W4 := hg.kept k04 (by simp)
  have HT := Lib.hid (tried_any W4 52 #[pt n, pt (n + 1), pt (n + 2 + 1)] (fun er V => er = (openM s e f g).2.2 ∧ ∃ v bq, St (fun x => (((((A x ∧ x ≠ n) ∧ x ≠ n + 1) ∧ x ≠ n + 2) ∧ x ≠ n + 2 + 1) ∧ x ≠ n + 4) ∧ (x ≠ bq ∨ (openM s e f g).2.1.now = [])) V b (openM s e f g).1 ∧ Blk V (n + 2) 87 (shCells b e f g v (openM s e f g).2.1) ∧ Sl .u8 V v bq 0 (openM s e f g).2.1.now ∧ ((openM s e f g).2.1.now = [] ∨ (n + 4 < bq ∧ bq < V.heap.size)) ∧ KeptA A W V ∧ Blk V (n + 2 + 1) 32 [pt (n + 2)] ∧ n + 4 < V.heap.size) (enter_open1 _) (fun W5 hW5 => by
    have k5 : Kept W4 W5 [] := by rw [hW5]; exact (Kept.refl W4 []).alloc _
    have S5 : St (fun x => ((((A x ∧ x ≠ n) ∧ x ≠ n + 1) ∧ x ≠ n + 2) ∧ x ≠ n + 2 + 1) ∧ x ≠ n + 4) W5 b s := by rw [hW5, ← s4]; exact S4.alloc_hold _
    have b5 : Blk W5 (n + 4) 30 [.int .i64 0] := by rw [hW5, ← s4]; exact Blk.new _ _ _
    refine (open1_any S5 (g4.kept k5 (by simp)) (fun x hx => hA x hx.1.1.1.1.1) ho e f g hsm (c1.kept k5 (by simp)) (c2.kept k5 (by simp)) (b4.kept k5 (by simp)) (c3.kept k5 (by simp)) (fun hx => hx.1.1.1.1.2 rfl) (fun hx => hx.1.1.1.2 rfl) (fun hx => hx.1.2 rfl) (fun hx => hx.1.1.2 rfl) (by omega)).mono ?_
    rintro ee V ⟨hO, v, bq, hS, hB, hs, hq, hK⟩
    have s5 : W5.heap.size = n + 5 := by rw [hW5, World.size_alloc, s4]
    have hUp : ∀ x, n ≤ x → A x := fun x hx => h.up x (by omega)
    rw [s4]
    refine ⟨_, hO, ⟨rfl, v, bq, hS, hB, hs, hq.imp id (fun h => (⟨by omega, h.2⟩ : _ ∧ _)), ?_, hK.blk (b4.kept k5 (by simp)) (fun hx => hx.elim (fun h => h.1.2 rfl) (fun h => by omega)), Nat.lt_of_lt_of_le b5.lt hK.size⟩, hK.blk b5 (fun hx => hx.elim (fun h => h.2 rfl) (fun h => by omega))⟩
    exact (KeptA.of0 (k04.trans k5 (by simp))).trans (hK.mono (fun x hx => hx.elim (fun h => h.1.1.1.1.1) (fun h => by subst h; exact hUp _ (by omega))))))
  rw [s4] at HT
  have HB := Lib.hid (And.intro (b1.kept k2 (by simp)) b2)
  have HUP := Lib.hid (And.intro h.up (And.intro hn (show W.heap.size ≤ W4.heap.size by omega)))
  have HK4 := Lib.hid k04
  have HS4 := Lib.hid s4
  generalize openM s e f g = L at *
  obtain ⟨d, sh, er0⟩ := L
  clear h hg hA ho hsm b1 k1 S1 b2 k2 S2 b3 k3 S3 b4 k4 S4 c1 c2 c3 g4 k04 s4
  go_enter Tryz.func15, Tryz.ntmps15
  go_upto_region 1 with fail
  simp only [hn, ← hW1, s1, ← hW2]
  have HW := Lib.hid (And.intro hW3 (And.intro hW4 s2))
  have HN0 := Lib.hid hn
  clear hW1 hW2 hW3 hW4 hn s1 s2 s3
  have c0 := HB.out.1.cell 0 rfl
  have g0 := HB.out.2.cell 0 rfl
  have g1 := HB.out.2.cell 1 rfl
  have g2 := HB.out.2.cell 2 rfl
  go_upto_region 2 with fail
  simp only [HW.out.2.2]
  rw [← HW.out.1, ← HW.out.2.1]
  clear c0 g0 g1 g2
  go_wp2_with fail
  refine HT.out.mono ?_
  rintro _ V' ⟨er, V, rfl, ⟨rfl, v, bq, hS, hB, hs, hq, hK, hb6, hsz⟩, hk⟩
  have hb6' := hb6.kept hk (by simp)
  have hB' := hB.kept hk (by simp)
  have kk : KeptA A W V' := hK.trans (KeptA.of hk (fun x hx => by simp at hx; subst hx; exact HUP.out.1 _ (by rw [HUP.out.2.1]; omega)))
  have S' : St (fun x => (((((A x ∧ x ≠ n) ∧ x ≠ n + 1) ∧ x ≠ n + 2) ∧ x ≠ n + 2 + 1) ∧ x ≠ n + 4) ∧ (x ≠ bq ∨ sh.now = [])) V' b d := by
    obtain ⟨⟨F, hF, hFA⟩, hU⟩ := hS
    exact ⟨⟨F, hF.kept hk (fun y hy hm => by simp at hy; subst hy; exact (hFA _ hm).1.2 rfl), hFA⟩, fun y hy => hU y (Nat.le_trans hk.size hy)⟩
  have hs' := hs.kept hk (hq.imp id (fun h => by simp; omega))
  have HSX : Hid (ShX (fun x => A x ∧ (x ≠ bq ∨ sh.now = []) ∧ x ≠ n + 2) V' b (n + 2) e f g d sh ∧ KeptA A W V' ∧ W.heap.size ≤ n + 2 ∧ (sh.now = [] ∨ W.heap.size ≤ bq)) := Lib.hid ⟨⟨v, bq, 0, S'.more (fun x hx => ⟨hx.1.1.1.1.1.1, hx.2, hx.1.1.1.2⟩), hB', hs', by
      by_cases e0 : sh.now = []
      · exact .inl e0
      · exact .inr ⟨fun hx => hx.2.1.elim (fun h => h rfl) e0, by have := hq.resolve_left e0; omega⟩, fun hx => hx.2.2 rfl⟩, kk, by rw [HN0.out]; omega, hq.imp id (fun h => by rw [HN0.out]; omega)⟩
  have HSA := Lib.hid (S'.more (B := A) (fun x hx => hx.1.1.1.1.1.1))
  have HB6 := Lib.hid hb6'
  clear hS hB hs hq hK hb6 hsz hk hb6' hB' kk S' hs'
  by_cases hz : er = 0
  · subst hz
    have c6 := HB6.out.cell 0 rfl
    go_wp2_with fail
    go_ret2
    first
      | exact ⟨HSX.out.2.1, .inr ⟨rfl, n + 2, bq, rfl, HSX.out.1, HSX.out.2.2.1, HSX.out.2.2.2⟩⟩
      | exact ⟨HSX.out.2.1, n + 2, rfl, bq, HSX.out.1, HSX.out.2.2.1, HSX.out.2.2.2⟩
  · have t1 : (er != 0) = true := by simpa using hz
    have HZ := Lib.hid hz
    clear hz
    go_wp2_with fail
    go_ret2
    exact ⟨HSX.out.2.1, .inl ⟨HZ.out, rfl, HSA.out⟩⟩
end Go.Proofs.YtcikhnkehglkgaaGreatDoor
