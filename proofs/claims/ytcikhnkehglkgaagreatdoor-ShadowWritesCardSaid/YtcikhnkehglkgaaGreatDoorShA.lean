/- PROVED: the contracts of shadow.must and shadow.lay: what is wrong is given up for. No conditions beyond those that each theorem states. -/
import Derived.Test.YtcikhnkehglkgaaGreatDoorShP
import Derived.Test.YtcikhnkehglkgaaGreatDoorSlLe
import Derived.Recover
import Derived.Defers
import Derived.Deep.CutRange
namespace Go.Proofs.YtcikhnkehglkgaaGreatDoor
open Go.RowKit Go.Proofs.YtcikhnkehglkgaaGreatDoorLib
set_option linter.unusedSimpArgs false
set_option linter.unusedVariables false

/-- what is given up for -/
def pan (er : Int) : List PanicEntry := [{ v := .iface 30 (.int .i64 er), recovered := false }]
def Outs (er : Int) (e : Ending) : Prop := er = 0 ∧ e = .returned (.tuple #[]) ∨ er ≠ 0 ∧ e = .panicked (pan er)
theorem must_ok (w : World) : Calls Tryz.prog 47 #[.int .i64 0] w (fun e W => e = .returned (.tuple #[]) ∧ w = W) := by
  go_enter Tryz.func47, Tryz.ntmps47
  go_wp2_with fail
  go_end0
  exact ⟨rfl, rfl⟩
theorem must_no (w : World) (er : Int) (h : er ≠ 0) : Calls Tryz.prog 47 #[.int .i64 er] w (fun e W => e = .panicked (pan er) ∧ w = W) := by
  have t1 : (er != 0) = true := by simpa using h
  have t2 : ¬ er = 0 := h
  clear h
  have hp : ∀ w : World, (Instr.panic (.iface 30 (.int .i64 er))).run Tryz.prog w = .halt (.panic (.iface 30 (.int .i64 er))) w := fun _ => rfl
  go_enter Tryz.func47, Tryz.ntmps47
  go_wp2_with fail
  exact ⟨rfl, rfl, rfl⟩
theorem must_any (w : World) (er : Int) : Calls Tryz.prog 47 #[.int .i64 er] w (fun e W => Outs er e ∧ w = W) := by
  by_cases h : er = 0
  · subst h
    exact (must_ok w).mono (fun e W ⟨a, b⟩ => ⟨.inl ⟨rfl, a⟩, b⟩)
  · exact (must_no w er h).mono (fun e W ⟨a, b⟩ => ⟨.inr ⟨h, a⟩, b⟩)
theorem catch_idle (p : Addr) (w : World) :
    CallsD Tryz.prog 73 #[.pointer (some p)] .returning w fun e u' w' => e = .returned (.tuple #[]) ∧ u' = .returning ∧ w' = w := by
  refine callsD_of_wpS Tryz.func73 rfl fun c₀ cs hu => ?_
  apply wpS_seq
  apply wpS_region
  simp [wpOpsS, go_sem, recoverD, hu, Tryz.ntmps73, Exit.thenS]
  apply wpS_seq
  apply wpS_region
  simp [wpOpsS, go_sem, Exit.thenS]
  refine wpS_cond (t := false) (by simp [Act.eval, Array.replicate]) ?_
  simp only [Bool.false_eq_true, if_false]
  refine wpS_of_wp (wp_skip ?_)
  cases c₀
  simp_all [bodyPostS, results, Tryz.results73]
set_option maxRecDepth 100000 in
theorem catch_pan (p : Addr) (x er : Int) (w : World) (hc : w.cell? p = some (.int .i64 x)) (hz : w.frozen? p = false) :
    CallsD Tryz.prog 73 #[.pointer (some p)] (.panicking (pan er)) w fun e u' w' =>
      e = .returned (.tuple #[]) ∧ u' = .panicking [{ v := .iface 30 (.int .i64 er), recovered := true }] ∧ w' = w.setCell p (.int .i64 er) := by
  refine callsD_of_wpS Tryz.func73 rfl fun c₀ cs hu => ?_
  unfold pan at hu
  have hta : ∀ (xt : TypeId) (w : World), (Instr.typeAssert (.iface 30 (.int .i64 er)) xt 30 true).run Tryz.prog w = .ok (.tuple #[.int .i64 er, .bool true]) w := fun _ _ => by kernel_rfl
  apply wpS_seq
  apply wpS_region
  simp [wpOpsS, go_sem, recoverD, hu, Tryz.ntmps73, Exit.thenS]
  apply wpS_seq
  apply wpS_region
  simp [wpOpsS, go_sem, Exit.thenS]
  refine wpS_cond (t := true) (by simp [Act.eval, Array.replicate]) ?_
  simp only [if_true]
  apply wpS_region
  simp [wpOpsS, go_sem, hc, hz, hta, bodyPostS, results, Tryz.results73]
set_option maxRecDepth 100000 in
set_option maxHeartbeats 1000000 in
theorem lay_any {A : Nat → Prop} {W : World} {b : Nat} {s : DiskS} (h : St A W b s) (hg : GeoLaid W) (hA : ∀ x, A x → nGlobals ≤ x) (ho : s.ops < 600000000) (which e f g seq : Int) (q0 : 0 ≤ seq) (q1 : seq ≤ 18446744073709551615) (v : Value) (bq off : Nat) (l : List Int) (hs : Sl .u8 W v bq off l) (hq : l = [] ∨ ¬ A bq) (hB : Bts l) (hl : l.length ≤ 100000) :
    Calls Tryz.prog 51 #[pt b, .int .i64 which, .agg #[.int .i64 e, .int .i64 f, .int .i64 g], .int .u64 seq, v] W (fun ee V => Outs (layS s which e f g seq l).2 ee ∧ St A V b (layS s which e f g seq l).1 ∧ KeptA A W V) := by
  have hok := h.ok
  have hL : layS s which e f g seq l = (if (dataM s which e f g l).2 ≠ 0 then dataM s which e f g l else if (dataM s which e f g l).1.sync.2 ≠ 0 then (dataM s which e f g l).1.sync else if (sealM (dataM s which e f g l).1.sync.1 which e f g seq l).2 ≠ 0 then sealM (dataM s which e f g l).1.sync.1 which e f g seq l else (sealM (dataM s which e f g l).1.sync.1 which e f g seq l).1.sync) := rfl
  have o1 := (dataM_le hok.s1 which e f g l).2
  have o2 := (sync_le (dataM s which e f g l).1).2
  have o3 := (sealM_le (dataM s which e f g l).1.sync.1 which e f g seq l).2
  obtain ⟨n0, hn0⟩ : ∃ n0, W.heap.size = n0 := ⟨_, rfl⟩
  have hA1 : ∀ x, (A x ∧ x ≠ n0) → nGlobals ≤ x := fun x hx => hA x hx.1
  obtain ⟨W1, hW1⟩ : ∃ W1, W1 = W.alloc (.cells #[.int .i64 e, .int .i64 f, .int .i64 g] 23) := ⟨_, rfl⟩
  have hk : Kept W W1 [] := by rw [hW1]; exact (Kept.refl W []).alloc _
  have hSt : St (fun x => A x ∧ x ≠ n0) W1 b s := by rw [hW1, ← hn0]; exact h.alloc_hold _
  have hbl : Blk W1 n0 23 [.int .i64 e, .int .i64 f, .int .i64 g] := by rw [hW1, ← hn0]; exact Blk.new _ _ _
  have hs1 := hs.kept hk (.inr (by simp))
  have hg1 : GeoLaid W1 := hg.kept hk (by simp)
  have hq1 : l = [] ∨ ¬ (A bq ∧ bq ≠ n0) := hq.imp id (fun h hx => h hx.1)
  have HD := Lib.hid (data_st hSt hg1 (by omega) which e f g v bq off l hs1 hB)
  have HX := Lib.hid (And.intro hs1 (And.intro hq1 hB))
  have HG := Lib.hid (And.intro hg1 hA1)
  have HB := Lib.hid hbl
  have HSL := Lib.hid (fun (t : DiskS) (V : World) (hS : St (fun x => A x ∧ x ≠ n0) V b t) (hV : GeoLaid V) (ho : t.ops < 700000000) (hv : Sl .u8 V v bq off l) => seal_st hS hV ho which e f g seq q0 q1 v bq off l hv hB)
  have HO1 := Lib.hid (And.intro ho hl)
  have HK0 := Lib.hid (KeptA.of0 (A := A) hk)
  have HMO := Lib.hid (fun (V : World) (t : DiskS) (hS : St (fun x => A x ∧ x ≠ n0) V b t) => hS.more (B := A) (fun x hx => hx.1))
  generalize layS s which e f g seq l = L at *
  generalize dataM s which e f g l = D at *
  obtain ⟨d1, e1⟩ := D
  simp only at hL o1 o2 o3
  generalize hY : d1.sync = Y at *
  obtain ⟨d2, e2⟩ := Y
  simp only at hL o2 o3
  generalize hZ : sealM d2 which e f g seq l = Z at *
  obtain ⟨d3, e3⟩ := Z
  simp only at hL o3
  generalize hY4 : d3.sync = Y4 at *
  obtain ⟨d4, e4⟩ := Y4
  have HL := Lib.hid (And.intro hL trivial)
  have HY := Lib.hid (And.intro hY trivial)
  have HZ := Lib.hid (And.intro hZ trivial)
  have HY4 := Lib.hid (And.intro hY4 trivial)
  have HO := Lib.hid (And.intro o1 (And.intro o2 o3))
  obtain ⟨Ar, nr, cr, rfl⟩ : ∃ Ar nr cr, v = .slice Ar nr cr := by obtain ⟨A', c', e'⟩ := hs.form; exact ⟨_, _, _, e'⟩
  clear h hg hA ho q0 q1 hs hq hB hl hok o1 o2 o3 hk hSt hs1 hg1 hq1 hA1 hL hY hZ hY4
  go_enter Tryz.func51, Tryz.ntmps51
  go_upto_region 1 with fail
  rw [← hW1]
  clear hW1
  have g0 := hbl.cell 0 rfl
  have g1 := hbl.cell 1 rfl
  have g2 := hbl.cell 2 rfl
  clear hbl
  go_wp2_with fail
  refine HD.out.mono ?_
  rintro _ V1 ⟨rfl, hS, hK⟩
  have HS := Lib.hid hS
  have HB1 := Lib.hid (hK.blk HB.out (fun h => h.2 rfl))
  have HG1 := Lib.hid (hK.geo HG.out.1 HG.out.2)
  have HX1 := Lib.hid (hK.sl HX.out.1 HX.out.2.1)
  have HKA1 := Lib.hid (HK0.out.trans (hK.mono (fun x hx => hx.1)))
  clear hS hK g0 g1 g2
  have HC0 := Lib.hid (sync_st HS.out (by have := HO.out; have := HO1.out; simp only; omega))
  simp only at HC0
  rw [HY.out.1] at HC0
  go_wp2_with fail
  by_cases hz : e1 ≠ 0
  · refine (must_no _ _ hz).mono ?_
    rintro _ _ ⟨rfl, rfl⟩
    refine ⟨rfl, ?_⟩
    rw [HL.out.1, if_pos hz]
    exact ⟨.inr ⟨hz, rfl⟩, HMO.out _ _ HS.out, HKA1.out⟩
  obtain rfl : e1 = 0 := by omega
  clear hz
  refine (must_ok _).mono ?_
  rintro _ _ ⟨rfl, rfl⟩
  go_wp2_with fail
  refine HC0.out.mono ?_
  rintro _ V2 ⟨rfl, hS, hK⟩
  have HS := Lib.hid hS
  have HB2 := Lib.hid (hK.blk HB1.out (fun h => h.2 rfl))
  have HG2 := Lib.hid (hK.geo HG1.out HG.out.2)
  have HX2 := Lib.hid (hK.sl HX1.out HX.out.2.1)
  have HKA2 := Lib.hid (HKA1.out.trans (hK.mono (fun x hx => hx.1)))
  clear hS hK
  have g0 := HB2.out.cell 0 rfl
  have g1 := HB2.out.cell 1 rfl
  have g2 := HB2.out.cell 2 rfl
  have HC1 := Lib.hid (HSL.out _ _ HS.out HG2.out (by have := HO.out; have := HO1.out; simp only; omega) HX2.out)
  simp only at HC1
  rw [HZ.out.1] at HC1
  go_wp2_with fail
  by_cases hz : e2 ≠ 0
  · refine (must_no _ _ hz).mono ?_
    rintro _ _ ⟨rfl, rfl⟩
    refine ⟨rfl, ?_⟩
    rw [HL.out.1, if_neg (by simp), if_pos hz]
    exact ⟨.inr ⟨hz, rfl⟩, HMO.out _ _ HS.out, HKA2.out⟩
  obtain rfl : e2 = 0 := by omega
  clear hz
  refine (must_ok _).mono ?_
  rintro _ _ ⟨rfl, rfl⟩
  go_wp2_with fail
  refine HC1.out.mono ?_
  rintro _ V3 ⟨rfl, hS, hK⟩
  have HS := Lib.hid hS
  have HB3 := Lib.hid (hK.blk HB2.out (fun h => h.2 rfl))
  have HG3 := Lib.hid (hK.geo HG2.out HG.out.2)
  have HX3 := Lib.hid (hK.sl HX2.out HX.out.2.1)
  have HKA3 := Lib.hid (HKA2.out.trans (hK.mono (fun x hx => hx.1)))
  clear hS hK g0 g1 g2
  have HC2 := Lib.hid (sync_st HS.out (by have := HO.out; have := HO1.out; simp only; omega))
  simp only at HC2
  rw [HY4.out.1] at HC2
  go_wp2_with fail
  by_cases hz : e3 ≠ 0
  · refine (must_no _ _ hz).mono ?_
    rintro _ _ ⟨rfl, rfl⟩
    refine ⟨rfl, ?_⟩
    rw [HL.out.1, if_neg (by simp), if_neg (by simp), if_pos hz]
    exact ⟨.inr ⟨hz, rfl⟩, HMO.out _ _ HS.out, HKA3.out⟩
  obtain rfl : e3 = 0 := by omega
  clear hz
  refine (must_ok _).mono ?_
  rintro _ _ ⟨rfl, rfl⟩
  go_wp2_with fail
  refine HC2.out.mono ?_
  rintro _ V4 ⟨rfl, hS, hK⟩
  have HS := Lib.hid hS
  have HB4 := Lib.hid (hK.blk HB3.out (fun h => h.2 rfl))
  have HG4 := Lib.hid (hK.geo HG3.out HG.out.2)
  have HX4 := Lib.hid (hK.sl HX3.out HX.out.2.1)
  have HKA4 := Lib.hid (HKA3.out.trans (hK.mono (fun x hx => hx.1)))
  clear hS hK
  go_wp2_with fail
  by_cases hz : e4 ≠ 0
  · refine (must_no _ _ hz).mono ?_
    rintro _ _ ⟨rfl, rfl⟩
    refine ⟨rfl, ?_⟩
    rw [HL.out.1, if_neg (by simp), if_neg (by simp), if_neg (by simp)]
    exact ⟨.inr ⟨hz, rfl⟩, HMO.out _ _ HS.out, HKA4.out⟩
  obtain rfl : e4 = 0 := by omega
  refine (must_ok _).mono ?_
  rintro _ _ ⟨rfl, rfl⟩
  go_wp2_with fail
  go_end0
  rw [HL.out.1, if_neg (by simp), if_neg (by simp), if_neg (by simp)]
  exact ⟨.inl ⟨rfl, rfl⟩, HMO.out _ _ HS.out, HKA4.out⟩
end Go.Proofs.YtcikhnkehglkgaaGreatDoor
