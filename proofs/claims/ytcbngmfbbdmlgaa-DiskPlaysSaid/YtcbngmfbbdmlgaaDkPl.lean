/- PROVED: the walk of DiskPlays. No conditions beyond those that each theorem states. -/
import Derived.Test.YtcbngmfbbdmlgaaRfH
import Derived.Test.YtcbngmfbbdmlgaaDkN0
import Derived.Test.YtcbngmfbbdmlgaaInts
import Derived.Deep.RegionHeld3
namespace Go.Proofs.Ytcbngmfbbdmlgaa
open Go.RowKit Go.Proofs.YtcbngmfbbdmlgaaLib Go.WideElems Go.Maps
set_option linter.unusedSimpArgs false
set_option linter.unusedVariables false

/-- both disks, beside one another -/
structure PlS (w0 W : World) (b br : Nat) (F R X : List Nat) (s : DiskS) : Prop where
  d : DiskAt W b F s
  r : RDisk W br R X s
  k : Kept w0 W []
theorem PlS.kept {w0 W W' : World} {b br : Nat} {F R X : List Nat} {s : DiskS} (h : PlS w0 W b br F R X s) (k : Kept W W' []) : PlS w0 W' b br F R X s := ⟨h.d.kept k (by simp), h.r.kept k, h.k.trans k (by simp)⟩
theorem pl_in {w : World} {F : List Nat} {n : Nat} (h : ∀ g, g ∈ F → g < n) {v : Value} (h' : ∀ g, v.ownBlock = some g → n ≤ g) : Apart v F := fun g hg hm => by have := h g hm; have := h' g hg; omega
set_option maxRecDepth 100000 in
set_option maxHeartbeats 8000000 in
theorem DiskPlays_walk (w : World) (k n : Int) (v : Value) (l : List DkOp) (h : SliceAt (OpK w.heap.size) 4 w w.heap.size v l) :
    Calls Try.prog 3 #[.int .i64 k, .int .i64 n, v] w (fun e W => e = .returned (.bool true) ∧ Below w.heap.size w W) := by
  obtain ⟨A, c, rfl, hc1, hc2⟩ := SliceAt.form h
  have H := Lib.hid h
  unfold maxLen at hc2
  have l0 : (0 : Int) ≤ l.length := by omega
  have l1 : (l.length : Int) ≤ 9223372036854775807 := by omega
  clear h hc2
  go_enter Try.func3, Try.ntmps3
  go_wp2_with fail
  (with_reducible refine (awake_any _).mono ?_)
  rintro _ w1 ⟨_, rfl, rfl, k1⟩
  have K1 := Lib.hid k1
  have H1 := Lib.hid (K_ops H.out k1 (Nat.le_refl _))
  clear k1
  go_wp2_with fail
  (with_reducible refine (few_any _ _ _ _ _ H1.out).mono ?_)
  rintro _ w2 ⟨_, rfl, ⟨x, rfl, hx⟩, k2⟩
  have K2 := Lib.hid (K1.out.trans k2 (by simp))
  have HX := Lib.hid hx
  clear k2 hx
  cases x with
  | false =>
    go_wp2_with fail
    go_ret
    exact ⟨rfl, K2.out.below _ (Nat.le_refl _) (by simp)⟩
  | true =>
  have HL40 := Lib.hid (HX.out rfl)
  clear HX
  by_cases hN : NewOk k n
  · have hN' := hN
    have HN := Lib.hid hN
    obtain ⟨n1, n2, n3, n4⟩ := hN'
    clear hN
    by_cases q1 : 20 < k
    · go_wp2_with fail
      go_ret
      exact ⟨rfl, K2.out.below _ (Nat.le_refl _) (by simp)⟩
    by_cases q3 : 30 < n
    · go_wp2_with fail
      go_ret
      exact ⟨rfl, K2.out.below _ (Nat.le_refl _) (by simp)⟩
    obtain ⟨k, rfl⟩ := Int.eq_ofNat_of_zero_le n1
    obtain ⟨n, rfl⟩ := Int.eq_ofNat_of_zero_le (show 0 ≤ n by omega)
    have hz := (DiskS.run_shape (DiskS.new k n) l (by simp [DiskS.new]))
    have hz1 : (DiskS.new k n).last.length = k := by simp [DiskS.new]
    have hz2 : (DiskS.new k n).size = n := rfl
    rw [hz1, hz2] at hz
    have HZ := Lib.hid hz
    have HOP0 : Hid ((DiskS.new k n).ops = 0 ∧ (DiskS.new k n).marks = 0) := Lib.hid ⟨rfl, rfl⟩
    clear n1 n2 n3 n4 hz hz1 hz2
    go_wp2_with fail
    (with_reducible refine (new_yes _ (k : Int) (n : Int) HN.out).mono ?_)
    rintro _ w3 ⟨_, rfl, ⟨b, F, rfl, hd, hF⟩, k3⟩
    rw [Int.toNat_natCast, Int.toNat_natCast] at hd
    have HD3 := Lib.hid hd
    have HF3 := Lib.hid hF
    have K3 := Lib.hid k3
    clear hd hF k3
    go_wp2_with fail
    (with_reducible refine (rnew_yes _ (k : Int) (n : Int) HN.out F HD3.out.lt).mono ?_)
    rintro _ w4 ⟨_, rfl, ⟨br, R, rfl, hr, hR⟩, k4⟩
    rw [Int.toNat_natCast, Int.toNat_natCast] at hr
    generalize DiskS.new k n = s0 at *
    have HR4 := Lib.hid hr
    have HD4 := Lib.hid (HD3.out.kept k4 (by simp))
    have HRR := Lib.hid hR
    have K4 := Lib.hid (K3.out.trans k4 (by simp))
    clear hr hR k4
    go_wp2_with fail
    go_loopg [12] l.length (fun g i wr => ∃ (m : Nat) (F R X : List Nat), m + g = l.length ∧ i = .int .i64 m ∧ DiskAt wr b F (s0.run (l.take m)) ∧ RDisk wr br R X (s0.run (l.take m)) ∧ (∀ g, g ∈ F → w2.heap.size ≤ g ∧ g ∈ X) ∧ (∀ g, g ∈ R → w2.heap.size ≤ g ∧ g ∉ F) ∧ Kept w2 wr [])
    case atStart =>
      exact ⟨0, F, R, F ++ R, by omega, rfl, HD4.out, HR4.out, fun g hg => ⟨HF3.out g hg, List.mem_append.2 (.inl hg)⟩, fun g hg => ⟨Nat.le_trans K3.out.size (HRR.out g hg), fun hm => by have h1 := HD3.out.lt g hm; have h2 := HRR.out g hg; omega⟩, K4.out⟩
    case round =>
      obtain ⟨m, F1, R1, X1, hm, rfl, h1, h2, hF1, hR1, hkept⟩ := hrel
      have HK := Lib.hid hm
      have HKE := Lib.hid hkept
      have HC := Lib.hid h1
      have HE := Lib.hid h2
      have HF1 := Lib.hid hF1
      have HR1 := Lib.hid hR1
      clear hm hkept h1 h2 hF1 hR1
      have hkw := K2.out.trans HKE.out (by simp)
      by_cases hlt : m < l.length
      · have hS := K_ops H.out hkw (Nat.le_refl _)
        have HKW := Lib.hid hkw
        obtain ⟨ab, off, c', Ab, At, cb, ct, e, d0, d1, d2, d3, hb, ht, hi, hkd, _⟩ := ops_cells hS hlt
        simp only [Value.slice.injEq] at e
        obtain ⟨rfl, _, rfl⟩ := e
        have hwF1 : ∀ g, g ∈ F1 → w.heap.size ≤ g := fun g hg => Nat.le_trans K2.out.size (HF1.out g hg).1
        have hwR1 : ∀ g, g ∈ R1 → w.heap.size ≤ g := fun g hg => Nat.le_trans K2.out.size (HR1.out g hg).1
        have hab : ab < w.heap.size := by
          obtain ⟨A', c2, e, _, _, h3⟩ := H.out
          rcases h3 with rfl | ⟨b2, o2, rfl, hb2, _⟩
          · simp at hlt
          · simp at e; omega
        have HBB := Lib.hid hb
        have HTT := Lib.hid ht
        have hop1 := OpAt.of (F := F1) hwF1 hb ht hi
        have hrt := DiskS.run_take s0 l m hlt
        have HRT := Lib.hid hrt
        have hle := DiskS.run_le s0 (l.take m)
        rw [List.length_take] at hle
        have hle1 : (s0.run (l.take m)).ops < 1000000000 := by
          have h1 := hle.1
          have := HOP0.out.1
          have := HL40.out
          omega
        have hle2 : (s0.run (l.take m)).marks < 1000000000 := by
          have h1 := hle.2
          have := HOP0.out.2
          have := HL40.out
          omega
        have m0 : (0 : Int) ≤ m := by omega
        have m1 : (m : Int) < l.length := by omega
        generalize l[m] = o at *
        generalize s0.run (l.take m) = sk at *
        have HOP1 := Lib.hid hop1
        have HW1 := Lib.hid hwF1
        have HW2 := Lib.hid hwR1
        clear hS hkw hb ht hop1 hrt hle hkd hwF1 hwR1
        go_wp2_with fail
        (with_reducible refine (do_any _ b F1 sk HC.out hle1 hle2 _ o HOP1.out).mono ?_)
        rintro _ w5 ⟨_, rfl, ⟨r1, rfl, hr1, F3, hF3, hd3⟩, k5⟩
        have z0 := k5.cell d0 (fun hm => by have := HW1.out _ hm; omega)
        have z1 := k5.cell d1 (fun hm => by have := HW1.out _ hm; omega)
        have z2 := k5.cell d2 (fun hm => by have := HW1.out _ hm; omega)
        have z3 := k5.cell d3 (fun hm => by have := HW1.out _ hm; omega)
        have HE5 : Hid (RDisk w5 br R1 (X1 ++ F3) sk) := Lib.hid (HE.out.beside k5 (fun g hg => (HF1.out g hg).2) (fun g hg hm => (HR1.out g hm).2 hg) (fun g hg => ⟨(hF3 g hg).imp (fun h => (HF1.out g h).2) id, hd3.lt g hg⟩))
        have HC5 := Lib.hid hd3
        have HR1' := Lib.hid hr1
        have hsz := HKW.out.size
        have HOP5 := Lib.hid (OpAt.of HW2.out (HBB.out.kept k5 hsz HW1.out (fun _ _ h => h)) (HTT.out.kept k5 hsz HW1.out (fun _ _ h => h.kept k5 hsz HW1.out)) hi)
        have H13 : Hid (∀ g, g ∈ R1 → g ∉ F3) := Lib.hid (fun g hg hm => (hF3 g hm).elim (fun h => (HR1.out g hg).2 h) (fun h => by have := HE.out.lt g hg; omega))
        clear hsz
        have HF3' := Lib.hid hF3
        have K5 := Lib.hid k5
        clear hd3 hr1 hF3 k5 d0 d1 d2 d3
        go_wp2_with fail
        (with_reducible refine (told_any _ br R1 (X1 ++ F3) sk HE5.out hle1 hle2 _ o HOP5.out).mono ?_)
        rintro _ w6 ⟨_, rfl, ⟨r2, rfl, hr2, R3, X3, hR3, hX3, hX3', hd6⟩, k6⟩
        have hK6 := (HKE.out.trans K5.out (fun g hg => .inr (HF1.out g hg).1)).trans k6 (fun g hg => .inr (HR1.out g hg).1)
        have hC6 : DiskAt w6 b F3 (sk.step o).1 := HC5.out.kept k6 (fun g hg hm => H13.out g hg hm)
        have hF6 : ∀ g, g ∈ F3 → w2.heap.size ≤ g ∧ g ∈ X3 := fun g hg => ⟨(HF3'.out g hg).elim (fun h => (HF1.out g h).1) (fun h => Nat.le_trans HKE.out.size h), hX3 g (List.mem_append.2 (.inr hg))⟩
        have hR6 : ∀ g, g ∈ R3 → w2.heap.size ≤ g ∧ g ∉ F3 := fun g hg => by
          rcases hR3 g hg with h | h
          · exact ⟨(HR1.out g h).1, H13.out g h⟩
          · have h1 := K5.out.size
            have h2 := HKE.out.size
            exact ⟨by omega, fun hm => by have := HC5.out.lt g hm; omega⟩
        have hr1' := HR1'.out.kept k6 (pl_in (w := w6) HE.out.lt (fun g hg => (HR1'.out.lt g hg).1))
        obtain ⟨b1, hs1, _⟩ := hr1'.sl
        obtain ⟨b2, hs2, _⟩ := hr2.sl
        have kdr : Kept w6 w6.drew [] := (Kept.refl w6 []).drew
        have HS1 := Lib.hid (hs1.kept kdr (.inr (by simp)))
        have HS2 := Lib.hid (hs2.kept kdr (.inr (by simp)))
        have c4 : w6.cell? ⟨br, 4, none⟩ = some (.int .i64 (sk.step o).1.ops) := by obtain ⟨_, _, _, _, _, _, hx⟩ := hd6; exact hx.blk.cell 4 rfl
        have c5 : w6.cell? ⟨br, 5, none⟩ = some (.int .i64 (sk.step o).1.writes) := by obtain ⟨_, _, _, _, _, _, hx⟩ := hd6; exact hx.blk.cell 5 rfl
        have P0 : Hid (PlS w6 w6.drew b br F3 R3 X3 (sk.step o).1) := Lib.hid ⟨hC6.kept kdr (by simp), hd6.kept kdr, kdr⟩
        have HK6 := Lib.hid hK6
        have HF6 := Lib.hid hF6
        have HR6 := Lib.hid hR6
        clear hR3 hX3 hX3' hd6 k6 hC6 hF6 hR6 hr1' hs1 hs2 hr2 hi z0 z1 z2 z3 kdr hK6
        generalize (sk.step o).1 = s6 at *
        generalize (sk.step o).2.1 = ro at *
        generalize (sk.step o).2.2 = eo at *
        have C4 := Lib.hid c4
        have C5 := Lib.hid c5
        have e4 : w6.drew.cell? ⟨br, 4, none⟩ = some (.int .i64 s6.ops) := c4
        have e5 : w6.drew.cell? ⟨br, 5, none⟩ = some (.int .i64 s6.writes) := c5
        have E4 := Lib.hid e4
        have E5 := Lib.hid e5
        clear e4 e5
        go_wp2_with fail
        have e4 := E4.out
        have e5 := E5.out
        go_region_held3 (fun W => W.cell? ⟨br, 4, none⟩ = some (.int .i64 s6.ops) ∧ W.cell? ⟨br, 5, none⟩ = some (.int .i64 s6.writes)) (first | (with_reducible exact ⟨e4, e5⟩) | (with_reducible exact ⟨a4, a5⟩) | (with_reducible exact ⟨b4, b5⟩) | (with_reducible exact ⟨c4', c5'⟩) | (with_reducible exact ⟨d4, d5⟩) | (with_reducible exact ⟨f4, f5⟩) | (with_reducible exact ⟨g4, g5⟩) | go_keep) (first
          | (go_at_call 10; (with_reducible refine (same_any _ _ _ b1 0 b2 0 _ _ HS1.out HS2.out).mono ?_); rintro _ wa ⟨_, rfl, rfl, ka⟩; have a4 := ka.cell e4 (by simp); have a5 := ka.cell e5 (by simp); have PA := Lib.hid (P0.out.kept ka); clear ka; rw [decide_eq_true rfl])
          | (go_at_call 11; (with_reducible refine (ops_any _ b F3 s6 PA.out.d).mono ?_); rintro _ wb ⟨_, rfl, rfl, kb⟩; have b4 := kb.cell a4 (by simp); have b5 := kb.cell a5 (by simp); have PB := Lib.hid (PA.out.kept kb); clear kb)
          | (go_at_call 12; (with_reducible refine (writes_any _ b F3 s6 PB.out.d).mono ?_); rintro _ wc ⟨_, rfl, rfl, kc⟩; have c4' := kc.cell b4 (by simp); have c5' := kc.cell b5 (by simp); have PC := Lib.hid (PB.out.kept kc); clear kc)
          | (go_at_call 14; (with_reducible refine (unsynced_any _ b F3 s6 PC.out.d).mono ?_); rintro _ wd ⟨vu, rfl, hvu, kd⟩; have d4 := kd.cell c4' (by simp); have d5 := kd.cell c5' (by simp); have PD := Lib.hid (PC.out.kept kd); have HVU := Lib.hid hvu; clear kd hvu)
          | (go_at_call 15; (with_reducible refine (runsynced_any _ br R3 X3 s6 PD.out.r).mono ?_); rintro _ wf ⟨vv, rfl, hvv, kf⟩; have f4 := kf.cell d4 (by simp); have f5 := kf.cell d5 (by simp); have PF := Lib.hid (PD.out.kept kf); obtain ⟨bu, hsu, _⟩ := (HVU.out.kept kf (by simp [Apart])).sl; obtain ⟨bv, hsv, _⟩ := hvv.sl; have HSU := Lib.hid hsu; have HSV := Lib.hid hsv; clear kf hvv hsu hsv)
          | (go_at_call 13; (with_reducible refine (ints_any _ _ _ bu 0 bv 0 _ _ HSU.out HSV.out).mono ?_); rintro _ wg ⟨_, rfl, rfl, kg⟩; have g4 := kg.cell f4 (by simp); have g5 := kg.cell f5 (by simp); have PG := Lib.hid (PF.out.kept kg); clear kg; rw [decide_eq_true rfl]))
        all_goals (
          have HD7 := Lib.hid PG.out.d
          have HR7 := Lib.hid PG.out.r
          have K7 := Lib.hid (HK6.out.trans PG.out.k (by simp))
          go_wp2_with fail
          go_roundg (gk - 1)
          case measure => have := HK.out; omega
          case rel => exact ⟨m + 1, F3, R3, X3, by have := HK.out; omega, by go_num, by rw [HRT.out]; exact HD7.out, by rw [HRT.out]; exact HR7.out, HF6.out, HR6.out, K7.out⟩)
      · have hkn : m = l.length := by have := HK.out; omega
        clear hlt
        subst hkn
        have hC := HC.out
        have hE := HE.out
        rw [List.take_length] at hC hE
        have hzz := HZ.out
        generalize s0.run l = sm at *
        have t1 : ((sm.last.length : Int) == (k : Int)) = true := by rw [hzz.1]; simp
        have t2 : ((sm.size : Int) == (n : Int)) = true := by rw [hzz.2.1]; simp
        have P0 : Hid (PlS wr wr b br F1 R1 X1 sm) := Lib.hid ⟨hC, hE, Kept.refl _ _⟩
        have KW := Lib.hid hkw
        clear hC hE hzz hkw
        go_wp2_with fail
        (with_reducible refine (bytes_any _ b F1 sm P0.out.d).mono ?_)
        rintro _ wa ⟨va, rfl, hva, ka⟩
        have PA := Lib.hid (P0.out.kept ka)
        have HVA := Lib.hid hva
        clear hva ka
        go_wp2_with fail
        (with_reducible refine (rbytes_any _ br R1 X1 sm PA.out.r).mono ?_)
        rintro _ wb ⟨vb, rfl, hvb, kb⟩
        obtain ⟨ba, hsa, _⟩ := (HVA.out.kept kb (by simp [Apart])).sl
        obtain ⟨bb, hsb, _⟩ := hvb.sl
        have HSA := Lib.hid hsa
        have HSB := Lib.hid hsb
        have PB := Lib.hid (PA.out.kept kb)
        clear hvb kb hsa hsb
        go_wp2_with fail
        (with_reducible refine (same_any _ _ _ ba 0 bb 0 _ _ HSA.out HSB.out).mono ?_)
        rintro _ wc ⟨_, rfl, rfl, kc⟩
        have PC := Lib.hid (PB.out.kept kc)
        clear kc
        rw [decide_eq_true rfl]
        go_wp2_with fail
        (with_reducible refine (sectors_any _ b F1 sm PC.out.d).mono ?_)
        rintro _ wd ⟨_, rfl, rfl, kd⟩
        have PD := Lib.hid (PC.out.kept kd)
        clear kd
        go_wp2_with fail
        (with_reducible refine (size_any _ b F1 sm PD.out.d).mono ?_)
        rintro _ we ⟨_, rfl, rfl, ke⟩
        have PE := Lib.hid (PD.out.kept ke)
        clear ke
        go_wp2_with fail
        go_ret
        exact ⟨rfl, (KW.out.trans PE.out.k (by simp)).below _ (Nat.le_refl _) (by simp)⟩
  · have HN := Lib.hid hN
    clear hN
    have hcases : ((20 < k ∧ k ≤ 4096) ∨ ((20 < k ∧ ¬ k ≤ 4096) ∨ ¬ 20 < k) ∧ (30 < n ∧ n ≤ 4096)) ∨ (((20 < k ∧ ¬ k ≤ 4096) ∨ ¬ 20 < k) ∧ ((30 < n ∧ ¬ n ≤ 4096) ∨ ¬ 30 < n)) := by omega
    rcases hcases with (⟨q1, q2⟩ | ⟨⟨q1, q2⟩ | q1, q3, q4⟩) | ⟨⟨q1, q2⟩ | q1, ⟨q3, q4⟩ | q3⟩
    iterate 3 (
      · go_wp2_with fail
        go_ret
        exact ⟨rfl, K2.out.below _ (Nat.le_refl _) (by simp)⟩)
    all_goals (
      go_wp2_with fail
      (with_reducible refine (new_no _ k n HN.out).mono ?_)
      rintro _ w3 ⟨_, rfl, rfl, k3⟩
      have K3 := Lib.hid (K2.out.trans k3 (by simp))
      clear k3
      go_wp2_with fail
      (with_reducible refine (rnew_no _ k n HN.out).mono ?_)
      rintro _ w4 ⟨_, rfl, rfl, k4⟩
      have K4 := Lib.hid (K3.out.trans k4 (by simp))
      clear k4
      go_wp2_with fail
      go_ret
      exact ⟨rfl, K4.out.below _ (Nat.le_refl _) (by simp)⟩)
end Go.Proofs.Ytcbngmfbbdmlgaa
