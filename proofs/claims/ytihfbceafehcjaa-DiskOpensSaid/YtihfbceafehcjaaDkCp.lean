/- PROVED: the walk of DiskCopies. No conditions beyond those that each theorem states. -/
import Derived.Test.YtihfbceafehcjaaDkSy
import Derived.Test.YtihfbceafehcjaaInts
namespace Go.Proofs.Ytihfbceafehcjaa
open Go.RowKit Go.Proofs.YtihfbceafehcjaaLib Go.WideElems Go.Maps
set_option linter.unusedSimpArgs false
set_option linter.unusedVariables false

theorem not_in {w : World} {F F' : List Nat} {n : Nat} (h : ∀ g, g ∈ F → g < n) (h' : ∀ g, g ∈ F' → n ≤ g) : ∀ g, g ∈ F' → g ∉ F := fun g hg hm => by have := h g hm; have := h' g hg; omega
theorem apart_of {v : Value} {F : List Nat} {n : Nat} (h : ∀ g, v.ownBlock = some g → n ≤ g) (h' : ∀ g, g ∈ F → g < n) : Apart v F := fun g hg hm => by have := h g hg; have := h' g hm; omega
set_option maxRecDepth 100000 in
set_option maxHeartbeats 4000000 in
theorem DiskCopies_walk (w : World) (v u : Value) (l m : List DkOp) (h : SliceAt (OpK w.heap.size) 4 w w.heap.size v l) (hm : SliceAt (OpK w.heap.size) 4 w w.heap.size u m) :
    Calls Try.prog 10 #[v, u] w (fun e W => e = .returned (.bool true) ∧ Below w.heap.size w W) := by
  obtain ⟨A, c, rfl, hc1, hc2⟩ := SliceAt.form h
  obtain ⟨Am, cm, rfl, hm1, hm2⟩ := SliceAt.form hm
  have H := Lib.hid h
  have HM := Lib.hid hm
  unfold maxLen at hc2 hm2
  have l0 : (0 : Int) ≤ l.length := by omega
  have l1 : (l.length : Int) ≤ 9223372036854775807 := by omega
  have m0 : (0 : Int) ≤ m.length := by omega
  have m1 : (m.length : Int) ≤ 9223372036854775807 := by omega
  clear h hc2 hm hm2
  go_enter Try.func10, Try.ntmps10
  go_wp2_with fail
  (with_reducible refine (awake_any _).mono ?_)
  rintro _ w1 ⟨_, rfl, rfl, k1⟩
  have K1 := Lib.hid k1
  have H1 := Lib.hid (K_ops H.out k1 (Nat.le_refl _))
  clear k1
  go_wp2_with fail
  (with_reducible refine (few_any _ _ _ _ _ H1.out).mono ?_)
  rintro _ w2 ⟨_, rfl, ⟨x, rfl, hx⟩, k2⟩
  have K2 := Lib.hid (K1.out.trans k2 (by simp))
  have H2 := Lib.hid (K_ops HM.out K2.out (Nat.le_refl _))
  have HX := Lib.hid hx
  clear k2 hx
  go_wp2_with fail
  (with_reducible refine (few_any _ _ _ _ _ H2.out).mono ?_)
  rintro _ w3 ⟨_, rfl, ⟨y, rfl, hy⟩, k3⟩
  have K3 := Lib.hid (K2.out.trans k3 (by simp))
  have HY := Lib.hid hy
  clear k3 hy
  cases x with
  | false =>
    go_wp2_with fail
    go_ret
    exact ⟨rfl, K3.out.below _ (Nat.le_refl _) (by simp)⟩
  | true =>
  cases y with
  | false =>
    go_wp2_with fail
    go_ret
    exact ⟨rfl, K3.out.below _ (Nat.le_refl _) (by simp)⟩
  | true =>
  have HL40 := Lib.hid (HX.out rfl)
  have HM40 := Lib.hid (HY.out rfl)
  clear HX HY
  go_wp2_with fail
  (with_reducible refine (made_any _ w.heap.size _ l (K_ops H.out K3.out (Nat.le_refl _)) K3.out.size HL40.out).mono ?_)
  rintro _ w4 ⟨_, rfl, ⟨b, F, rfl, hd, hF⟩, k4⟩
  have HF : Hid (∀ g, g ∈ F → w.heap.size ≤ g) := Lib.hid (fun g hg => Nat.le_trans K3.out.size (hF g hg))
  have K4 := Lib.hid (K3.out.trans k4 (by simp))
  have hle := DiskS.run_le (DiskS.new 8 4) l
  generalize (DiskS.new 8 4).run l = s at *
  have HOP : Hid (s.ops ≤ 40) := Lib.hid (by have h1 := hle.1; have h2 : (DiskS.new 8 4).ops = 0 := rfl; have := HL40.out; omega)
  have HMA : Hid (s.marks ≤ 40) := Lib.hid (by have h1 := hle.2; have h2 : (DiskS.new 8 4).marks = 0 := rfl; have := HL40.out; omega)
  have HD := Lib.hid hd
  clear hle hd hF k4
  go_wp2_with fail
  (with_reducible refine (bytes_any _ b F s HD.out).mono ?_)
  rintro _ w5 ⟨v5, rfl, hv5, k5⟩
  have HD5 := Lib.hid (HD.out.kept k5 (by simp))
  have K5 := Lib.hid (K4.out.trans k5 (by simp))
  have HV5 := Lib.hid hv5
  have HVF : Hid (∀ g, v5.ownBlock = some g → w4.heap.size ≤ g) := Lib.hid (fun g hg => (hv5.lt g hg).1)
  have HA5 : Hid (Apart v5 F) := Lib.hid (apart_of HVF.out HD.out.lt)
  clear hv5 k5
  go_wp2_with fail
  (with_reducible refine (ops_any _ b F s HD5.out).mono ?_)
  rintro _ w6 ⟨_, rfl, rfl, k6⟩
  have HD6 := Lib.hid (HD5.out.kept k6 (by simp))
  have K6 := Lib.hid (K5.out.trans k6 (by simp))
  have HV6 := Lib.hid (HV5.out.kept k6 (by simp [Apart]))
  clear k6
  go_wp2_with fail
  (with_reducible refine (copy_any _ b F s HD6.out).mono ?_)
  rintro _ w7 ⟨_, rfl, ⟨bc, Fc, rfl, hdc, hFc⟩, k7⟩
  have HD7 := Lib.hid (HD6.out.kept k7 (by simp))
  have K7 := Lib.hid (K6.out.trans k7 (by simp))
  have K67 := Lib.hid k7
  have HV7 := Lib.hid (HV6.out.kept k7 (by simp [Apart]))
  have HC7 := Lib.hid hdc
  have HFC := Lib.hid hFc
  clear hdc hFc k7
  go_wp2_with fail
  (with_reducible refine (copy_any _ b F s HD7.out).mono ?_)
  rintro _ w8 ⟨_, rfl, ⟨be, Fe, rfl, hde, hFe⟩, k8⟩
  have HD8 := Lib.hid (HD7.out.kept k8 (by simp))
  have K8 := Lib.hid (K7.out.trans k8 (by simp))
  have K68 := Lib.hid (K67.out.trans k8 (by simp))
  have HV8 := Lib.hid (HV7.out.kept k8 (by simp [Apart]))
  have HC8 := Lib.hid (HC7.out.kept k8 (by simp))
  have HE8 := Lib.hid hde
  have HFE := Lib.hid hFe
  have HCE : Hid (∀ g, g ∈ Fe → g ∉ Fc) := Lib.hid (fun g hg hm => by have h1 := hFe g hg; have h2 := HC7.out.lt g hm; omega)
  clear hde hFe k8
  go_wp2_with fail
  go_loopg [13] m.length (fun g i wr => ∃ (k : Nat) (F1 F2 : List Nat), k + g = m.length ∧ i = .int .i64 k ∧ DiskAt wr bc F1 (s.run (m.take k)) ∧ DiskAt wr be F2 (s.run (m.take k)) ∧ (∀ g, g ∈ F1 → w6.heap.size ≤ g) ∧ (∀ g, g ∈ F2 → w6.heap.size ≤ g) ∧ (∀ g, g ∈ F2 → g ∉ F1) ∧ Kept w6 wr [])
  case atStart =>
    exact ⟨0, Fc, Fe, by omega, rfl, HC8.out, HE8.out, HFC.out, fun g hg => Nat.le_trans K67.out.size (HFE.out g hg), HCE.out, K68.out⟩
  case round =>
    obtain ⟨k, F1, F2, hk, rfl, h1, h2, hF1, hF2, hF12, hkept⟩ := hrel
    have HK := Lib.hid hk
    have HKE := Lib.hid hkept
    have HC := Lib.hid h1
    have HE := Lib.hid h2
    have HF1 := Lib.hid hF1
    have HF2 := Lib.hid hF2
    have HF12 := Lib.hid hF12
    clear hk hkept h1 h2 hF1 hF2 hF12
    have hkw := K6.out.trans HKE.out (by simp)
    by_cases hlt : k < m.length
    · have hS := K_ops HM.out hkw (Nat.le_refl _)
      have HKW := Lib.hid hkw
      obtain ⟨ab, off, c', Ab, At, cb, ct, e, d0, d1, d2, d3, hb, ht, hi, hkd, _⟩ := ops_cells hS hlt
      simp only [Value.slice.injEq] at e
      obtain ⟨rfl, _, rfl⟩ := e
      have hwF1 : ∀ g, g ∈ F1 → w.heap.size ≤ g := fun g hg => Nat.le_trans K6.out.size (HF1.out g hg)
      have hwF2 : ∀ g, g ∈ F2 → w.heap.size ≤ g := fun g hg => Nat.le_trans K6.out.size (HF2.out g hg)
      have hab : ab < w.heap.size := by
        obtain ⟨A', c2, e, _, _, h3⟩ := HM.out
        rcases h3 with rfl | ⟨b2, o2, rfl, hb2, _⟩
        · simp at hlt
        · simp at e; omega
      have HBB := Lib.hid hb
      have HTT := Lib.hid ht
      have hop1 := OpAt.of (F := F1) hwF1 hb ht hi
      have hrt := DiskS.run_take s m k hlt
      have HRT := Lib.hid hrt
      have hle := DiskS.run_le s (m.take k)
      rw [List.length_take] at hle
      have hle1 : (s.run (m.take k)).ops < 1000000000 := by
        have h1 := hle.1
        have := HOP.out
        have := HM40.out
        omega
      have hle2 : (s.run (m.take k)).marks < 1000000000 := by
        have h1 := hle.2
        have := HMA.out
        have := HM40.out
        omega
      have k0 : (0 : Int) ≤ k := by omega
      have k1 : (k : Int) < m.length := by omega
      generalize m[k] = o at *
      generalize s.run (m.take k) = sk at *
      have HOP1 := Lib.hid hop1
      have HW1 := Lib.hid hwF1
      have HW2 := Lib.hid hwF2
      clear hS hkw hb ht hop1 hrt hle hkd hwF1 hwF2
      go_wp2_with fail
      (with_reducible refine (do_any _ bc F1 sk HC.out hle1 hle2 _ o HOP1.out).mono ?_)
      rintro _ w9 ⟨_, rfl, ⟨r1, rfl, hr1, F3, hF3, hd3⟩, k9⟩
      have hn1 : ∀ g, g ∈ F1 → g ∉ F2 := fun g hg hm => HF12.out g hm hg
      have z0 := k9.cell d0 (fun hm => by have := HW1.out _ hm; omega)
      have z1 := k9.cell d1 (fun hm => by have := HW1.out _ hm; omega)
      have z2 := k9.cell d2 (fun hm => by have := HW1.out _ hm; omega)
      have z3 := k9.cell d3 (fun hm => by have := HW1.out _ hm; omega)
      have HE9 := Lib.hid (HE.out.kept k9 hn1)
      have HC9 := Lib.hid hd3
      have HR1 := Lib.hid hr1
      have hsz := HKW.out.size
      have HOP9 := Lib.hid (OpAt.of HW2.out (HBB.out.kept k9 hsz HW1.out (fun _ _ h => h)) (HTT.out.kept k9 hsz HW1.out (fun _ _ h => h.kept k9 hsz HW1.out)) hi)
      clear hsz
      have HF3 := Lib.hid hF3
      have K9 := Lib.hid k9
      clear hd3 hr1 hF3 k9 hn1 d0 d1 d2 d3
      go_wp2_with fail
      (with_reducible refine (do_any _ be F2 sk HE9.out hle1 hle2 _ o HOP9.out).mono ?_)
      rintro _ w10 ⟨_, rfl, ⟨r2, rfl, hr2, F4, hF4, hd4⟩, k10⟩
      have HK10 : Hid (Kept w6 w10 []) := Lib.hid ((HKE.out.trans K9.out (fun g hg => .inr (HF1.out g hg))).trans k10 (fun g hg => .inr (HF2.out g hg)))
      have hs9 := K9.out.size
      have hC4 : DiskAt w10 bc F3 (sk.step o).1 := HC9.out.kept k10 (fun g hg hm => (HF3.out g hm).elim (fun h => HF12.out g hg h) (fun h => by have := HE.out.lt g hg; omega))
      have h34 : ∀ g, g ∈ F4 → g ∉ F3 := fun g hg hm => by
        rcases hF4 g hg with h | h
        · rcases HF3.out g hm with h' | h'
          · exact HF12.out g h h'
          · have := HE.out.lt g h; omega
        · have := HC9.out.lt g hm; omega
      have hF3' : ∀ g, g ∈ F3 → w6.heap.size ≤ g := fun g hg => (HF3.out g hg).elim (HF1.out g) (fun h => Nat.le_trans HKE.out.size h)
      have hF4' : ∀ g, g ∈ F4 → w6.heap.size ≤ g := fun g hg => (hF4 g hg).elim (HF2.out g) (fun h => Nat.le_trans (Nat.le_trans HKE.out.size K9.out.size) h)
      have hr1' := HR1.out.kept k10 (apart_of (fun g hg => (HR1.out.lt g hg).1) HE.out.lt)
      obtain ⟨b1, hs1, _⟩ := hr1'.sl
      obtain ⟨b2, hs2, _⟩ := hr2.sl
      have HS1 := Lib.hid hs1
      have HS2 := Lib.hid hs2
      have HC4 := Lib.hid hC4
      have HE4 := Lib.hid hd4
      have H34 := Lib.hid h34
      have HF3' := Lib.hid hF3'
      have HF4' := Lib.hid hF4'
      clear hF4 hd4 k10 hC4 h34 hF3' hF4' hr1' hs1 hs2 hr2 hs9 hi z0 z1 z2 z3
      go_wp2_with fail
      (with_reducible refine (same_any _ _ _ b1 0 b2 0 _ _ HS1.out HS2.out).mono ?_)
      rintro _ w11 ⟨_, rfl, rfl, k11⟩
      have HC11 := Lib.hid (HC4.out.kept k11 (by simp))
      have HE11 := Lib.hid (HE4.out.kept k11 (by simp))
      have HK11 := Lib.hid (HK10.out.trans k11 (by simp))
      clear k11
      rw [decide_eq_true rfl]
      go_wp2_with fail
      go_roundg (gk - 1)
      case measure => have := HK.out; omega
      case rel => exact ⟨k + 1, F3, F4, by have := HK.out; omega, by go_num, by rw [HRT.out]; exact HC11.out, by rw [HRT.out]; exact HE11.out, HF3'.out, HF4'.out, H34.out, HK11.out⟩
    · have hkn : k = m.length := by have := HK.out; omega
      clear hlt
      subst hkn
      have hC := HC.out
      have hE := HE.out
      rw [List.take_length] at hC hE
      generalize s.run m = sm at *
      have hD := HD6.out.kept HKE.out (by simp)
      have hV := HV6.out.kept HKE.out (by simp [Apart])
      have HCm := Lib.hid hC
      have HEm := Lib.hid hE
      have HDm := Lib.hid hD
      have HVm := Lib.hid hV
      have KW := Lib.hid hkw
      clear hC hE hD hV hkw
      go_wp2_with fail
      (with_reducible refine (bytes_any _ b F s HDm.out).mono ?_)
      rintro _ w9 ⟨v9, rfl, hv9, k9⟩
      obtain ⟨b9, hs9, _⟩ := hv9.sl
      obtain ⟨b5, hs5, _⟩ := (HVm.out.kept k9 (by simp [Apart])).sl
      have HS9 := Lib.hid hs9
      have HS5 := Lib.hid hs5
      have K9 := Lib.hid k9
      clear hv9 hs9 hs5 k9
      go_wp2_with fail
      (with_reducible refine (same_any _ _ _ b9 0 b5 0 _ _ HS9.out HS5.out).mono ?_)
      rintro _ w10 ⟨_, rfl, rfl, k10⟩
      have K10 := Lib.hid (K9.out.trans k10 (by simp))
      clear k10
      rw [decide_eq_true rfl]
      go_wp2_with fail
      (with_reducible refine (ops_any _ b F s (HDm.out.kept K10.out (by simp))).mono ?_)
      rintro _ w11 ⟨_, rfl, rfl, k11⟩
      have K11 := Lib.hid (K10.out.trans k11 (by simp))
      clear k11
      go_wp2_with fail
      (with_reducible refine (bytes_any _ bc F1 sm (HCm.out.kept K11.out (by simp))).mono ?_)
      rintro _ w12 ⟨v12, rfl, hv12, k12⟩
      have HV12 := Lib.hid hv12
      have K12 := Lib.hid (K11.out.trans k12 (by simp))
      clear k12 hv12
      go_wp2_with fail
      (with_reducible refine (bytes_any _ be F2 sm (HEm.out.kept K12.out (by simp))).mono ?_)
      rintro _ w13 ⟨v13, rfl, hv13, k13⟩
      obtain ⟨b13, hs13, _⟩ := hv13.sl
      obtain ⟨b12, hs12, _⟩ := (HV12.out.kept k13 (by simp [Apart])).sl
      have HS13 := Lib.hid hs13
      have HS12 := Lib.hid hs12
      have K13 := Lib.hid (K12.out.trans k13 (by simp))
      clear k13 hv13 hs13 hs12
      go_wp2_with fail
      (with_reducible refine (same_any _ _ _ b12 0 b13 0 _ _ HS12.out HS13.out).mono ?_)
      rintro _ w14 ⟨_, rfl, rfl, k14⟩
      have K14 := Lib.hid (K13.out.trans k14 (by simp))
      clear k14
      rw [decide_eq_true rfl]
      go_wp2_with fail
      (with_reducible refine (unsynced_any _ bc F1 sm (HCm.out.kept K14.out (by simp))).mono ?_)
      rintro _ w15 ⟨v15, rfl, hv15, k15⟩
      have HV15 := Lib.hid hv15
      have K15 := Lib.hid (K14.out.trans k15 (by simp))
      clear k15 hv15
      go_wp2_with fail
      (with_reducible refine (unsynced_any _ be F2 sm (HEm.out.kept K15.out (by simp))).mono ?_)
      rintro _ w16 ⟨v16, rfl, hv16, k16⟩
      obtain ⟨b16, hs16, _⟩ := hv16.sl
      obtain ⟨b15, hs15, _⟩ := (HV15.out.kept k16 (by simp [Apart])).sl
      have HS16 := Lib.hid hs16
      have HS15 := Lib.hid hs15
      have K16 := Lib.hid (K15.out.trans k16 (by simp))
      clear k16 hv16 hs16 hs15
      go_wp2_with fail
      (with_reducible refine (ints_any _ _ _ b15 0 b16 0 _ _ HS15.out HS16.out).mono ?_)
      rintro _ w17 ⟨_, rfl, rfl, k17⟩
      have K17 := Lib.hid (K16.out.trans k17 (by simp))
      clear k17
      rw [decide_eq_true rfl]
      go_wp2_with fail
      go_ret
      exact ⟨rfl, (KW.out.trans K17.out (by simp)).below _ (Nat.le_refl _) (by simp)⟩
end Go.Proofs.Ytihfbceafehcjaa
