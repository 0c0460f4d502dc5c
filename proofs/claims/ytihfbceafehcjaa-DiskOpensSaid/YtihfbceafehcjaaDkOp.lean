/- PROVED: the walk of DiskOpens. No conditions beyond those that each theorem states. -/
import Derived.Test.YtihfbceafehcjaaRfC
namespace Go.Proofs.Ytihfbceafehcjaa
open Go.RowKit Go.Proofs.YtihfbceafehcjaaLib Go.WideElems Go.Maps
set_option linter.unusedSimpArgs false
set_option linter.unusedVariables false

theorem open_read (n : Nat) (l : List Int) (j k : Nat) (hk : k < (DiskS.open n l).last.length) : ((DiskS.open n l).ticks j).read (k : Int) = ((DiskS.open n l).last[k], 0) := by
  unfold DiskS.read
  have hf : ((DiskS.open n l).ticks j).fails = false := rfl
  have e1 : ((DiskS.open n l).ticks j).last = (DiskS.open n l).last := rfl
  have e2 : ((DiskS.open n l).ticks j).cach[(k : Int).toNat]?.join = none := by
    show (List.replicate _ none)[(k : Int).toNat]?.join = none
    rw [List.getElem?_replicate]
    split <;> rfl
  rw [if_neg (by rw [hf]; decide), e1, if_neg (by omega), e2, Int.toNat_natCast, List.getElem?_eq_getElem hk]
  rfl
theorem open_read_out (n : Nat) (l : List Int) (j : Nat) : ((DiskS.open n l).ticks j).read ((DiskS.open n l).last.length : Int) = ([], 2) := by
  unfold DiskS.read
  have hf : ((DiskS.open n l).ticks j).fails = false := rfl
  rw [if_neg (by rw [hf]; decide), if_pos (.inr (Int.le_refl _))]
set_option maxRecDepth 100000 in
set_option maxHeartbeats 8000000 in
theorem DiskOpens_walk (w : World) (size : Int) (v : Value) (l : List Int) (hs : SliceAt Byte1 1 w w.heap.size v l) (hz0 : -9223372036854775808 ≤ size) (hz1 : size ≤ 9223372036854775807) :
    Calls Try.prog 3 #[.int .i64 size, v] w (fun e W => e = .returned (.bool true) ∧ Below w.heap.size w W) := by
  obtain ⟨bq, off, hsl, hB, _⟩ := Sl.of_at hs
  obtain ⟨A, c, rfl⟩ := hsl.form
  have hln := hsl.len
  unfold maxLen at hln
  have HSL := Lib.hid hsl
  have HBT := Lib.hid hB
  have l0 : (0 : Int) ≤ l.length := by omega
  have l1 : (l.length : Int) ≤ 9223372036854775807 := by omega
  clear hs hsl hB hln
  go_enter Try.func3, Try.ntmps3
  go_wp2_with fail
  (with_reducible refine (awake_any _).mono ?_)
  rintro _ w1 ⟨_, rfl, rfl, k1⟩
  have K1 := Lib.hid k1
  have H1 := Lib.hid (HSL.out.kept k1 (.inr (by simp)))
  clear k1
  by_cases h200 : 200 < l.length
  · have t2 : decide ((200 : Int) < (l.length : Int)) = true := by simp; omega
    go_wp2_with fail
    go_ret
    exact ⟨rfl, K1.out.below _ (Nat.le_refl _) (by simp)⟩
  have t2 : decide ((200 : Int) < (l.length : Int)) = false := by simp; omega
  by_cases hno : ¬ OpenOk size l
  · have HNO := Lib.hid hno
    clear hno
    go_wp2_with fail
    (with_reducible refine (open_no _ size _ bq off l H1.out hz0 hz1 HNO.out).mono ?_)
    rintro _ w2 ⟨_, rfl, rfl, k2⟩
    have K2 := Lib.hid (K1.out.trans k2 (by simp))
    have H2 := Lib.hid (H1.out.kept k2 (.inr (by simp)))
    clear k2
    go_wp2_with fail
    (with_reducible refine (ropen_no _ size _ bq off l H2.out hz0 hz1 HNO.out).mono ?_)
    rintro _ w3 ⟨_, rfl, rfl, k3⟩
    have K3 := Lib.hid (K2.out.trans k3 (by simp))
    clear k3
    go_wp2_with fail
    go_ret
    exact ⟨rfl, K3.out.below _ (Nat.le_refl _) (by simp)⟩
  have hok : OpenOk size l := by simpa using hno
  obtain ⟨n, rfl⟩ := Int.eq_ofNat_of_zero_le (show 0 ≤ size by have := hok.1; omega)
  have HOO := Lib.hid hok
  clear hno hok
  go_wp2_with fail
  (with_reducible refine (open_yes _ (n : Int) _ bq off l H1.out HBT.out HOO.out).mono ?_)
  rintro _ w2 ⟨_, rfl, ⟨b, F, rfl, hd, hF⟩, k2⟩
  rw [Int.toNat_natCast] at hd
  have HD2 := Lib.hid hd
  have K2 := Lib.hid (K1.out.trans k2 (by simp))
  have H2 := Lib.hid (H1.out.kept k2 (.inr (by simp)))
  have HF := Lib.hid hF
  clear hd hF k2
  go_wp2_with fail
  (with_reducible refine (ropen_yes _ n _ bq off l H2.out HBT.out HOO.out).mono ?_)
  rintro _ w3 ⟨_, rfl, ⟨br, Fr, rfl, hr, hFr⟩, k3⟩
  have HD3 := Lib.hid (HD2.out.kept k3 (by simp))
  have K3 := Lib.hid (K2.out.trans k3 (by simp))
  have H3 := Lib.hid (H2.out.kept k3 (.inr (by simp)))
  obtain ⟨vl, vc, vp, Ls, Cs, P, hx⟩ := hr
  obtain ⟨Al, cl, rfl, _, _⟩ := hx.las.form
  have hby := open_bytes HOO.out
  rw [Int.toNat_natCast] at hby
  have HBY := Lib.hid hby
  have hll : Ls.length = (DiskS.open n l).last.length := hx.ll
  have hsz : (DiskS.open n l).size = n := rfl
  generalize hs : DiskS.open n l = s at *
  have HLL := Lib.hid hll
  have HSZ := Lib.hid hsz
  have HX := Lib.hid hx
  have d1 := hx.blk.cell 1 rfl
  have HS := Lib.hid hs
  have HFr := Lib.hid hFr
  clear hx hby hll hsz hs hFr k3
  have e0 : w3.drew.cell? ⟨br, 1, none⟩ = some (.slice Al Ls.length cl) := d1
  have hD0 := Lib.hid (HD3.out.kept ((Kept.refl w3 []).drew) (by simp))
  have tls : ((s.last.length : Int) != (Ls.length : Int)) = false := by have := HLL.out; simp; omega
  have tsz : ((s.size : Int) != (n : Int)) = false := by have := HSZ.out; simp; omega
  go_wp2_with fail
  go_region_held3 (fun W => W.cell? ⟨br, 1, none⟩ = some (.slice Al Ls.length cl)) (first | (with_reducible exact e0) | (with_reducible exact ea) | (with_reducible exact eb) | (with_reducible exact ec) | (with_reducible exact ed) | go_keep) (first
    | (go_at_call 14; (with_reducible refine (sectors_any _ b F s hD0.out).mono ?_); rintro _ wa ⟨_, rfl, rfl, ka⟩; have ea := ka.cell (w := w3.drew) d1 (by simp); have hDa := Lib.hid (hD0.out.kept ka (by simp)); have kA := Lib.hid ((Kept.refl w3 []).drew.trans ka (by simp)); clear ka)
    | (go_at_call 15; (with_reducible refine (size_any _ b F s hDa.out).mono ?_); rintro _ wb ⟨_, rfl, rfl, kb⟩; have eb := kb.cell ea (by simp); have hDb := Lib.hid (hDa.out.kept kb (by simp)); have kB := Lib.hid (kA.out.trans kb (by simp)); clear kb)
    | (go_at_call 17; (with_reducible refine (bytes_any _ b F s hDb.out).mono ?_); rintro _ wc ⟨vb, rfl, hvb, kc⟩; have ec := kc.cell eb (by simp); have hDc := Lib.hid (hDb.out.kept kc (by simp)); have kC := Lib.hid (kB.out.trans kc (by simp)); have hVB := Lib.hid hvb; obtain ⟨bvb, hsvb, _⟩ := hvb.sl; have hSVB := Lib.hid hsvb; have hH3 := Lib.hid (H3.out.kept kC.out (.inr (by simp))); clear kc hvb hsvb)
    | (go_at_call 16; (with_reducible refine (same_any _ _ _ bvb 0 bq off _ _ hSVB.out hH3.out).mono ?_); rintro _ wd ⟨_, rfl, rfl, kd⟩; have ed := kd.cell ec (by simp); have hDd := Lib.hid (hDc.out.kept kd (by simp)); have kD := Lib.hid (kC.out.trans kd (by simp)); clear kd; rw [HBY.out, decide_eq_true rfl]))
  all_goals (
    have hk4 : s.last.length ≤ 4096 := HD3.out.ok.n1
    have hlsl : Ls.length ≤ 4096 := by have := HLL.out; omega
    have x0 : (0 : Int) ≤ Ls.length := by omega
    have x1 : (Ls.length : Int) ≤ 4096 := by omega
    have hbr : br ≠ b := by
      intro e
      have h1 := HD2.out.lt b HD2.out.fb
      have h2 := HFr.out br HX.out.fb
      omega
    have HBR := Lib.hid hbr
    have HDD := Lib.hid hDd.out
    have KD := Lib.hid kD.out
    clear hbr hk4 hlsl
    go_wp2_with fail
    go_loopg [9] Ls.length (fun g i wr => ∃ k : Nat, k + g = Ls.length ∧ i = .int .i64 k ∧ DiskAt wr b F (s.ticks k) ∧ Kept w3 wr [b])
    case atStart => exact ⟨0, by omega, rfl, HDD.out, KD.out.mono (by simp)⟩
    case round =>
      obtain ⟨k, hk, rfl, hd, hkr⟩ := hrel
      have HK := Lib.hid hk
      have HKR := Lib.hid hkr
      have HDK := Lib.hid hd
      have y1 := hkr.cell d1 (by simp; exact HBR.out)
      have hrow := rows_kept HX.out.las hkr (fun g hg hm => by
        simp at hm; subst hm
        have h1 := HD2.out.lt _ HD2.out.fb
        have h2 := HFr.out _ (HX.out.fl _ hg)
        omega)
      have HROW := Lib.hid hrow
      clear hk hkr hd hrow
      by_cases hlt : k < Ls.length
      · have hkl : k < s.last.length := by have := HLL.out; omega
        obtain ⟨u, hu, hcel⟩ := HX.out.lel k s.last[k] (List.getElem?_eq_getElem hkl)
        obtain ⟨g0, c0, hv0, hcu, _, _, _⟩ := HROW.out.cell hu
        simp only [Value.slice.injEq] at hv0
        obtain ⟨rfl, _, rfl⟩ := hv0
        obtain ⟨bb, cb, rfl, hsb, hnb⟩ := hcel
        have hrd : (s.ticks k).read (k : Int) = (s.last[k], 0) := by
          have hs := HS.out
          subst hs
          exact open_read n l k k hkl
        have hbF : bb ≠ b := by
          intro e
          subst e
          obtain ⟨_, _, _, _, _, _, _, hxd⟩ := HD3.out
          have h1 := hxd.blk.cell 0 rfl
          have hsl : 0 < s.last[k].length := by
            have := (HD3.out.ok.ls _ (List.getElem_mem hkl)).1
            have := HD3.out.ok.s1
            omega
          have h2 := hsb.cell (List.getElem?_eq_getElem hsl)
          rw [Nat.zero_add, h1] at h2
          simp at h2
        have hsb' := hsb.kept HKR.out (.inr (by simp; exact hbF))
        have k0 : (0 : Int) ≤ k := by omega
        have k1 : (k : Int) < Ls.length := by omega
        generalize s.last[k] = X at *
        generalize X.length = nx at *
        have HRD := Lib.hid hrd
        have HSB := Lib.hid hsb'
        have HBF := Lib.hid hbF
        clear hrd hsb hsb' hnb hbF hu
        go_wp2_with fail
        (with_reducible refine (read_any _ b F (s.ticks k) HDK.out ?hro (k : Int)).mono ?_)
        case hro =>
          have hs := HS.out
          have e : (s.ticks k).ops = 0 + k := by subst hs; rfl
          have := HLL.out
          omega
        rintro _ w5 ⟨_, rfl, ⟨rv, rfl, hrv, hd5⟩, k5⟩
        rw [HRD.out] at hrv ⊢
        dsimp only at hrv ⊢
        have y1' := k5.cell y1 (by simp; exact HBR.out)
        have hcu' := k5.cell hcu (by
          simp
          intro e
          have h1 := HD2.out.lt _ HD2.out.fb
          have h2 := HFr.out _ (HX.out.fl g0 (by simp [Value.ownBlock]))
          omega)
        obtain ⟨brv, hsrv, _⟩ := hrv.sl
        have HSRV := Lib.hid hsrv
        have HSB5 : Hid (Sl .u8 w5 _ bb 0 X) := Lib.hid (HSB.out.kept k5 (.inr (by simp; exact HBF.out)))
        have HK5 := Lib.hid (HKR.out.trans k5 (fun g hg => .inl hg))
        have HD5 : Hid (DiskAt w5 b F (s.ticks (k + 1))) := Lib.hid hd5
        clear hrv hsrv k5 hd5 y1 hcu
        go_wp2_with fail
        (with_reducible refine (same_any _ _ _ brv 0 bb 0 _ _ HSRV.out HSB5.out).mono ?_)
        rintro _ w6 ⟨_, rfl, rfl, k6⟩
        have HK6 := Lib.hid (HK5.out.trans k6 (by simp))
        have HD6 := Lib.hid (HD5.out.kept k6 (by simp))
        clear k6
        rw [decide_eq_true rfl]
        go_wp2_with fail
        go_roundg (gk - 1)
        case measure => have := HK.out; omega
        case rel => exact ⟨k + 1, by have := HK.out; omega, by go_num, HD6.out, HK6.out⟩
      · have hkn : k = Ls.length := by have := HK.out; omega
        clear hlt
        subst hkn
        have hrd : (s.ticks Ls.length).read (Ls.length : Int) = ([], 2) := by
          have hs := HS.out
          have hl := HLL.out
          rw [hl]
          subst hs
          exact open_read_out n l _
        have HRD := Lib.hid hrd
        clear hrd
        go_wp2_with fail
        (with_reducible refine (read_any _ b F (s.ticks Ls.length) HDK.out ?hro2 (Ls.length : Int)).mono ?_)
        case hro2 =>
          have hs := HS.out
          have e : (s.ticks Ls.length).ops = 0 + Ls.length := by subst hs; rfl
          omega
        rintro _ w5 ⟨_, rfl, ⟨rv, rfl, hrv, hd5⟩, k5⟩
        rw [HRD.out] at hrv ⊢
        dsimp only at hrv ⊢
        have HK5 := Lib.hid (HKR.out.trans k5 (fun g hg => .inl hg))
        have HBW : Hid (w.heap.size ≤ b) := Lib.hid (Nat.le_trans K1.out.size (HF.out b HD2.out.fb))
        clear hrv k5 hd5
        go_wp2_with fail
        go_ret
        exact ⟨rfl, (K3.out.trans HK5.out (fun g hg => .inr (by simp at hg; subst hg; exact HBW.out))).below _ (Nat.le_refl _) (by simp)⟩)
end Go.Proofs.Ytihfbceafehcjaa
