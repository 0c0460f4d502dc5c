/- PROVED: the walk of SlotPlays. No conditions beyond those that each theorem states. -/
import Derived.Test.YtlojgelidcjeaaaGreatDoorSpB
import Derived.Test.YtlojgelidcjeaaaGreatDoorSlAw
import Derived.Deep.RegionHeld3
import Derived.Deep.CutRange
import Derived.Deep.CutBlock
namespace Go.Proofs.YtlojgelidcjeaaaGreatDoor
open Go.RowKit Go.Proofs.YtlojgelidcjeaaaGreatDoorLib Go.WideElems Go.Maps
set_option linter.unusedSimpArgs false
set_option linter.unusedVariables false

theorem RDisk.opsc {w : World} {b : Nat} {F X : List Nat} {s : DiskS} (h : RDisk w b F X s) : w.cell? ⟨b, 4, none⟩ = some (.int .i64 s.ops) := let ⟨_, _, _, _, _, _, h⟩ := h; h.blk.cell 4 rfl
theorem b_lt {w : World} {b : Nat} {F : List Nat} {s : DiskS} (h : DiskAt w b F s) : ∀ g, g ∈ [b] → g ∈ F := fun g hg => by simp at hg; subst hg; exact h.fb
theorem rb_lt {w : World} {b : Nat} {F X : List Nat} {s : DiskS} (h : RDisk w b F X s) : ∀ g, g ∈ [b] → g ∈ F := fun g hg => by simp at hg; subst hg; exact h.fb
set_option maxRecDepth 100000 in
set_option maxHeartbeats 16000000 in
theorem SlotPlays_walk (w : World) (hg : GeoLaid w) (sec sz e f g : Int) (v : Value) (l : List SpOp) (h : SliceAt (SpK w.heap.size) 6 w w.heap.size v l) (c0 : 0 ≤ sec) (c1 : sec ≤ 255) (z0 : 0 ≤ sz) (z1 : sz ≤ 255) :
    Calls Tryz.prog 3 #[.int .u8 sec, .int .u8 sz, geoW e f g, v] w (fun e W => e = .returned (.bool true) ∧ Below w.heap.size w W) := by
  obtain ⟨A, c, rfl, hc1, hc2⟩ := SpSl.form h
  have H := Lib.hid h
  have HG := Lib.hid hg
  unfold maxLen at hc2
  have l0 : (0 : Int) ≤ l.length := by omega
  have l1 : (l.length : Int) ≤ 9223372036854775807 := by omega
  have hb0 := Blk.new w 23 [.int .i64 e, .int .i64 f, .int .i64 g]
  have k0 : Kept w (w.alloc (.cells #[.int .i64 e, .int .i64 f, .int .i64 g] 23)) [] := (Kept.refl w []).alloc _
  have HAW := Lib.hid (awake_any _ (hg.alloc (.cells #[.int .i64 e, .int .i64 f, .int .i64 g] 23)))
  have HFE := Lib.hid (fun W => few_any W e f g)
  have HB0 := Lib.hid hb0
  have K0 := Lib.hid k0
  have y1 : sz.tmod 100 = sz % 100 := Int.tmod_eq_emod_of_nonneg z0
  have y2 : IntKind.i64.wrap (sz % 100) = sz % 100 := by rw [IntKind.wrap_i64]; omega
  have y3 : (0 : Int) ≤ sz % 100 := by omega
  have y4 : sz % 100 ≤ 99 := by omega
  have y5 : IntKind.u8.wrap (sz % 100) = sz % 100 := by rw [IntKind.wrap_u8]; omega
  have y6 : sec.tmod 41 = sec % 41 := Int.tmod_eq_emod_of_nonneg c0
  have y7 : IntKind.i64.wrap (sec % 41) = sec % 41 := by rw [IntKind.wrap_i64]; omega
  have y8 : (0 : Int) ≤ sec % 41 := by omega
  have y9 : sec % 41 ≤ 40 := by omega
  have y10 : IntKind.u8.wrap (sec % 41) = sec % 41 := by rw [IntKind.wrap_u8]; omega
  obtain ⟨nn, hnn⟩ : ∃ nn : Nat, sec % 41 = (nn : Int) := ⟨(sec % 41).toNat, by omega⟩
  obtain ⟨mm, hmm⟩ : ∃ mm : Nat, 1 + sz % 100 = (mm : Int) := ⟨(1 + sz % 100).toNat, by omega⟩
  have HNK : Hid (NewOk (nn : Int) (mm : Int)) := Lib.hid ⟨by omega, by omega, by omega, by omega⟩
  have HNM := Lib.hid (And.intro hnn hmm)
  clear h hc2 hg hb0 k0 hnn hmm
  go_enter Tryz.func3, Tryz.ntmps3
  go_wp2_with fail
  refine HAW.out.mono ?_
  rintro _ w1 ⟨_, rfl, rfl, k1⟩
  have HB1 := Lib.hid (HB0.out.kept k1 (by simp))
  have K1 := Lib.hid (K0.out.trans k1 (by simp))
  have hs1 : SliceAt (SpK w.heap.size) 6 w1 w.heap.size (.slice A l.length c) l := H.out.kept K1.out (Nat.le_refl _) (by simp) (fun cs x h => h.kept K1.out (Nat.le_refl _) (by simp))
  have HS1 := Lib.hid hs1
  clear k1 HAW hs1
  go_wp2_with fail
  (with_reducible refine (spfew_any _ _ _ _ _ HS1.out).mono ?_)
  rintro _ w2 ⟨_, rfl, ⟨x, rfl, hx⟩, k2⟩
  have hb2 := HB1.out.kept k2 (by simp)
  have HB2 := Lib.hid hb2
  have K2 := Lib.hid (K1.out.trans k2 (by simp))
  have HX := Lib.hid hx
  have x0 := hb2.cell 0 rfl
  have x1 := hb2.cell 1 rfl
  have x2 := hb2.cell 2 rfl
  clear k2 hx hb2
  go_wp2_with fail
  refine (HFE.out _).mono ?_
  rintro _ w3 ⟨_, rfl, rfl, k3⟩
  have HB3 := Lib.hid (HB2.out.kept k3 (by simp))
  have K3 := Lib.hid (K2.out.trans k3 (by simp))
  clear k3 x0 x1 x2
  cases x with
  | false =>
    go_wp2_with fail
    go_ret
    exact ⟨rfl, K3.out.below _ (Nat.le_refl _) (by simp)⟩
  | true =>
  cases hfw : fewG e f g with
  | false =>
    go_wp2_with fail
    go_ret
    exact ⟨rfl, K3.out.below _ (Nat.le_refl _) (by simp)⟩
  | true =>
  have HFW := Lib.hid hfw
  have HL12 := Lib.hid (HX.out rfl)
  clear hfw HX
  go_wp2_with fail
  rw [HNM.out.1, HNM.out.2]
  clear y1 y2 y3 y4 y5 y6 y7 y8 y9 y10 c0 c1 z0 z1
  (with_reducible refine (new_yes _ (nn : Int) (mm : Int) HNK.out).mono ?_)
  rintro _ w4 ⟨_, rfl, ⟨b, F, rfl, hd, hF⟩, k4⟩
  rw [Int.toNat_natCast, Int.toNat_natCast] at hd
  have HD4 := Lib.hid hd
  have HF4 := Lib.hid hF
  have K4 := Lib.hid k4
  clear hd hF k4
  go_wp2_with fail
  (with_reducible refine (rnew_yes _ (nn : Int) (mm : Int) HNK.out F HD4.out.lt).mono ?_)
  rintro _ w5 ⟨_, rfl, ⟨br, R, rfl, hr, hR⟩, k5⟩
  rw [Int.toNat_natCast, Int.toNat_natCast] at hr
  have hs0 : (DiskS.new nn mm).ops = 0 ∧ (DiskS.new nn mm).marks = 0 := ⟨rfl, rfl⟩
  have HS0 := Lib.hid hs0
  generalize DiskS.new nn mm = s0 at *
  have HI5 : Hid (SpH w3 w5 b br F R (F ++ R) s0 s0) := Lib.hid ⟨HD4.out.kept k5 (by simp), hr, fun q hq => ⟨HF4.out q hq, List.mem_append.2 (.inl hq)⟩, fun q hq => ⟨Nat.le_trans K4.out.size (hR q hq), fun hm => by have h1 := HD4.out.lt q hm; have h2 := hR q hq; omega⟩, K4.out.trans k5 (by simp)⟩
  have HZ0 : Hid (w.heap.size < w3.heap.size) := Lib.hid HB3.out.lt
  clear hr hR k5 hs0
  go_wp2_with fail
  go_loopg [17] l.length (fun gg i wr => ∃ (k : Nat) (F R X : List Nat) (s : DiskS), k + gg = l.length ∧ i = .int .i64 k ∧ SpH w3 wr b br F R X s s ∧ s.ops ≤ 200000 * k ∧ s.marks ≤ k)
  case atStart => exact ⟨0, F, R, F ++ R, s0, by omega, rfl, HI5.out, by have := HS0.out.1; omega, by have := HS0.out.2; omega⟩
  case round =>
    obtain ⟨k, F, R, X, s, hk, rfl, hi, hops, hmks⟩ := hrel
    have HK := Lib.hid hk
    have HI := Lib.hid hi
    have HOM := Lib.hid (And.intro hops hmks)
    clear hk hi hops hmks
    have kwr := K3.out.trans HI.out.k (by simp)
    have KWR := Lib.hid kwr
    by_cases hlt : k < l.length
    · obtain ⟨ab, off, c', Ab, At, cb, ct, ee, hab, d0, d1, d2, d3, d4, d5, hb, ht, hk8, hw8, hs8, hn8⟩ := sp_cells H.out hlt
      simp only [Value.slice.injEq] at ee
      obtain ⟨rfl, _, rfl⟩ := ee
      replace d0 := kwr.cell d0 (by simp)
      replace d1 := kwr.cell d1 (by simp)
      replace d2 := kwr.cell d2 (by simp)
      replace d3 := kwr.cell d3 (by simp)
      replace d4 := kwr.cell d4 (by simp)
      replace d5 := kwr.cell d5 (by simp)
      have hb6 := HL12.out.2 _ (List.getElem_mem hlt)
      have i0 : (0 : Int) ≤ k := by omega
      have i1 : (k : Int) < l.length := by omega
      generalize l[k] = o at *
      obtain ⟨kind, which, seq, bl, n, ts⟩ := o
      dsimp only at d0 d1 d2 d3 d4 d5 hb ht hk8 hw8 hs8 hn8 hb6
      obtain ⟨bq, oq, hsl, hBb, hbq⟩ := Sl.of_at hb
      have HSLW : Hid (∀ W, Kept w W [] → Sl .u8 W (.slice Ab bl.length cb) bq oq bl) := Lib.hid (fun W kW => hsl.kept kW (.inr (by simp)))
      have HBB := Lib.hid hBb
      have HTS : Hid (∀ W Q, Kept w W [] → (∀ q, q ∈ Q → w3.heap.size ≤ q) → TearsAt W Q (.slice At ts.length ct) ts) := Lib.hid (fun W Q kW hQ => TearsAt.of (B := w.heap.size) (ht.kept kW (Nat.le_refl _) (by simp) (fun _ _ h => h.kept kW (Nat.le_refl _) (by simp))) (fun q hq => by have := hQ q hq; have := HZ0.out; omega))
      have HB6 := Lib.hid hb6
      have HSQ := Lib.hid hs8
      have HNB := Lib.hid hn8
      have HWB := Lib.hid hw8
      have HOB : Hid (s.ops ≤ 2400000 ∧ s.marks ≤ 12) := Lib.hid (by have h1 := HOM.out; have h2 := HL12.out.1; have h3 := HK.out; omega)
      generalize hnb : bl.length = nb at *
      generalize hnt : ts.length = nt at *
      obtain ⟨wp, hwp⟩ : ∃ wp, wp = wr.alloc (.cells #[.int .u8 kind, .int .i64 which, .int .u64 seq, .slice Ab nb cb, .int .u8 n, .slice At nt ct] 38) := ⟨_, rfl⟩
      have kp : Kept wr wp [] := by rw [hwp]; exact (Kept.refl wr []).alloc _
      have hbp : Blk wp wr.heap.size 38 [.int .u8 kind, .int .i64 which, .int .u64 seq, .slice Ab nb cb, .int .u8 n, .slice At nt ct] := by rw [hwp]; exact Blk.new _ _ _
      have HIP := Lib.hid (HI.out.kept kp)
      have HKP := Lib.hid kp
      have HBP := Lib.hid hbp
      have HPN : Hid (wr.heap.size ∉ F ∧ wr.heap.size ∉ R) := Lib.hid ⟨fun hm => by have := HI.out.d.lt _ hm; omega, fun hm => by have := HI.out.r.lt _ hm; omega⟩
      have HGN : Hid (w.heap.size ∉ F ∧ w.heap.size ∉ R) := Lib.hid (HI.out.nF HZ0.out)
      have hgp := HB3.out.kept (HI.out.k.trans kp (by simp)) (by simp)
      have HGP := Lib.hid hgp
      have HNBL := Lib.hid hnb
      have HNT := Lib.hid hnt
      clear hb ht hsl hBb hbq hb6 hs8 hn8 hw8 kp hgp hnb hnt hab
      go_upto_region 17 with fail
      rw [← hwp]
      clear hwp d0 d1 d2 d3 d4 d5
      generalize hpp : wr.heap.size = p at *
      have HPP := Lib.hid hpp
      clear hpp
      have a0 := hbp.cell 0 rfl
      clear hbp kwr
      have hkind : kind = 0 ∨ kind = 1 ∨ kind = 2 ∨ kind = 3 ∨ kind = 4 ∨ kind = 5 ∨ kind = 6 ∨ (kind ≠ 0 ∧ kind ≠ 1 ∧ kind ≠ 2 ∧ kind ≠ 3 ∧ kind ≠ 4 ∧ kind ≠ 5 ∧ kind ≠ 6) := by omega
      go_upto_block 2 with fail
      go_cut [19, 20] from 76 to 193 (fun vq uq wx => ∃ (er : Int) (F2 R2 X2 : List Nat) (sn : DiskS), vq = .int .i64 er ∧ uq = .int .i64 er ∧ SpH w3 wx b br F2 R2 X2 sn sn ∧ sn.ops ≤ s.ops + 200000 ∧ sn.marks ≤ s.marks + 1)
      rotate_left
      case rest =>
        obtain ⟨er, F2, R2, X2, sn, rfl, rfl, hS, hso, hsm⟩ := hcut
        have HS := Lib.hid hS
        have HLE := Lib.hid (And.intro hso hsm)
        clear hS hso hsm
        have e4 : wc.drew.cell? ⟨br, 4, none⟩ = some (.int .i64 sn.ops) := HS.out.r.opsc
        have HE := Lib.hid e4
        have HDR := Lib.hid (HS.out.kept (Kept.refl wc []).drew)
        clear e4
        go_wp2_with fail
        have e4 := HE.out
        go_region_held3 (fun W => W.cell? ⟨br, 4, none⟩ = some (.int .i64 sn.ops)) (first | (with_reducible exact e4) | (with_reducible exact e5) | go_keep) (first
          | (go_at_call 23; (with_reducible refine (ops_any _ b F2 sn HDR.out.d).mono ?_); rintro _ wy ⟨_, rfl, rfl, ky⟩; have e5 := ky.cell e4 (by simp); have HEN := Lib.hid (HDR.out.kept ky); clear ky))
        all_goals (
          clear e4 e5
          go_wp2_with fail
          go_roundg (gk - 1)
          case measure => have := HK.out; omega
          case rel => exact ⟨k + 1, F2, R2, X2, sn, by have := HK.out; omega, by go_num, HEN.out, by have h1 := HLE.out.1; have h2 := HOM.out.1; omega, by have h1 := HLE.out.2; have h2 := HOM.out.2; omega⟩)
      rcases hkind with rfl | rfl | rfl | rfl | rfl | rfl | rfl | hkind
      · have kd : Kept wp wp.drew [] := (Kept.refl wp []).drew
        have hgd := HGP.out.kept kd (by simp)
        have hpd := HBP.out.kept kd (by simp)
        have p0 := hgd.cell 0 rfl
        have p1 := hgd.cell 1 rfl
        have p2 := hgd.cell 2 rfl
        have p3 := hpd.cell 1 rfl
        have p4 := hpd.cell 3 rfl
        have P0 := Lib.hid (And.intro p0 (And.intro p1 (And.intro p2 (And.intro p3 (p4)))))
        have HIW := Lib.hid (HIP.out.kept kd)
        have HKW := Lib.hid (HKP.out.trans kd (by simp))
        have KWW := Lib.hid (KWR.out.trans HKW.out (by simp))
        clear kd hgd hpd p0 p1 p2 p3 p4 a0
        have a0 := HBP.out.cell 0 rfl
        have HMB := Lib.hid (And.intro ((dataM_le HIP.out.d.ok.s1 which e f g bl).2) ((dataM_le HIP.out.d.ok.s1 which e f g bl).1))
        go_wp2_with fail
        clear a0
        obtain ⟨p0, p1, p2, p3, p4⟩ := P0.out
        go_region_held3 (fun W => W.cell? ⟨w.heap.size, 0, none⟩ = some (.int .i64 e) ∧ W.cell? ⟨w.heap.size, 1, none⟩ = some (.int .i64 f) ∧ W.cell? ⟨w.heap.size, 2, none⟩ = some (.int .i64 g) ∧ W.cell? ⟨p, 1, none⟩ = some (.int .i64 which) ∧ W.cell? ⟨p, 3, none⟩ = some (.slice Ab nb cb)) (first | (with_reducible exact ⟨p0, p1, p2, p3, p4⟩) | (with_reducible exact ⟨r0, r1, r2, r3, r4⟩) | (with_reducible exact ⟨t0, t1, t2, t3, t4⟩) | go_keep) (first
          | (go_at_call 9
             (refine ((data_st (St.of HIW.out.d) (HG.out.kept KWW.out (by simp)) (by have := HOB.out; omega) which e f g _ bq oq bl (HSLW.out _ KWW.out) HBB.out).mono (fun _ _ h => After.d h)).mono ?_)
             rintro _ wa ⟨rfl, F1, hF1, hd, ka⟩
             have r0 := ka.cell p0 HGN.out.1
             have r1 := ka.cell p1 HGN.out.1
             have r2 := ka.cell p2 HGN.out.1
             have r3 := ka.cell p3 HPN.out.1
             have r4 := ka.cell p4 HPN.out.1
             have HA := Lib.hid (HIW.out.fst ka hF1 hd)
             have HKA := Lib.hid (KWW.out.trans ka (fun q hq => .inr (Nat.le_trans (Nat.le_of_lt HZ0.out) (HIW.out.fx q hq).1)))
             have KA := Lib.hid ka
             clear hF1 hd ka)
          | (go_at_call 10
             (with_reducible refine (rdata_any _ br R (X ++ F1) s HA.out.r (by have := HOB.out; omega) which e f g _ bq oq bl (HSLW.out _ HKA.out) HBB.out (by have := HB6.out; have := HNBL.out; omega)).mono ?_)
             rintro _ wb ⟨_, rfl, ⟨rfl, hd⟩, kb⟩
             have t0 := kb.cell r0 HGN.out.2
             have t1 := kb.cell r1 HGN.out.2
             have t2 := kb.cell r2 HGN.out.2
             have t3 := kb.cell r3 HPN.out.2
             have t4 := kb.cell r4 HPN.out.2
             have HB := Lib.hid (HA.out.snd kb (fun q hq => .inl hq) (fun q hq => hq) hd)
             clear hd kb))
        all_goals (
          clear p0 p1 p2 p3 p4 r0 r1 r2 r3 r4 t0 t1 t2 t3 t4
          generalize dataM s which e f g bl = RM at *
          have HLE : Hid ((RM.1).ops ≤ s.ops + 200000 ∧ (RM.1).marks ≤ s.marks + 1) := Lib.hid ⟨by have h1 := HMB.out.1; have h2 := HNBL.out; have h3 := HB6.out; omega, by have h1 := HMB.out.2; omega⟩
          generalize RM.1 = sn at *
          first | (simp only [Exit.then]; go_step; go_meet) | (go_wp2_with fail; go_meet)
          case rel => exact ⟨_, F1, R, (X ++ F1), sn, rfl, rfl, HB.out, HLE.out.1, HLE.out.2⟩)
      · have kd : Kept wp wp.drew [] := (Kept.refl wp []).drew
        have hgd := HGP.out.kept kd (by simp)
        have hpd := HBP.out.kept kd (by simp)
        have p0 := hgd.cell 0 rfl
        have p1 := hgd.cell 1 rfl
        have p2 := hgd.cell 2 rfl
        have p3 := hpd.cell 1 rfl
        have p4 := hpd.cell 2 rfl
        have p5 := hpd.cell 3 rfl
        have P0 := Lib.hid (And.intro p0 (And.intro p1 (And.intro p2 (And.intro p3 (And.intro p4 (p5))))))
        have HIW := Lib.hid (HIP.out.kept kd)
        have HKW := Lib.hid (HKP.out.trans kd (by simp))
        have KWW := Lib.hid (KWR.out.trans HKW.out (by simp))
        clear kd hgd hpd p0 p1 p2 p3 p4 p5 a0
        have a0 := HBP.out.cell 0 rfl
        have HMB := Lib.hid (And.intro ((sealM_le s which e f g seq bl).2) ((sealM_le s which e f g seq bl).1))
        go_wp2_with fail
        clear a0
        obtain ⟨p0, p1, p2, p3, p4, p5⟩ := P0.out
        go_region_held3 (fun W => W.cell? ⟨w.heap.size, 0, none⟩ = some (.int .i64 e) ∧ W.cell? ⟨w.heap.size, 1, none⟩ = some (.int .i64 f) ∧ W.cell? ⟨w.heap.size, 2, none⟩ = some (.int .i64 g) ∧ W.cell? ⟨p, 1, none⟩ = some (.int .i64 which) ∧ W.cell? ⟨p, 2, none⟩ = some (.int .u64 seq) ∧ W.cell? ⟨p, 3, none⟩ = some (.slice Ab nb cb)) (first | (with_reducible exact ⟨p0, p1, p2, p3, p4, p5⟩) | (with_reducible exact ⟨r0, r1, r2, r3, r4, r5⟩) | (with_reducible exact ⟨t0, t1, t2, t3, t4, t5⟩) | go_keep) (first
          | (go_at_call 11
             (refine ((seal_st (St.of HIW.out.d) (HG.out.kept KWW.out (by simp)) (by have := HOB.out; omega) which e f g seq HSQ.out.1 HSQ.out.2 _ bq oq bl (HSLW.out _ KWW.out) HBB.out).mono (fun _ _ h => After.d h)).mono ?_)
             rintro _ wa ⟨rfl, F1, hF1, hd, ka⟩
             have r0 := ka.cell p0 HGN.out.1
             have r1 := ka.cell p1 HGN.out.1
             have r2 := ka.cell p2 HGN.out.1
             have r3 := ka.cell p3 HPN.out.1
             have r4 := ka.cell p4 HPN.out.1
             have r5 := ka.cell p5 HPN.out.1
             have HA := Lib.hid (HIW.out.fst ka hF1 hd)
             have HKA := Lib.hid (KWW.out.trans ka (fun q hq => .inr (Nat.le_trans (Nat.le_of_lt HZ0.out) (HIW.out.fx q hq).1)))
             have KA := Lib.hid ka
             clear hF1 hd ka)
          | (go_at_call 12
             (with_reducible refine (rseal_any _ br R (X ++ F1) s HA.out.r (by have := HOB.out; omega) which e f g seq HSQ.out.1 HSQ.out.2 _ bq oq bl (HSLW.out _ HKA.out) HBB.out (by have := HB6.out; have := HNBL.out; omega)).mono ?_)
             rintro _ wb ⟨_, rfl, ⟨rfl, hd⟩, kb⟩
             have t0 := kb.cell r0 HGN.out.2
             have t1 := kb.cell r1 HGN.out.2
             have t2 := kb.cell r2 HGN.out.2
             have t3 := kb.cell r3 HPN.out.2
             have t4 := kb.cell r4 HPN.out.2
             have t5 := kb.cell r5 HPN.out.2
             have HB := Lib.hid (HA.out.snd kb (fun q hq => .inl hq) (fun q hq => hq) hd)
             clear hd kb))
        all_goals (
          clear p0 p1 p2 p3 p4 p5 r0 r1 r2 r3 r4 r5 t0 t1 t2 t3 t4 t5
          generalize sealM s which e f g seq bl = RM at *
          have HLE : Hid ((RM.1).ops ≤ s.ops + 200000 ∧ (RM.1).marks ≤ s.marks + 1) := Lib.hid ⟨by have h1 := HMB.out.1; have h2 := HNBL.out; have h3 := HB6.out; omega, by have h1 := HMB.out.2; omega⟩
          generalize RM.1 = sn at *
          first | (simp only [Exit.then]; go_step; go_meet) | (go_wp2_with fail; go_meet)
          case rel => exact ⟨_, F1, R, (X ++ F1), sn, rfl, rfl, HB.out, HLE.out.1, HLE.out.2⟩)
      · have kd : Kept wp wp.drew [] := (Kept.refl wp []).drew
        have hgd := HGP.out.kept kd (by simp)
        have hpd := HBP.out.kept kd (by simp)
        have p0 := hgd.cell 0 rfl
        have p1 := hgd.cell 1 rfl
        have p2 := hgd.cell 2 rfl
        have p3 := hpd.cell 1 rfl
        have P0 := Lib.hid (And.intro p0 (And.intro p1 (And.intro p2 (p3))))
        have HIW := Lib.hid (HIP.out.kept kd)
        have HKW := Lib.hid (HKP.out.trans kd (by simp))
        have KWW := Lib.hid (KWR.out.trans HKW.out (by simp))
        clear kd hgd hpd p0 p1 p2 p3 a0
        have a0 := HBP.out.cell 0 rfl
        have HMB := Lib.hid (And.intro ((wipeM_le s which e f g).2) ((wipeM_le s which e f g).1))
        go_wp2_with fail
        clear a0
        obtain ⟨p0, p1, p2, p3⟩ := P0.out
        go_region_held3 (fun W => W.cell? ⟨w.heap.size, 0, none⟩ = some (.int .i64 e) ∧ W.cell? ⟨w.heap.size, 1, none⟩ = some (.int .i64 f) ∧ W.cell? ⟨w.heap.size, 2, none⟩ = some (.int .i64 g) ∧ W.cell? ⟨p, 1, none⟩ = some (.int .i64 which)) (first | (with_reducible exact ⟨p0, p1, p2, p3⟩) | (with_reducible exact ⟨r0, r1, r2, r3⟩) | (with_reducible exact ⟨t0, t1, t2, t3⟩) | go_keep) (first
          | (go_at_call 13
             (refine ((wipe_st (St.of HIW.out.d) (HG.out.kept KWW.out (by simp)) (fun x hx => by have h1 := HG.out.sz; exact hx.elim (fun h => by have := (HIW.out.fx x h).1; have := HZ0.out; omega) (fun h => by have := KWW.out.size; omega)) (by have := HOB.out; omega) which e f g).mono (fun _ _ h => After.d h)).mono ?_)
             rintro _ wa ⟨rfl, F1, hF1, hd, ka⟩
             have r0 := ka.cell p0 HGN.out.1
             have r1 := ka.cell p1 HGN.out.1
             have r2 := ka.cell p2 HGN.out.1
             have r3 := ka.cell p3 HPN.out.1
             have HA := Lib.hid (HIW.out.fst ka hF1 hd)
             have HKA := Lib.hid (KWW.out.trans ka (fun q hq => .inr (Nat.le_trans (Nat.le_of_lt HZ0.out) (HIW.out.fx q hq).1)))
             have KA := Lib.hid ka
             clear hF1 hd ka)
          | (go_at_call 14
             (with_reducible refine (rwipe_any _ br R (X ++ F1) s HA.out.r (by have := HOB.out; omega) which e f g).mono ?_)
             rintro _ wb ⟨_, rfl, ⟨rfl, hd⟩, kb⟩
             have t0 := kb.cell r0 HGN.out.2
             have t1 := kb.cell r1 HGN.out.2
             have t2 := kb.cell r2 HGN.out.2
             have t3 := kb.cell r3 HPN.out.2
             have HB := Lib.hid (HA.out.snd kb (fun q hq => .inl hq) (fun q hq => hq) hd)
             clear hd kb))
        all_goals (
          clear p0 p1 p2 p3 r0 r1 r2 r3 t0 t1 t2 t3
          generalize wipeM s which e f g = RM at *
          have HLE : Hid ((RM.1).ops ≤ s.ops + 200000 ∧ (RM.1).marks ≤ s.marks + 1) := Lib.hid ⟨by have h1 := HMB.out.1; have h2 := HNBL.out; have h3 := HB6.out; omega, by have h1 := HMB.out.2; omega⟩
          generalize RM.1 = sn at *
          first | (simp only [Exit.then]; go_step; go_meet) | (go_wp2_with fail; go_meet)
          case rel => exact ⟨_, F1, R, (X ++ F1), sn, rfl, rfl, HB.out, HLE.out.1, HLE.out.2⟩)
      · have KWP := Lib.hid (KWR.out.trans HKP.out (by simp))
        have q0 := HGP.out.cell 0 rfl
        have q1 := HGP.out.cell 1 rfl
        have q2 := HGP.out.cell 2 rfl
        have q3 := HBP.out.cell 1 rfl
        have HRDA := Lib.hid (read_both wp (HG.out.kept KWP.out (by simp)) b F s HIP.out.d (fun x hx => by have h1 := (HIP.out.fx x hx).1; have h2 := HG.out.sz; have h3 := HZ0.out; omega) (by have := HOB.out; omega) which e f g HIP.out.d.ok.s2 HFW.out)
        have HMB := Lib.hid (readM_le s which e f g)
        go_wp2_with fail
        refine HRDA.out.mono ?_
        rintro _ wa ⟨_, rfl, ⟨v1, qa, rfl, hsa, hqa, hda⟩, ka⟩
        obtain ⟨A1, c1, rfl⟩ := hsa.form
        generalize hRM : readM s which e f g = RM at *
        have HRMQ := Lib.hid (And.intro hRM trivial)
        clear hRM
        have kaF : Kept wp wa F := ka.mono (fun q hq => .inl (b_lt HIP.out.d q hq))
        have ha := HIP.out.fst kaF (fun q hq => .inl hq) hda
        obtain ⟨wb, hwb⟩ : ∃ wb, wb = wa.alloc (.cells #[.int .i64 RM.2.1.st, .int .i64 RM.2.1.why, .int .u64 RM.2.1.seq, .slice A1 RM.2.1.img.length c1] 46) := ⟨_, rfl⟩
        have kab : Kept wa wb [] := by rw [hwb]; exact (Kept.refl _ _).alloc _
        have hbl : Blk wb wa.heap.size 46 [.int .i64 RM.2.1.st, .int .i64 RM.2.1.why, .int .u64 RM.2.1.seq, .slice A1 RM.2.1.img.length c1] := by rw [hwb]; exact Blk.new _ _ _
        have HHB := Lib.hid (ha.kept kab)
        have hgb := (HGP.out.kept kaF HGN.out.1).kept kab (by simp)
        have hpb := (HBP.out.kept kaF HPN.out.1).kept kab (by simp)
        have HGB := Lib.hid hgb
        have HBL := Lib.hid hbl
        have HSA := Lib.hid (hsa.kept kab (.inr (by simp)))
        have HQA := Lib.hid hqa
        have HGA : Hid (wa.heap.size ∉ R ∧ wa.heap.size ∉ F) := Lib.hid ⟨fun hm => by have := ha.r.lt _ hm; omega, fun hm => by have := ha.d.lt _ hm; omega⟩
        have HRW : Hid (∀ q, q ∈ R → q < wp.heap.size) := Lib.hid HIP.out.r.lt
        clear q0 q1 q2 q3 a0
        have q0 := hgb.cell 0 rfl
        have q1 := hgb.cell 1 rfl
        have q2 := hgb.cell 2 rfl
        have q3 := hpb.cell 1 rfl
        clear hsa hqa hda ka kaF ha kab hbl hgb hpb HRDA
        go_upto_region 26 with fail
        rw [← hwb]
        clear hwb
        generalize wa.heap.size = ga at *
        have HRDB := Lib.hid (rslot_both wb br R (X ++ F) s HHB.out.r (by have := HOB.out; omega) which e f g HHB.out.r.ok.s2 HFW.out)
        rw [HRMQ.out.1] at HRDB
        clear HRMQ
        go_wp2_with fail
        refine HRDB.out.mono ?_
        rintro _ wc ⟨_, rfl, ⟨v2, qc, rfl, hsc, hqc, hdc⟩, kc⟩
        obtain ⟨A2, c2, rfl⟩ := hsc.form
        have kcR : Kept wb wc R := kc.mono (fun q hq => .inl (rb_lt HHB.out.r q hq))
        have hc := HHB.out.snd kcR (fun q hq => .inl hq) (fun q hq => hq) hdc
        have hSA : Sl .u8 wc (.slice A1 RM.2.1.img.length c1) qa 0 RM.2.1.img := HSA.out.kept kcR (HQA.out.imp id (fun h hm => by have := HRW.out _ hm; omega))
        have hBL := HBL.out.kept kcR HGA.out.1
        obtain ⟨wd, hwd⟩ : ∃ wd, wd = wc.alloc (.cells #[.int .i64 RM.2.1.st, .int .i64 RM.2.1.why, .int .u64 RM.2.1.seq, .slice A2 RM.2.1.img.length c2] 46) := ⟨_, rfl⟩
        have hkd : Kept wc wd [] := by rw [hwd]; exact (Kept.refl _ _).alloc _
        have hbd2 : Blk wd wc.heap.size 46 [.int .i64 RM.2.1.st, .int .i64 RM.2.1.why, .int .u64 RM.2.1.seq, .slice A2 RM.2.1.img.length c2] := by rw [hwd]; exact Blk.new _ _ _
        have hbl2 := hBL.kept hkd (by simp)
        have HHD := Lib.hid (hc.kept hkd)
        have HSAD := Lib.hid (hSA.kept hkd (.inr (by simp)))
        have HSCD := Lib.hid (hsc.kept hkd (.inr (by simp)))
        have y0 := hbd2.cell 0 rfl
        have y1 := hbd2.cell 1 rfl
        have y2 := hbd2.cell 2 rfl
        have y3 := hbd2.cell 3 rfl
        have u0 := hbl2.cell 0 rfl
        have u1 := hbl2.cell 1 rfl
        have u2 := hbl2.cell 2 rfl
        have u3 := hbl2.cell 3 rfl
        clear hsc hqc hdc kc kcR hc hSA hBL hkd hbd2 hbl2 q0 q1 q2 q3 HRDB
        go_upto_region 27 with fail
        rw [← hwd]
        clear hwd
        generalize wc.heap.size = gc at *
        obtain ⟨RS, ⟨st, why, sq, img⟩, er⟩ := RM
        go_wp2_with fail
        (with_reducible refine (rslotsame_yes wd st why sq _ _ qa 0 qc 0 img HSAD.out HSCD.out).mono ?_)
        rintro _ we ⟨_, rfl, rfl, ke⟩
        have HB := Lib.hid (HHD.out.kept ke)
        clear ke y0 y1 y2 y3 u0 u1 u2 u3
        have HLE : Hid ((RS).ops ≤ s.ops + 200000 ∧ (RS).marks ≤ s.marks + 1) := Lib.hid ⟨by have h1 := HMB.out.2; have h2 := HNBL.out; have h3 := HB6.out; omega, by have h1 := HMB.out.1; omega⟩
        generalize RS = sn at *
        first | (simp only [Exit.then]; go_step; go_meet) | (go_wp2_with fail; go_meet)
        case rel => exact ⟨_, F, R, (X ++ F), sn, rfl, rfl, HB.out, HLE.out.1, HLE.out.2⟩
      · have HMB : Hid ((s.sync.1).ops ≤ s.ops + 1 ∧ (s.sync.1).marks ≤ s.marks) := Lib.hid ⟨(sync_le s).2, Nat.le_of_eq (sync_le s).1⟩
        go_wp2_with fail
        (with_reducible refine (sync_any _ b F s HIP.out.d (by have := HOB.out; omega)).mono ?_)
        rintro _ wa ⟨_, rfl, ⟨rfl, hda⟩, ka⟩
        have HA := Lib.hid (HIP.out.fst ka (fun q hq => .inl hq) hda)
        have KA := Lib.hid ka
        clear hda ka a0
        go_wp2_with fail
        (with_reducible refine (rsync_any _ br R (X ++ F) s HA.out.r (by have := HOB.out; omega)).mono ?_)
        rintro _ wb ⟨_, rfl, ⟨rfl, hdb⟩, kb⟩
        have HB := Lib.hid (HA.out.snd kb (fun q hq => .inl hq) (fun q hq => hq) hdb)
        clear hdb kb
        have HLE : Hid ((s.sync.1).ops ≤ s.ops + 200000 ∧ (s.sync.1).marks ≤ s.marks + 1) := Lib.hid ⟨by have h1 := HMB.out.1; have h2 := HNBL.out; have h3 := HB6.out; omega, by have h1 := HMB.out.2; omega⟩
        generalize s.sync.1 = sn at *
        first | (simp only [Exit.then]; go_step; go_meet) | (go_wp2_with fail; go_meet)
        case rel => exact ⟨_, F, R, (X ++ F), sn, rfl, rfl, HB.out, HLE.out.1, HLE.out.2⟩
      · have HMB : Hid ((s.crash ts).ops ≤ s.ops + 1 ∧ (s.crash ts).marks ≤ s.marks) := Lib.hid ⟨Nat.le_succ _, Nat.le_refl _⟩
        have q5 := HBP.out.cell 5 rfl
        go_wp2_with fail
        (with_reducible refine (crash_any _ b F s HIP.out.d _ ts (HNT.out ▸ HTS.out _ F (K3.out.trans HIP.out.k (by simp)) (fun q hq => (HIP.out.fx q hq).1))).mono ?_)
        rintro _ wa ⟨_, rfl, ⟨rfl, hda⟩, ka⟩
        have HA := Lib.hid (HIP.out.fst ka (fun q hq => .inl hq) hda)
        have KA := Lib.hid ka
        clear hda ka a0
        have hpa := HBP.out.kept KA.out HPN.out.1
        have a5 := hpa.cell 5 rfl
        have HKA := Lib.hid (K3.out.trans HA.out.k (by simp))
        clear hpa q5
        go_wp2_with fail
        (with_reducible refine (rcrash_any _ br R (X ++ F) s HA.out.r _ ts (HTS.out _ R HKA.out (fun q hq => (HA.out.rf q hq).1))).mono ?_)
        rintro _ wb ⟨_, rfl, ⟨rfl, hdb⟩, kb⟩
        have HB := Lib.hid (HA.out.snd kb (fun q hq => .inl hq) (fun q hq => hq) hdb)
        clear hdb kb a5
        have HLE : Hid ((s.crash ts).ops ≤ s.ops + 200000 ∧ (s.crash ts).marks ≤ s.marks + 1) := Lib.hid ⟨by have h1 := HMB.out.1; have h2 := HNBL.out; have h3 := HB6.out; omega, by have h1 := HMB.out.2; omega⟩
        generalize s.crash ts = sn at *
        first | (simp only [Exit.then]; go_step; go_meet) | (go_wp2_with fail; go_meet)
        case rel => exact ⟨_, F, R, (X ++ F), sn, rfl, rfl, HB.out, HLE.out.1, HLE.out.2⟩
      · have hnw : IntKind.i64.wrap n = n := by rw [IntKind.wrap_i64]; have := HNB.out; omega
        have hw1 : IntKind.i64.wrap ((s.ops : Int) + 1) = (s.ops : Int) + 1 := IntWalk.i64_in _ (by have := HOB.out; omega)
        have hw2 : IntKind.i64.wrap ((s.ops : Int) + 1 + n) = (s.ops : Int) + 1 + n := IntWalk.i64_in _ (by have := HOB.out; have := HNB.out; omega)
        have kd : Kept wp wp.drew [] := (Kept.refl wp []).drew
        have p4 : wp.drew.cell? ⟨p, 4, none⟩ = some (.int .u8 n) := (HBP.out.kept kd (by simp)).cell 4 rfl
        have P4 := Lib.hid p4
        have HIW := Lib.hid (HIP.out.kept kd)
        clear kd p4
        go_wp2_with fail
        clear a0
        have p4 := P4.out
        go_region_held3 (fun W => W.cell? ⟨p, 4, none⟩ = some (.int .u8 n)) (first | (with_reducible exact p4) | (with_reducible exact r4) | (with_reducible exact t4) | go_keep) (first
          | (go_at_call 23; (with_reducible refine (ops_any _ b F s HIW.out.d).mono ?_); rintro _ wa ⟨_, rfl, rfl, ka⟩; have r4 := ka.cell p4 (by simp); have HA := Lib.hid (HIW.out.kept ka); clear ka)
          | (go_at_call 22; (with_reducible refine (fail_any _ b F s HA.out.d (by have := HOB.out; omega) ((s.ops : Int) + 1 + n) (by have := HOB.out; have := HNB.out; omega) (by have := HOB.out; have := HNB.out; omega)).mono ?_); rintro _ wb ⟨_, rfl, ⟨rfl, hd⟩, kb⟩; have t4 := kb.cell r4 HPN.out.1; have HB := Lib.hid (HA.out.fst kb (fun q hq => .inl hq) hd); clear hd kb))
        all_goals (
          have T4 := Lib.hid t4
          clear p4 r4 t4
          obtain ⟨vl, vc, vp, Ls, Cs, PL, hx⟩ := HB.out.r
          have kx : Kept wb ((wb.alloc (.cells #[.int .i64 ((s.ops : Int) + 1 + n)] 3)).drew) [] := ((Kept.refl _ _).alloc _).drew
          have g0 := T4.out
          have x3 := hx.blk.cell 3 rfl
          have x4 := hx.blk.cell 4 rfl
          obtain ⟨A', n', c', w7, w8, hap, hw8, y3, ⟨u3, z3⟩, f3, hfin, hk⟩ := hx.planned (by have := HOB.out; omega) (n := (s.ops : Int) + 1 + n) (by have := HOB.out; have := HNB.out; omega) (by have := HOB.out; have := HNB.out; omega)
          have HAP := Lib.hid hap
          have HW8 := Lib.hid hw8
          have HFIN := Lib.hid hfin
          have HK8 := Lib.hid hk
          have X4 := Lib.hid (kx.cell x3 (by simp))
          have X5 := Lib.hid (kx.cell x4 (by simp))
          have X6 := Lib.hid (kx.cell g0 (by simp))
          have x3d : wb.drew.cell? ⟨br, 3, none⟩ = _ := x3
          have x4d : wb.drew.cell? ⟨br, 4, none⟩ = _ := x4
          have g0d : wb.drew.cell? ⟨p, 4, none⟩ = _ := g0
          have X1 := Lib.hid x3d
          have X2 := Lib.hid x4d
          have X3 := Lib.hid g0d
          clear hx hap hw8 hfin hk kx x3d x4d g0d
          go_wp2_with fail
          have x3d := X1.out
          have x4d := X2.out
          have g0d := X3.out
          have x3a := X4.out
          have x4a := X5.out
          have g0a := X6.out
          go_region_law (first
            | (refine step_append_at 55 55 HAP.out (.tmp 180) (.tmp 190) ?_ ?_ ?_ ?_ ?_ ?_ ?_; rfl; rfl; rfl; rfl; rfl; rfl))
          all_goals (
            rw [HW8.out]
            clear g0a x3a x4a x3d x4d g0d g0 x3 x4 y3 z3 f3
            obtain ⟨R2, X2', hR2, hX2, _, hd2⟩ := HFIN.out
            have HC := Lib.hid (HB.out.snd HK8.out hR2 (fun q hq => hX2 q hq) hd2)
            clear hR2 hX2 hd2
            have HLE : Hid (((s.fail ((s.ops : Int) + 1 + n))).ops ≤ s.ops + 200000 ∧ ((s.fail ((s.ops : Int) + 1 + n))).marks ≤ s.marks + 1) := Lib.hid ⟨by have h1 := (show (s.fail ((s.ops : Int) + 1 + n)).ops ≤ s.ops from Nat.le_refl _); have h2 := HNBL.out; have h3 := HB6.out; omega, by have h1 := (show (s.fail ((s.ops : Int) + 1 + n)).marks ≤ s.marks + 1 from Nat.le_refl _); omega⟩
            generalize (s.fail ((s.ops : Int) + 1 + n)) = sn at *
            first | (simp only [Exit.then]; go_step; go_meet) | (go_wp2_with fail; go_meet)
            case rel => exact ⟨_, F, R2, X2', sn, rfl, rfl, HC.out, HLE.out.1, HLE.out.2⟩))
      · obtain ⟨j0, j1, j2, j3, j4, j5, j6⟩ := hkind
        have u0 : (kind == 0) = false := by simpa using j0
        have u1 : (kind == 1) = false := by simpa using j1
        have u2 : (kind == 2) = false := by simpa using j2
        have u3 : (kind == 3) = false := by simpa using j3
        have u4 : (kind == 4) = false := by simpa using j4
        have u5 : (kind == 5) = false := by simpa using j5
        have u6 : (kind == 6) = false := by simpa using j6
        clear j0 j1 j2 j3 j4 j5 j6
        have HLE : Hid ((s).ops ≤ s.ops + 200000 ∧ (s).marks ≤ s.marks + 1) := Lib.hid ⟨by have h1 := Nat.le_refl s.ops; have h2 := HNBL.out; have h3 := HB6.out; omega, by have h1 := Nat.le_refl s.marks; omega⟩
        first | (simp only [Exit.then]; go_step; go_meet) | (go_wp2_with fail; go_meet)
        case rel => exact ⟨_, F, R, X, s, rfl, rfl, HIP.out, HLE.out.1, HLE.out.2⟩
    · have hkn : k = l.length := by have := HK.out; omega
      clear hlt
      subst hkn
      clear kwr
      go_wp2_with fail
      (with_reducible refine (bytes_any _ b F s HI.out.d).mono ?_)
      rintro _ wa ⟨va, rfl, hva, ka⟩
      have PA := Lib.hid (HI.out.kept ka)
      have HVA := Lib.hid hva
      clear hva ka
      go_wp2_with fail
      (with_reducible refine (rbytes_any _ br R X s PA.out.r).mono ?_)
      rintro _ wb ⟨vb, rfl, hvb, kb⟩
      obtain ⟨ba, hsa, _⟩ := (HVA.out.kept kb (by simp [Apart])).sl
      obtain ⟨bb, hsb, _⟩ := hvb.sl
      have HSA := Lib.hid hsa
      have HSB := Lib.hid hsb
      have PB := Lib.hid (PA.out.kept kb)
      clear hvb kb hsa hsb
      go_wp2_with fail
      (with_reducible refine (same_any _ _ _ ba 0 bb 0 _ _ HSA.out HSB.out).mono ?_)
      rintro _ wc ⟨_, rfl, rfl, kc⟩
      have PC := Lib.hid (PB.out.kept kc)
      clear kc
      rw [decide_eq_true rfl]
      go_wp2_with fail
      (with_reducible refine (unsynced_any _ b F s PC.out.d).mono ?_)
      rintro _ wd ⟨vd, rfl, hvd, kd⟩
      have PD := Lib.hid (PC.out.kept kd)
      have HVD := Lib.hid hvd
      clear hvd kd
      go_wp2_with fail
      (with_reducible refine (runsynced_any _ br R X s PD.out.r).mono ?_)
      rintro _ we ⟨ve, rfl, hve, ke⟩
      obtain ⟨bd2, hsd, _⟩ := (HVD.out.kept ke (by simp [Apart])).sl
      obtain ⟨be, hse, _⟩ := hve.sl
      have HSD := Lib.hid hsd
      have HSE := Lib.hid hse
      have PE := Lib.hid (PD.out.kept ke)
      clear hve ke hsd hse
      go_wp2_with fail
      (with_reducible refine (ints_any _ _ _ bd2 0 be 0 _ _ HSD.out HSE.out).mono ?_)
      rintro _ wf ⟨_, rfl, rfl, kf⟩
      have PF := Lib.hid (PE.out.kept kf)
      clear kf
      rw [decide_eq_true rfl]
      go_wp2_with fail
      go_ret
      exact ⟨rfl, (K3.out.trans PF.out.k (by simp)).below _ (Nat.le_refl _) (by simp)⟩
end Go.Proofs.YtlojgelidcjeaaaGreatDoor
