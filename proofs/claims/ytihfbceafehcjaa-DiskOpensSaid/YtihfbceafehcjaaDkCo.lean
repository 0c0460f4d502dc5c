/- PROVED: the walk of DiskCounts. No conditions beyond those that each theorem states. -/
import Derived.Test.YtihfbceafehcjaaDkN
namespace Go.Proofs.YtihfbceafehcjaaLib
theorem DiskS.write_ops (s : DiskS) (i : Int) (b : List Int) : (s.write i b).1.ops = s.ops + 1 := by
  unfold DiskS.write
  split
  · rfl
  split
  · rfl
  split
  · rfl
  split <;> rfl
theorem DiskS.sync_ops (s : DiskS) : s.sync.1.ops = s.ops + 1 ∧ s.sync.1.writes = s.writes := by
  unfold DiskS.sync
  split <;> exact ⟨rfl, rfl⟩
theorem DiskS.write_writes (s : DiskS) (i : Int) (b : List Int) : (s.write i b).1.writes = if (s.write i b).2 = 0 then s.writes + 1 else s.writes := by
  by_cases h1 : s.fails = true
  · have e : s.write i b = (s.tick, 3) := by unfold DiskS.write; rw [if_pos h1]
    rw [e]; rfl
  by_cases h2 : i < 0
  · have e : s.write i b = (s.tick, 2) := by unfold DiskS.write; rw [if_neg h1, if_pos h2]
    rw [e]; rfl
  by_cases h3 : (s.last.length : Int) ≤ i
  · have e : s.write i b = (s.tick, 4) := by unfold DiskS.write; rw [if_neg h1, if_neg h2, if_pos h3]
    rw [e]; rfl
  by_cases h4 : b.length ≠ s.size
  · have e : s.write i b = (s.tick, 1) := by unfold DiskS.write; rw [if_neg h1, if_neg h2, if_neg h3, if_pos h4]
    rw [e]; rfl
  · have e : s.write i b = ({ s.tick with cach := s.cach.set i.toNat (some b), writes := s.writes + 1 }, 0) := by unfold DiskS.write; rw [if_neg h1, if_neg h2, if_neg h3, if_neg h4]
    rw [e]; rfl
theorem DiskS.step_kind (s : DiskS) (o : DkOp) : (o.kind = 0 ∧ s.step o = ((s.write o.i o.b).1, ([], (s.write o.i o.b).2))) ∨ (o.kind = 1 ∧ s.step o = (s.tick, s.read o.i)) ∨ (o.kind = 2 ∧ s.step o = (s.sync.1, ([], s.sync.2))) ∨
    (o.kind = 3 ∧ s.step o = (s.crash o.t, ([], 0))) ∨ (o.kind = 4 ∧ 0 < o.i ∧ o.i < 1000 ∧ s.step o = (s.fail (s.ops + o.i), ([], 0))) ∨ (o.kind ≠ 0 ∧ o.kind ≠ 1 ∧ o.kind ≠ 2 ∧ o.kind ≠ 3 ∧ s.step o = (s, ([], 0))) := by
  by_cases q0 : o.kind = 0
  · exact .inl ⟨q0, by unfold DiskS.step; rw [if_pos q0]⟩
  by_cases q1 : o.kind = 1
  · exact .inr (.inl ⟨q1, by unfold DiskS.step; rw [if_neg q0, if_pos q1]⟩)
  by_cases q2 : o.kind = 2
  · exact .inr (.inr (.inl ⟨q2, by unfold DiskS.step; rw [if_neg q0, if_neg q1, if_pos q2]⟩))
  by_cases q3 : o.kind = 3
  · exact .inr (.inr (.inr (.inl ⟨q3, by unfold DiskS.step; rw [if_neg q0, if_neg q1, if_neg q2, if_pos q3]⟩)))
  by_cases q4 : o.kind = 4
  · by_cases q5 : 0 < o.i ∧ o.i < 1000
    · exact .inr (.inr (.inr (.inr (.inl ⟨q4, q5.1, q5.2, by unfold DiskS.step; rw [if_neg q0, if_neg q1, if_neg q2, if_neg q3, if_pos q4, if_pos q5]⟩))))
    · exact .inr (.inr (.inr (.inr (.inr ⟨q0, q1, q2, q3, by unfold DiskS.step; rw [if_neg q0, if_neg q1, if_neg q2, if_neg q3, if_pos q4, if_neg q5]⟩))))
  · exact .inr (.inr (.inr (.inr (.inr ⟨q0, q1, q2, q3, by unfold DiskS.step; rw [if_neg q0, if_neg q1, if_neg q2, if_neg q3, if_neg q4]⟩))))
theorem DiskS.step_ops (s : DiskS) (o : DkOp) (h0 : 0 ≤ o.kind) : (s.step o).1.ops = if o.kind ≤ 2 then s.ops + 1 else s.ops := by
  rcases s.step_kind o with ⟨q, e⟩ | ⟨q, e⟩ | ⟨q, e⟩ | ⟨q, e⟩ | ⟨q, _, _, e⟩ | ⟨q0, q1, q2, q3, e⟩ <;> rw [e]
  · rw [if_pos (by omega)]; exact s.write_ops _ _
  · rw [if_pos (by omega)]; rfl
  · rw [if_pos (by omega)]; exact s.sync_ops.1
  · rw [if_neg (by omega)]; rfl
  · rw [if_neg (by omega)]; rfl
  · rw [if_neg (by omega)]
theorem DiskS.step_writes (s : DiskS) (o : DkOp) : (s.step o).1.writes = if o.kind = 0 ∧ (s.step o).2.2 = 0 then s.writes + 1 else s.writes := by
  rcases s.step_kind o with ⟨q, e⟩ | ⟨q, e⟩ | ⟨q, e⟩ | ⟨q, e⟩ | ⟨q, _, _, e⟩ | ⟨q0, q1, q2, q3, e⟩ <;> rw [e]
  · rw [s.write_writes]
    by_cases h : (s.write o.i o.b).2 = 0
    · rw [if_pos h, if_pos ⟨q, h⟩]
    · rw [if_neg h, if_neg (fun e => h e.2)]
  · rw [if_neg (fun e => by omega)]; rfl
  · rw [if_neg (fun e => by omega)]; exact s.sync_ops.2
  · rw [if_neg (fun e => by omega)]; rfl
  · rw [if_neg (fun e => by omega)]; rfl
  · rw [if_neg (fun e => q0 e.1)]
end Go.Proofs.YtihfbceafehcjaaLib
namespace Go.Proofs.Ytihfbceafehcjaa
open Go.RowKit Go.Proofs.YtihfbceafehcjaaLib Go.WideElems Go.Maps
set_option linter.unusedSimpArgs false
set_option linter.unusedVariables false

set_option maxRecDepth 100000 in
set_option maxHeartbeats 8000000 in
theorem DiskCounts_walk (w : World) (v : Value) (l : List DkOp) (h : SliceAt (OpK w.heap.size) 4 w w.heap.size v l) :
    Calls Try.prog 7 #[v] w (fun e W => e = .returned (.bool true) ∧ Below w.heap.size w W) := by
  obtain ⟨A, c, rfl, hc1, hc2⟩ := SliceAt.form h
  have H := Lib.hid h
  unfold maxLen at hc2
  have l0 : (0 : Int) ≤ l.length := by omega
  have l1 : (l.length : Int) ≤ 9223372036854775807 := by omega
  clear h hc2
  go_enter Try.func7, Try.ntmps7
  go_wp2_with fail
  refine (awake_any _).mono ?_
  rintro _ w1 ⟨_, rfl, rfl, k1⟩
  have K1 := Lib.hid k1
  have H1 := Lib.hid (H.out.kept k1 (Nat.le_refl _) (by simp) (fun cs x h => h.kept k1 (Nat.le_refl _) (by simp)))
  clear k1
  go_wp2_with fail
  refine (few_any _ _ _ _ l H1.out).mono ?_
  rintro _ w2 ⟨_, rfl, ⟨x, rfl, hx⟩, k2⟩
  have K2 := Lib.hid (K1.out.trans k2 (by simp))
  clear k2
  cases x with
  | false =>
    clear hx
    go_wp2_with fail
    go_ret
    exact ⟨rfl, K2.out.below _ (Nat.le_refl _) (by simp)⟩
  | true =>
  have HX := Lib.hid (hx rfl)
  clear hx
  go_wp2_with fail
  refine (new_yes w2 8 4 ⟨by decide, by decide, by decide, by decide⟩).mono ?_
  rintro _ w3 ⟨_, rfl, ⟨b, F0, rfl, hd, hF0⟩, k3⟩
  have HD := Lib.hid hd
  have HF0 : Hid (∀ g, g ∈ F0 → w.heap.size ≤ g) := Lib.hid (fun g hg => Nat.le_trans K2.out.size (hF0 g hg))
  have K3 := Lib.hid (K2.out.trans k3 (by simp))
  clear hd hF0 k3
  go_wp2_with fail
  go_loopg [7, 8, 9] l.length (fun g no nw i wr => ∃ (k : Nat) (F : List Nat), k + g = l.length ∧ i = .int .i64 k ∧ no = .int .i64 ((DiskS.new 8 4).run (l.take k)).ops ∧ nw = .int .i64 ((DiskS.new 8 4).run (l.take k)).writes ∧ DiskAt wr b F ((DiskS.new 8 4).run (l.take k)) ∧ (∀ g, g ∈ F → w.heap.size ≤ g) ∧ Kept w wr [])
  case atStart => exact ⟨0, F0, by omega, rfl, rfl, rfl, HD.out, HF0.out, K3.out⟩
  case round =>
    obtain ⟨k, F, hk, rfl, rfl, rfl, hd, hF, hkept⟩ := hrel
    have HK := Lib.hid hk
    have HKE := Lib.hid hkept
    have HD2 := Lib.hid hd
    have HF2 := Lib.hid hF
    clear hk hkept hd hF
    by_cases hlt : k < l.length
    · have hS := H.out.kept HKE.out (Nat.le_refl _) (by simp) (fun cs x h => h.kept HKE.out (Nat.le_refl _) (by simp))
      obtain ⟨ab, off, c', Ab, At, cb, ct, e, d0, d1, d2, d3, hb, ht, hi, hkd, _⟩ := ops_cells hS hlt
      simp only [Value.slice.injEq] at e
      obtain ⟨rfl, _, rfl⟩ := e
      have hab : ab < w.heap.size := by
        obtain ⟨A', c2, e, _, _, h3⟩ := H.out
        rcases h3 with rfl | ⟨b2, o2, rfl, hb2, _⟩
        · simp at hlt
        · simp at e; omega
      have hop := OpAt.of (F := F) (fun g hg => HF2.out g hg) hb ht hi
      have HOP := Lib.hid hop
      have hrt := DiskS.run_take (DiskS.new 8 4) l k hlt
      have HRT := Lib.hid hrt
      have hle := DiskS.run_le (DiskS.new 8 4) (l.take k)
      rw [List.length_take] at hle
      have hle1 : ((DiskS.new 8 4).run (l.take k)).ops < 1000 := by
        have h1 := hle.1
        have h2 : (DiskS.new 8 4).ops = 0 := rfl
        have := HX.out
        omega
      have hle2 : ((DiskS.new 8 4).run (l.take k)).marks < 1000000000 := by
        have h1 := hle.2
        have h2 : (DiskS.new 8 4).marks = 0 := rfl
        have := HX.out
        omega
      have hle3 := HD2.out.ok.wr
      have k0 : (0 : Int) ≤ k := by omega
      have k1 : (k : Int) < l.length := by omega
      have hso := DiskS.step_ops ((DiskS.new 8 4).run (l.take k)) l[k] hkd
      have hsw := DiskS.step_writes ((DiskS.new 8 4).run (l.take k)) l[k]
      generalize l[k] = o at *
      generalize (DiskS.new 8 4).run (l.take k) = s at *
      have s0 : (0 : Int) ≤ s.ops := by omega
      have s1 : (s.ops : Int) < 1000 := by omega
      have s2 : (0 : Int) ≤ s.writes := by omega
      have s3 : (s.writes : Int) < 1000 := by omega
      have HSO := Lib.hid hso
      have HSW := Lib.hid hsw
      have HKD := Lib.hid hkd
      clear hS hb ht hi hop hrt hle hso hsw hkd
      go_wp2_with fail
      refine (do_any _ b F s HD2.out (by omega) hle2 _ o HOP.out).mono ?_
      rintro _ w4 ⟨_, rfl, ⟨rv, rfl, _, F3, hF3, hd3⟩, k4⟩
      have d0' := k4.cell d0 (fun hm => by have := HF2.out _ hm; omega)
      have hk4 := HKE.out.trans k4 (fun g hg => .inr (HF2.out g hg))
      have HK4 := Lib.hid hk4
      have HF3 : Hid (∀ g, g ∈ F3 → w.heap.size ≤ g) := Lib.hid (fun g hg => (hF3 g hg).elim (HF2.out g) (fun h => Nat.le_trans HKE.out.size h))
      have HD3 := Lib.hid hd3
      clear hd3 hF3 k4 hk4 d0 d1 d2 d3
      obtain ⟨s', hs'⟩ : ∃ s', s' = (s.step o).1 := ⟨_, rfl⟩
      obtain ⟨er, her⟩ : ∃ er, er = (s.step o).2.2 := ⟨_, rfl⟩
      rw [← her]
      have hso := HSO.out
      have hsw := HSW.out
      rw [← hs'] at hso hsw HRT HD3
      rw [← her] at hsw
      clear HSO HSW hs' her HOP
      by_cases q2 : o.kind ≤ 2
      · have q2' : decide (o.kind ≤ 2) = true := by simp [q2]
        rw [if_pos q2] at hso
        by_cases q0 : o.kind = 0
        · have q0' : (o.kind == 0) = true := by simp [q0]
          by_cases qe : er = 0
          · have qe' : (er == 0) = true := by simp [qe]
            rw [if_pos ⟨q0, qe⟩] at hsw
            clear q0 q2 qe
            have t8 : ((s'.ops : Int) != (s.ops : Int) + 1) = false := by simp; omega
            have t9 : ((s'.writes : Int) != (s.writes : Int) + 1) = false := by simp; omega
            have HSO := Lib.hid hso
            have HSW := Lib.hid hsw
            clear hso hsw
            go_wp2_with fail
            refine (ops_any _ b F3 s' HD3.out).mono ?_
            rintro _ w5 ⟨_, rfl, rfl, k5⟩
            have HD5 := Lib.hid (HD3.out.kept k5 (by simp))
            have HK5 := Lib.hid (HK4.out.trans k5 (by simp))
            clear k5
            go_wp2_with fail
            refine (writes_any _ b F3 s' HD5.out).mono ?_
            rintro _ w6 ⟨_, rfl, rfl, k6⟩
            have HD6 := Lib.hid (HD5.out.kept k6 (by simp))
            have HK6 := Lib.hid (HK5.out.trans k6 (by simp))
            clear k6
            go_wp2_with fail
            go_roundg (gk - 1)
            case measure => have := HK.out; omega
            case rel => exact ⟨k + 1, F3, by have := HK.out; omega, by go_num, by rw [HRT.out, HSO.out] <;> go_num, by rw [HRT.out, HSW.out] <;> go_num, by rw [HRT.out]; exact HD6.out, HF3.out, HK6.out⟩
          · have qe' : (er == 0) = false := by simp [qe]
            rw [if_neg (fun e => qe e.2)] at hsw
            clear q0 q2 qe
            have t8 : ((s'.ops : Int) != (s.ops : Int) + 1) = false := by simp; omega
            have t9 : ((s'.writes : Int) != (s.writes : Int)) = false := by simp; omega
            have HSO := Lib.hid hso
            have HSW := Lib.hid hsw
            clear hso hsw
            go_wp2_with fail
            refine (ops_any _ b F3 s' HD3.out).mono ?_
            rintro _ w5 ⟨_, rfl, rfl, k5⟩
            have HD5 := Lib.hid (HD3.out.kept k5 (by simp))
            have HK5 := Lib.hid (HK4.out.trans k5 (by simp))
            clear k5
            go_wp2_with fail
            refine (writes_any _ b F3 s' HD5.out).mono ?_
            rintro _ w6 ⟨_, rfl, rfl, k6⟩
            have HD6 := Lib.hid (HD5.out.kept k6 (by simp))
            have HK6 := Lib.hid (HK5.out.trans k6 (by simp))
            clear k6
            go_wp2_with fail
            go_roundg (gk - 1)
            case measure => have := HK.out; omega
            case rel => exact ⟨k + 1, F3, by have := HK.out; omega, by go_num, by rw [HRT.out, HSO.out] <;> go_num, by rw [HRT.out, HSW.out] <;> go_num, by rw [HRT.out]; exact HD6.out, HF3.out, HK6.out⟩
        · have q0' : (o.kind == 0) = false := by simp [q0]
          rw [if_neg (fun e => q0 e.1)] at hsw
          clear q0 q2
          have t8 : ((s'.ops : Int) != (s.ops : Int) + 1) = false := by simp; omega
          have t9 : ((s'.writes : Int) != (s.writes : Int)) = false := by simp; omega
          have HSO := Lib.hid hso
          have HSW := Lib.hid hsw
          clear hso hsw
          go_wp2_with fail
          refine (ops_any _ b F3 s' HD3.out).mono ?_
          rintro _ w5 ⟨_, rfl, rfl, k5⟩
          have HD5 := Lib.hid (HD3.out.kept k5 (by simp))
          have HK5 := Lib.hid (HK4.out.trans k5 (by simp))
          clear k5
          go_wp2_with fail
          refine (writes_any _ b F3 s' HD5.out).mono ?_
          rintro _ w6 ⟨_, rfl, rfl, k6⟩
          have HD6 := Lib.hid (HD5.out.kept k6 (by simp))
          have HK6 := Lib.hid (HK5.out.trans k6 (by simp))
          clear k6
          go_wp2_with fail
          go_roundg (gk - 1)
          case measure => have := HK.out; omega
          case rel => exact ⟨k + 1, F3, by have := HK.out; omega, by go_num, by rw [HRT.out, HSO.out] <;> go_num, by rw [HRT.out, HSW.out] <;> go_num, by rw [HRT.out]; exact HD6.out, HF3.out, HK6.out⟩
      · have q2' : decide (o.kind ≤ 2) = false := by simp; omega
        have q0' : (o.kind == 0) = false := by simp; omega
        rw [if_neg q2] at hso
        rw [if_neg (fun e => by omega)] at hsw
        clear q2
        have t8 : ((s'.ops : Int) != (s.ops : Int)) = false := by simp; omega
        have t9 : ((s'.writes : Int) != (s.writes : Int)) = false := by simp; omega
        have HSO := Lib.hid hso
        have HSW := Lib.hid hsw
        clear hso hsw
        go_wp2_with fail
        refine (ops_any _ b F3 s' HD3.out).mono ?_
        rintro _ w5 ⟨_, rfl, rfl, k5⟩
        have HD5 := Lib.hid (HD3.out.kept k5 (by simp))
        have HK5 := Lib.hid (HK4.out.trans k5 (by simp))
        clear k5
        go_wp2_with fail
        refine (writes_any _ b F3 s' HD5.out).mono ?_
        rintro _ w6 ⟨_, rfl, rfl, k6⟩
        have HD6 := Lib.hid (HD5.out.kept k6 (by simp))
        have HK6 := Lib.hid (HK5.out.trans k6 (by simp))
        clear k6
        go_wp2_with fail
        go_roundg (gk - 1)
        case measure => have := HK.out; omega
        case rel => exact ⟨k + 1, F3, by have := HK.out; omega, by go_num, by rw [HRT.out, HSO.out] <;> go_num, by rw [HRT.out, HSW.out] <;> go_num, by rw [HRT.out]; exact HD6.out, HF3.out, HK6.out⟩
    · have hkn : k = l.length := by have := HK.out; omega
      clear hlt
      subst hkn
      go_wp2_with fail
      go_ret
      exact ⟨rfl, HKE.out.below _ (Nat.le_refl _) (by simp)⟩
end Go.Proofs.Ytihfbceafehcjaa
