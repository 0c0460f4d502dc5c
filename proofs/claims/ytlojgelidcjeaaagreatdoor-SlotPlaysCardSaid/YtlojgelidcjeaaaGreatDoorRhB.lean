/- PROVED: the document's head: Number, can; the document's head: Decode. No conditions beyond those that each theorem states. -/
import Derived.Test.YtlojgelidcjeaaaGreatDoorSlD
import Derived.Test.YtlojgelidcjeaaaGreatDoorCrT
import Derived.Deep.RegionHeld3
namespace Go.Proofs.YtlojgelidcjeaaaGreatDoor
open Go.RowKit Go.Proofs.YtlojgelidcjeaaaGreatDoorLib
set_option linter.unusedSimpArgs false
set_option linter.unusedVariables false

set_option maxRecDepth 100000 in
set_option maxHeartbeats 2000000 in
theorem rnum_q (w : World) (v : Value) (b off : Nat) (l : List Int) (h : Sl .u8 w v b off l) (hB : Bts l) (hl : l.length ≤ 8) :
    Calls Tryz.prog 88 #[v] w (fun e W => e = .returned (.int .u64 (takeM l)) ∧ w = W) := by
  obtain ⟨A1, c1, e1⟩ := h.form
  subst e1
  have H1 := Lib.hid h
  have HB := Lib.hid hB
  clear h hB
  have l0 : (0 : Int) ≤ l.length := by omega
  have l1 : (l.length : Int) ≤ 8 := by omega
  go_enter Tryz.func88, Tryz.ntmps88
  go_wp2_with fail
  go_loopg [3, 4] l.length (fun g i j wr => g ≤ l.length ∧ j = .int .i64 ((g : Int) - 1) ∧ i = .int .u64 (takeM (l.drop g)) ∧ w = wr)
  case atStart => exact ⟨Nat.le_refl _, rfl, by rw [List.drop_length]; rfl, rfl⟩
  case round =>
    obtain ⟨hk, rfl, rfl, rfl⟩ := hrel
    have HK := Lib.hid hk
    clear hk
    by_cases hz : gk = 0
    · subst hz
      have t1 : decide ((0 : Int) ≤ -1) = false := by decide
      have hd : l.drop 0 = l := rfl
      rw [hd]
      clear hd
      go_wp2_with fail
      go_ret
      exact ⟨rfl, rfl⟩
    · obtain ⟨k, rfl⟩ : ∃ k, gk = k + 1 := ⟨gk - 1, by omega⟩
      have hlt : k < l.length := by have := HK.out; omega
      have hx := List.getElem?_eq_getElem hlt
      generalize l[k] = x at hx
      have g1 := H1.out.at (by intro e; rw [e] at hlt; simp at hlt)
      obtain ⟨c1', g1⟩ := g1
      simp only [Value.slice.injEq] at g1
      obtain ⟨rfl, _, rfl⟩ := g1
      have d1 := H1.out.cell hx
      have k0 : (0 : Int) ≤ k := by omega
      have k1 : (k : Int) < l.length := by omega
      have hxb := HB.out.get hx
      have hx0 := hxb.1
      have hx1 := hxb.2
      have HT := takeM_drop l k x hx
      have hbd := takeM_bd (l.drop (k + 1)) (HB.out.drop _)
      have hle : takeM (l.drop (k + 1)) < 72057594037927936 := by
        have h1 := hbd.2
        have h2 : (l.drop (k + 1)).length ≤ 7 := by rw [List.length_drop]; omega
        have h3 : (256 : Int) ^ (l.drop (k + 1)).length ≤ 256 ^ 7 := pow256_le h2
        have h4 : (256 : Int) ^ 7 = 72057594037927936 := by decide
        omega
      have hge := hbd.1
      have HO := Lib.hid (And.intro (show 256 * takeM (l.drop (k + 1)) + x = takeM (l.drop k) by rw [HT]; omega) trivial)
      generalize takeM (l.drop (k + 1)) = c at *
      have hxw : IntKind.u64.wrap x = x := by rw [IntKind.wrap_u64]; omega
      have hcw : IntKind.u64.wrap (256 * c) = 256 * c := by rw [IntKind.wrap_u64]; omega
      have hsw : IntKind.u64.wrap (256 * c + x) = 256 * c + x := by rw [IntKind.wrap_u64]; omega
      have e0 : (((k + 1 : Nat)) : Int) - 1 = k := by omega
      have hdd : decide ((0 : Int) ≤ k) = true := by simp
      rw [e0]
      clear hxb hx HT hbd hz
      go_wp2_with fail
      go_roundg k
      case measure => omega
      case rel => exact ⟨by have := HK.out; omega, by go_num, by first | rw [← HO.out.1] | (rw [← HO.out.1]; rfl), rfl⟩
set_option maxRecDepth 100000 in
set_option maxHeartbeats 4000000 in
theorem rhcan_any (w : World) (e f s len seq sum : Int) :
    Calls Tryz.prog 80 #[headV e f s len seq sum] w (Post w [] fun v W => v = .bool (gRight e f s && decide (len = gTotal e f s))) := by
  have hb0 := Blk.new w 83 [.int .i64 e, .int .i64 f, .int .i64 s, .int .i64 len, .int .u64 seq, .int .u32 sum]
  have kz : Kept w (w.alloc (.cells #[.int .i64 e, .int .i64 f, .int .i64 s, .int .i64 len, .int .u64 seq, .int .u32 sum] 83)) [] := ((Kept.refl w []).alloc _)
  have HB := Lib.hid hb0
  have KZ := Lib.hid kz
  have HT := Lib.hid (fun w' => rtotal_any w' e f s)
  have q0 := hb0.cell 0 rfl
  have q1 := hb0.cell 1 rfl
  have q2 := hb0.cell 2 rfl
  clear hb0 kz
  go_enter Tryz.func80, Tryz.ntmps80
  go_wp2_with fail
  (with_reducible refine (rright_any _ e f s).mono ?_)
  rintro _ w1 ⟨_, rfl, rfl, k1⟩
  have hb1 := HB.out.kept k1 (by simp)
  have K1 := Lib.hid (KZ.out.trans k1 (by simp))
  have p0 : w1.drew.cell? ⟨w.heap.size, 0, none⟩ = some (.int .i64 e) := hb1.cell 0 rfl
  have p1 : w1.drew.cell? ⟨w.heap.size, 1, none⟩ = some (.int .i64 f) := hb1.cell 1 rfl
  have p2 : w1.drew.cell? ⟨w.heap.size, 2, none⟩ = some (.int .i64 s) := hb1.cell 2 rfl
  have p3 : w1.drew.cell? ⟨w.heap.size, 3, none⟩ = some (.int .i64 len) := hb1.cell 3 rfl
  clear q0 q1 q2 k1 hb1
  cases hr : gRight e f s
  · have HRR := Lib.hid hr
    clear hr
    go_wp2_with fail
    first | (go_region_with fail) | go_region
    all_goals (
      go_wp2_with fail
      go_ret
      exact ⟨_, rfl, by show Value.bool _ = Value.bool _; rw [HRR.out]; rfl, K1.out.drew⟩)
  · obtain ⟨T, hT⟩ : ∃ T, gTotal e f s = T := ⟨_, rfl⟩
    rw [hT] at HT
    have HRR := Lib.hid hr
    have HTT := Lib.hid hT
    clear hT hr
    go_wp2_with fail
    go_region_held3 (fun W => W.cell? ⟨w.heap.size, 0, none⟩ = some (.int .i64 e) ∧ W.cell? ⟨w.heap.size, 1, none⟩ = some (.int .i64 f) ∧ W.cell? ⟨w.heap.size, 2, none⟩ = some (.int .i64 s) ∧ W.cell? ⟨w.heap.size, 3, none⟩ = some (.int .i64 len)) (first | (with_reducible exact ⟨p0, p1, p2, p3⟩) | (with_reducible exact ⟨r0, r1, r2, r3⟩) | go_keep) (first
      | (go_at_call 33
         refine (HT.out _).mono ?_
         rintro _ w3 ⟨_, rfl, rfl, k3⟩
         have r0 := k3.cell p0 (by simp)
         have r1 := k3.cell p1 (by simp)
         have r2 := k3.cell p2 (by simp)
         have r3 := k3.cell p3 (by simp)
         have K3 := Lib.hid k3
         clear k3))
    all_goals (
      go_wp2_with fail
      go_ret
      exact ⟨_, rfl, by show Value.bool _ = Value.bool _; rw [HRR.out, HTT.out]; simp [beq_comm_int], K1.out.drew.trans K3.out (by simp)⟩)
end Go.Proofs.YtlojgelidcjeaaaGreatDoor
namespace Go.Proofs.YtlojgelidcjeaaaGreatDoor
open Go.RowKit Go.Proofs.YtlojgelidcjeaaaGreatDoorLib
set_option linter.unusedSimpArgs false
set_option linter.unusedVariables false

abbrev headC (e f s len seq sum : Int) : List Value := [.int .i64 e, .int .i64 f, .int .i64 s, .int .i64 len, .int .u64 seq, .int .u32 sum]
theorem blk3 {W : World} {g : Nat} {a0 a1 a2 a3 a4 a5 : Value} (h : Blk W g 83 [a0, a1, a2, a3, a4, a5]) (e f s : Int) :
    Blk (((W.setCell ⟨g, 0, none⟩ (.int .i64 e)).setCell ⟨g, 1, none⟩ (.int .i64 f)).setCell ⟨g, 2, none⟩ (.int .i64 s)) g 83 [.int .i64 e, .int .i64 f, .int .i64 s, a3, a4, a5] := by
  have hz := ((h.set 0 (.int .i64 e)).set 1 (.int .i64 f)).set 2 (.int .i64 s)
  simp only [List.set] at hz
  exact hz
theorem kept3 {w W : World} {S : List Nat} (h : Kept w W S) {g : Nat} (hg : g ∈ S ∨ w.heap.size ≤ g) (e f s : Int) :
    Kept w (((W.setCell ⟨g, 0, none⟩ (.int .i64 e)).setCell ⟨g, 1, none⟩ (.int .i64 f)).setCell ⟨g, 2, none⟩ (.int .i64 s)) S :=
  (((h.setCell (p := ⟨g, 0, none⟩) hg _).setCell (p := ⟨g, 1, none⟩) hg _).setCell (p := ⟨g, 2, none⟩) hg _)
theorem blkset {W : World} {g T : Nat} {L : List Value} (h : Blk W g T L) (i : Nat) (u : Value) {L' : List Value} (hL : L.set i u = L') : Blk (W.setCell ⟨g, i, none⟩ u) g T L' := hL ▸ h.set i u
set_option maxRecDepth 100000 in
set_option maxHeartbeats 2000000 in
theorem rdecode_any (w : World) (v : Value) (b off : Nat) (l : List Int) (h : Sl .u8 w v b off l) (hB : Bts l) :
    Calls Tryz.prog 52 #[v] w (Post w [] fun r W => r = .tuple #[decV l, .int .i64 (decWhy l)]) := by
  have L1 := h.len
  unfold maxLen at L1
  have l0 : (0 : Int) ≤ l.length := by omega
  have l1 : (l.length : Int) ≤ 9223372036854775807 := by omega
  have hz0 := Blk.new w 83 [.int .i64 0, .int .i64 0, .int .i64 0, .int .i64 0, .int .u64 0, .int .u32 0]
  have k0 : Kept w (w.alloc (.cells #[.int .i64 0, .int .i64 0, .int .i64 0, .int .i64 0, .int .u64 0, .int .u32 0] 83)) [] := (Kept.refl w []).alloc _
  have HZ := Lib.hid hz0
  have KZ := Lib.hid k0
  clear hz0 k0
  by_cases hs : l.length < 28
  · have e1 : decWhy l = 5 := by unfold decWhy; rw [if_pos hs]
    have e2 : decV l = headV 0 0 0 0 0 0 := by unfold decV; rw [e1]; rfl
    rw [e1, e2]
    obtain ⟨A1, c1, ev⟩ := h.form
    subst ev
    have hs' : (l.length : Int) < 28 := by omega
    clear h hB hs e1 e2
    go_enter Tryz.func52, Tryz.ntmps52
    go_wp2_with fail
    refine bodyPost_ret (results_pair_row Tryz.results52 _ _ _ _ _ _ _ _ (by simp [go_sem]) (by simp [go_sem]; rfl) HZ.out Tryz.underlying83 rfl rfl) rfl ?_
    exact ⟨_, rfl, rfl, KZ.out⟩
  have hs28 : 28 ≤ l.length := by omega
  obtain ⟨x0, x1, x2, x3, x4, x5, x6, x7, l', hl'⟩ : ∃ x0 x1 x2 x3 x4 x5 x6 x7 l', l = x0 :: x1 :: x2 :: x3 :: x4 :: x5 :: x6 :: x7 :: l' := eight l (by omega)
  obtain ⟨cc, ev⟩ := h.at (by intro e; rw [e] at hs28; simp at hs28)
  have hcap : l.length ≤ cc ∧ cc ≤ maxLen := by
    obtain ⟨A, c, e, a1, a2, _⟩ := h
    rw [ev] at e
    simp only [Value.slice.injEq] at e
    omega
  have hbl := h.lt (by intro e; rw [e] at hs28; simp at hs28)
  unfold maxLen at hcap
  subst ev
  have hc0 := hcap.1
  have hc1 := hcap.2
  have n0 : (28 : Int) ≤ l.length := by omega
  have n1 : (l.length : Int) ≤ cc := by omega
  have n2 : (cc : Int) ≤ 9223372036854775807 := by omega
  have HS1 := Lib.hid (h.kept KZ.out (.inr (by simp)))
  have HBT := Lib.hid hB
  have HBL := Lib.hid hbl
  have b5 := hB x5 (by rw [hl']; simp)
  have b6 := hB x6 (by rw [hl']; simp)
  have b7 := hB x7 (by rw [hl']; simp)
  have ht4 : l.take 4 = [x0, x1, x2, x3] := by rw [hl']; rfl
  have hs' : ¬ ((l.length : Int) < 28) := by omega
  have d0 := HS1.out.cell (i := 0) (x := x0) (by rw [hl']; rfl)
  have d1 := HS1.out.cell (i := 1) (x := x1) (by rw [hl']; rfl)
  have d2 := HS1.out.cell (i := 2) (x := x2) (by rw [hl']; rfl)
  have d3 := HS1.out.cell (i := 3) (x := x3) (by rw [hl']; rfl)
  have d4 := HS1.out.cell (i := 4) (x := x4) (by rw [hl']; rfl)
  rw [Nat.add_zero] at d0
  have g0 : (0 : Int) < l.length := by omega
  have g1 : (1 : Int) < l.length := by omega
  have g2 : (2 : Int) < l.length := by omega
  have g3 : (3 : Int) < l.length := by omega
  have g4 : (4 : Int) < l.length := by omega
  have hmag : (x0 = 75 ∧ x1 = 69 ∧ x2 = 69 ∧ x3 = 80) ∨ (x0 ≠ 75 ∨ (x0 = 75 ∧ x1 ≠ 69) ∨ (x0 = 75 ∧ x1 = 69 ∧ x2 ≠ 69) ∨ (x0 = 75 ∧ x1 = 69 ∧ x2 = 69 ∧ x3 ≠ 80)) := by omega
  rcases hmag with hm | hm
  rotate_left
  · have e1 : decWhy l = 6 := by
      unfold decWhy
      rw [if_neg hs, if_pos]
      rw [ht4]
      intro e
      simp at e
      omega
    have e2 : decV l = headV 0 0 0 0 0 0 := by unfold decV; rw [e1]; rfl
    rw [e1, e2]
    have HL := Lib.hid hl'
    clear h hB hs e1 e2 ht4 hl' hcap hc0 hc1 hs28 hbl b5 b6 b7 d4
    rcases hm with q0 | ⟨q0, q1⟩ | ⟨q0, q1, q2⟩ | ⟨q0, q1, q2, q3⟩
    · have t0 : (x0 != 75) = true := by simpa using q0
      clear q0
      go_enter Tryz.func52, Tryz.ntmps52
      go_wp2_with fail
      refine bodyPost_ret (results_pair_row Tryz.results52 _ _ _ _ _ _ _ _ (by simp [go_sem]) (by simp [go_sem]; rfl) HZ.out Tryz.underlying83 rfl rfl) rfl ?_
      exact ⟨_, rfl, rfl, KZ.out⟩
    · have t0 : (x0 != 75) = false := by simpa using q0
      have t1 : (x1 != 69) = true := by simpa using q1
      clear q0 q1
      go_enter Tryz.func52, Tryz.ntmps52
      go_wp2_with fail
      refine bodyPost_ret (results_pair_row Tryz.results52 _ _ _ _ _ _ _ _ (by simp [go_sem]) (by simp [go_sem]; rfl) HZ.out Tryz.underlying83 rfl rfl) rfl ?_
      exact ⟨_, rfl, rfl, KZ.out⟩
    · have t0 : (x0 != 75) = false := by simpa using q0
      have t1 : (x1 != 69) = false := by simpa using q1
      have t2 : (x2 != 69) = true := by simpa using q2
      clear q0 q1 q2
      go_enter Tryz.func52, Tryz.ntmps52
      go_wp2_with fail
      refine bodyPost_ret (results_pair_row Tryz.results52 _ _ _ _ _ _ _ _ (by simp [go_sem]) (by simp [go_sem]; rfl) HZ.out Tryz.underlying83 rfl rfl) rfl ?_
      exact ⟨_, rfl, rfl, KZ.out⟩
    · have t0 : (x0 != 75) = false := by simpa using q0
      have t1 : (x1 != 69) = false := by simpa using q1
      have t2 : (x2 != 69) = false := by simpa using q2
      have t3 : (x3 != 80) = true := by simpa using q3
      clear q0 q1 q2 q3
      go_enter Tryz.func52, Tryz.ntmps52
      go_wp2_with fail
      refine bodyPost_ret (results_pair_row Tryz.results52 _ _ _ _ _ _ _ _ (by simp [go_sem]) (by simp [go_sem]; rfl) HZ.out Tryz.underlying83 rfl rfl) rfl ?_
      exact ⟨_, rfl, rfl, KZ.out⟩
  obtain ⟨q0, q1, q2, q3⟩ := hm
  have h4 : l.take 4 = [75, 69, 69, 80] := by rw [ht4, q0, q1, q2, q3]
  have t0 : (x0 != 75) = false := by simpa using q0
  have t1 : (x1 != 69) = false := by simpa using q1
  have t2 : (x2 != 69) = false := by simpa using q2
  have t3 : (x3 != 80) = false := by simpa using q3
  have v4 : hd l 4 = x4 := by rw [hl']; rfl
  have v5 : hd l 5 = x5 := by rw [hl']; rfl
  have v6 : hd l 6 = x6 := by rw [hl']; rfl
  have v7 : hd l 7 = x7 := by rw [hl']; rfl
  have v5' : l[5]? = some x5 := by rw [hl']; rfl
  have v6' : l[6]? = some x6 := by rw [hl']; rfl
  have v7' : l[7]? = some x7 := by rw [hl']; rfl
  clear hl' ht4 q0 q1 q2 q3
  by_cases hv : x4 ≠ 1
  · have e1 : decWhy l = 7 := by unfold decWhy; rw [if_neg hs, if_neg (by rw [h4]; simp), if_pos (by rw [v4]; exact hv)]
    have e2 : decV l = headV 0 0 0 0 0 0 := by unfold decV; rw [e1]; rfl
    rw [e1, e2]
    have t4 : (x4 != 1) = true := by simpa using hv
    clear h hB hs e1 e2 hv hcap hc0 hc1 hs28 v4 v5 v6 v7 h4 b5 b6 b7 hbl
    go_enter Tryz.func52, Tryz.ntmps52
    go_wp2_with fail
    refine bodyPost_ret (results_pair_row Tryz.results52 _ _ _ _ _ _ _ _ (by simp [go_sem]) (by simp [go_sem]; rfl) HZ.out Tryz.underlying83 rfl rfl) rfl ?_
    exact ⟨_, rfl, rfl, KZ.out⟩
  have hv1 : x4 = 1 := by
    by_cases e : x4 = 1
    · exact e
    · exact absurd e hv
  have t4 : (x4 != 1) = false := by simpa using hv1
  have HSUM := Lib.hid (fun W' (k : Kept w W' []) => rsum_any W' (.slice (some ⟨b, off, none⟩) 24 cc) b off (l.take 24) (by
    have := (h.kept k (.inr (by simp))).part 0 24 cc (by omega) (by omega) (by unfold maxLen; omega) (by omega)
    simpa using this) (HBT.out.take _) (by simp; omega))
  have HTK := Lib.hid (fun W' (k : Kept w W' []) => rnum_q W' (.slice (some ⟨b, off + 24, none⟩) 4 (cc - 24)) b (off + 24) ((l.drop 24).take 4) ((h.kept k (.inr (by simp))).part 24 4 (cc - 24) (by omega) (by omega) (by unfold maxLen; omega) (by omega)) ((HBT.out.drop _).take _) (by simp; omega))
  have su := sumM_u32 (l.take 24)
  have suw : IntKind.u64.wrap (sumM (l.take 24)) = sumM (l.take 24) := by rw [IntKind.wrap_u64]; omega
  have z24 : (cc = 24) = False := by simp; omega
  have g24 : (28 : Int) ≤ cc := by omega
  have g25 : (24 : Int) ≤ cc := by omega
  have g26 : 24 ≤ cc := by omega
  have z0 : (cc = 0) = False := by simp; omega
  have KZD : Hid (Kept w (w.alloc (.cells #[.int .i64 0, .int .i64 0, .int .i64 0, .int .i64 0, .int .u64 0, .int .u32 0] 83)).drew []) := Lib.hid KZ.out.drew
  have HZD := Lib.hid HZ.out.drew
  by_cases hsum : sumM (l.take 24) ≠ decN l 24 4
  · have e1 : decWhy l = 8 := by unfold decWhy; rw [if_neg hs, if_neg (by rw [h4]; simp), if_neg (by rw [v4]; exact hv), if_pos hsum]
    have e2 : decV l = headV 0 0 0 0 0 0 := by unfold decV; rw [e1]; rfl
    rw [e1, e2]
    have t5 : (takeM ((l.drop 24).take 4) != sumM (l.take 24)) = true := by simpa [decN] using fun e => hsum e.symm
    generalize sumM (l.take 24) = S at *
    generalize takeM ((l.drop 24).take 4) = T at *
    clear h hB hs e1 e2 hv hcap hc0 hc1 hs28 v4 v5 v6 v7 h4 b5 b6 b7 hsum su hbl
    go_enter Tryz.func52, Tryz.ntmps52
    go_wp2_with fail
    go_region_held3 (fun _ => True) (trivial) (first
      | (go_at_call 88; (with_reducible refine (HTK.out _ KZD.out).mono ?_); rintro _ _ ⟨rfl, rfl⟩)
      | (go_at_call 47; (with_reducible refine (HSUM.out _ KZD.out).mono ?_); rintro _ ws ⟨_, rfl, rfl, ks⟩; have HZS := Lib.hid (HZD.out.kept ks (by simp)); have KS := Lib.hid (KZD.out.trans ks (by simp)); clear ks))
    all_goals (
      have hb1 := HZS.out
      have u0 := hb1.cell 0 rfl
      have u1 := hb1.cell 1 rfl
      have u2 := hb1.cell 2 rfl
      have u3 := hb1.cell 3 rfl
      have u4 := hb1.cell 4 rfl
      have u5 := hb1.cell 5 rfl
      have f0 := hb1.free 0
      have f1 := hb1.free 1
      have f2 := hb1.free 2
      have f3 := hb1.free 3
      have f4 := hb1.free 4
      have f5 := hb1.free 5
      clear hb1 d0 d1 d2 d3 d4
      go_wp2_with fail
      refine bodyPost_ret (results_pair_row Tryz.results52 _ _ _ _ _ _ _ _ (by simp [go_sem]) (by simp [go_sem]; rfl) (blk6 HZS.out 0 0 0 0 0 0) Tryz.underlying83 rfl rfl) rfl ?_
      exact ⟨_, rfl, rfl, kept6 KS.out (.inr (Nat.le_refl _)) 0 0 0 0 0 0⟩)
  have hsum1 : sumM (l.take 24) = takeM ((l.drop 24).take 4) := by
    by_cases e : sumM (l.take 24) = takeM ((l.drop 24).take 4)
    · exact e
    · exact absurd e hsum
  have t5 : (takeM ((l.drop 24).take 4) != sumM (l.take 24)) = false := by simpa using hsum1.symm
  have e1 : decWhy l = if decOk l = false then 9 else 0 := by unfold decWhy; rw [if_neg hs, if_neg (by rw [h4]; simp), if_neg (by rw [v4]; exact hv), if_neg hsum]
  have E1 := Lib.hid (And.intro e1 trivial)
  have E2 := Lib.hid (And.intro (show decV l = if decWhy l = 0 then headV x5 x6 x7 (decN l 8 4) (decN l 12 8) (decN l 20 4) else headV 0 0 0 0 0 0 by unfold decV; rw [v5, v6, v7]) trivial)
  have EO := Lib.hid (And.intro (show decOk l = (gRight x5 x6 x7 && decide (decN l 8 4 = gTotal x5 x6 x7)) by unfold decOk; rw [v5, v6, v7]) trivial)
  have n8 := takeM_bd ((l.drop 8).take 4) ((HBT.out.drop _).take _)
  have n12 := takeM_bd ((l.drop 12).take 8) ((HBT.out.drop _).take _)
  have n20 := takeM_bd ((l.drop 20).take 4) ((HBT.out.drop _).take _)
  have p4 : (256 : Int) ^ 4 = 4294967296 := by decide
  have j8 : ((l.drop 8).take 4).length = 4 := by simp; omega
  have j20 : ((l.drop 20).take 4).length = 4 := by simp; omega
  rw [j8, p4] at n8
  rw [j20, p4] at n20
  obtain ⟨m0, m1⟩ := n8
  obtain ⟨m2, m3⟩ := n20
  have HLN := Lib.hid hs28
  have HSW := Lib.hid h
  have y5 : IntKind.i64.wrap x5 = x5 := by rw [IntKind.wrap_i64]; omega
  have y6 : IntKind.i64.wrap x6 = x6 := by rw [IntKind.wrap_i64]; omega
  have y7 : IntKind.i64.wrap x7 = x7 := by rw [IntKind.wrap_i64]; omega
  have y8 : IntKind.i64.wrap (decN l 8 4) = decN l 8 4 := by rw [IntKind.wrap_i64]; unfold decN; omega
  have y20 : IntKind.u32.wrap (decN l 20 4) = decN l 20 4 := by rw [IntKind.wrap_u32]; unfold decN; omega
  have h8 := Lib.hid (fun W' S (k : Kept w W' S) (hS : b ∉ S) => rnum_q W' (.slice (some ⟨b, off + 8, none⟩) 4 (cc - 8)) b (off + 8) ((l.drop 8).take 4) ((HSW.out.kept k (.inr hS)).part 8 4 (cc - 8) (by have := HLN.out; omega) (by omega) (by unfold maxLen; omega) (by omega)) ((HBT.out.drop _).take _) (by simp; omega))
  have h12 := Lib.hid (fun W' S (k : Kept w W' S) (hS : b ∉ S) => rnum_q W' (.slice (some ⟨b, off + 12, none⟩) 8 (cc - 12)) b (off + 12) ((l.drop 12).take 8) ((HSW.out.kept k (.inr hS)).part 12 8 (cc - 12) (by have := HLN.out; omega) (by omega) (by unfold maxLen; omega) (by omega)) ((HBT.out.drop _).take _) (by simp; omega))
  have h20 := Lib.hid (fun W' S (k : Kept w W' S) (hS : b ∉ S) => rnum_q W' (.slice (some ⟨b, off + 20, none⟩) 4 (cc - 20)) b (off + 20) ((l.drop 20).take 4) ((HSW.out.kept k (.inr hS)).part 20 4 (cc - 20) (by have := HLN.out; omega) (by omega) (by unfold maxLen; omega) (by omega)) ((HBT.out.drop _).take _) (by simp; omega))
  rw [show takeM ((l.drop 8).take 4) = decN l 8 4 from rfl] at h8
  rw [show takeM ((l.drop 12).take 8) = decN l 12 8 from rfl] at h12
  rw [show takeM ((l.drop 20).take 4) = decN l 20 4 from rfl] at h20
  generalize sumM (l.take 24) = S at *
  generalize takeM ((l.drop 24).take 4) = T at *
  generalize decN l 8 4 = N8 at *
  generalize decN l 12 8 = N12 at *
  generalize decN l 20 4 = N20 at *
  clear h hB hs e1 hv hcap hc0 hc1 hs28 v4 v5 v6 v7 h4 hsum hsum1 su j8 j20 p4 n12 m0 m1 m2 m3 hbl
  go_enter Tryz.func52, Tryz.ntmps52
  go_wp2_with fail
  go_region_held3 (fun _ => True) (trivial) (first
    | (go_at_call 88; (with_reducible refine (HTK.out _ KZD.out).mono ?_); rintro _ _ ⟨rfl, rfl⟩)
    | (go_at_call 47; (with_reducible refine (HSUM.out _ KZD.out).mono ?_); rintro _ ws ⟨_, rfl, rfl, ks⟩; have HZS := Lib.hid (HZD.out.kept ks (by simp)); have KS := Lib.hid (KZD.out.trans ks (by simp)); clear ks))
  all_goals (
    have hbn := Blk.new ws 83 [.int .i64 0, .int .i64 0, .int .i64 0, .int .i64 0, .int .u64 0, .int .u32 0]
    have kbn : Kept ws (ws.alloc (.cells #[.int .i64 0, .int .i64 0, .int .i64 0, .int .i64 0, .int .u64 0, .int .u32 0] 83)) [] := (Kept.refl ws []).alloc _
    have HBN := Lib.hid hbn
    have KBN := Lib.hid kbn
    clear hbn kbn d0 d1 d2 d3 d4
    go_upto_region 10 with fail
    with_reducible refine open_world (fun V => Blk V w.heap.size 83 (headC 0 0 0 0 0 0) ∧ Blk V ws.heap.size 83 (headC 0 0 0 0 0 0) ∧ Kept ws V []) ⟨HZS.out.kept KBN.out (by simp), HBN.out, KBN.out⟩ ?_
    rintro V ⟨hv1, hv2, hv3⟩
    generalize hgg : ws.heap.size = g at *
    have HGG : Hid (w.heap.size ≤ g ∧ w.heap.size ≠ g ∧ b ≠ g) := Lib.hid (by have h1 := KS.out.size; have h2 := HZS.out.lt; have h3 := HBL.out; have h4 := KZ.out.size; omega)
    have KV : Hid (Kept w V []) := Lib.hid (KS.out.trans hv3 (by simp))
    have hsl := HSW.out.kept KV.out (.inr (by simp))
    have d5' : V.cell? ⟨b, off + 5, none⟩ = some (.int .u8 x5) := hsl.cell v5'
    have d6' : V.cell? ⟨b, off + 6, none⟩ = some (.int .u8 x6) := hsl.cell v6'
    have d7' : V.cell? ⟨b, off + 7, none⟩ = some (.int .u8 x7) := hsl.cell v7'
    have c0 := hv2.cell 0 rfl
    have c1 := hv2.cell 1 rfl
    have c2 := hv2.cell 2 rfl
    have f0 := hv2.free 0
    have f1 := hv2.free 1
    have f2 := hv2.free 2
    have HV1 : Hid (Blk (((V.setCell ⟨g, 0, none⟩ (.int .i64 x5)).setCell ⟨g, 1, none⟩ (.int .i64 x6)).setCell ⟨g, 2, none⟩ (.int .i64 x7)) w.heap.size 83 (headC 0 0 0 0 0 0)) := Lib.hid (hv1.kept (S := [g]) (kept3 (Kept.refl V [g]) (.inl (by simp)) x5 x6 x7) (by simp; exact HGG.out.2.1))
    have HV2 := Lib.hid (blk3 hv2 x5 x6 x7)
    have KV2 : Hid (Kept w (((V.setCell ⟨g, 0, none⟩ (.int .i64 x5)).setCell ⟨g, 1, none⟩ (.int .i64 x6)).setCell ⟨g, 2, none⟩ (.int .i64 x7)) []) := Lib.hid (kept3 KV.out (.inr HGG.out.1) x5 x6 x7)
    clear hv1 hv2 hv3 hsl
    have g5 : (5 : Int) < l.length := by omega
    have g6 : (6 : Int) < l.length := by omega
    have g7 : (7 : Int) < l.length := by omega
    go_region
    all_goals (
      clear d5' d6' d7' c0 c1 c2 f0 f1 f2
      go_upto_region 11 with fail
      with_reducible refine open_world (fun V2 => Blk V2 w.heap.size 83 (headC 0 0 0 0 0 0) ∧ Blk V2 g 83 (headC x5 x6 x7 0 0 0) ∧ Kept w V2 []) ⟨HV1.out.drew, HV2.out.drew, KV2.out.drew⟩ ?_
      rintro V2 ⟨a1, a2, a3⟩
      have A1 := Lib.hid a1
      have A2 := Lib.hid a2
      have A3 := Lib.hid a3
      have z8 : (cc = 8) = False := by simp; omega
      have z12 : (cc = 12) = False := by simp; omega
      have z20 : (cc = 20) = False := by simp; omega
      have g8 : (12 : Int) ≤ cc := by omega
      have g9 : (20 : Int) ≤ cc := by omega
      have g10 : (24 : Int) ≤ cc := by omega
      have c3 := a2.cell 3 rfl
      have f3 := a2.free 3
      clear a1 a2 a3
      go_wp2_with fail
      (with_reducible refine (h8.out _ [] A3.out (by simp)).mono ?_)
      rintro _ _ ⟨rfl, rfl⟩
      go_upto_region 12 with fail
      with_reducible refine open_world (fun V3 => Blk V3 w.heap.size 83 (headC 0 0 0 0 0 0) ∧ Blk V3 g 83 (headC x5 x6 x7 N8 0 0) ∧ Kept w V3 []) ⟨A1.out.kept (S := [g]) ((Kept.refl _ _).setCell (.inl (by simp)) _) (by simp; exact HGG.out.2.1), blkset A2.out 3 _ rfl, A3.out.setCell (.inr HGG.out.1) _⟩ ?_
      rintro V3 ⟨a1, a2, a3⟩
      have B1 := Lib.hid a1
      have B2 := Lib.hid a2
      have B3 := Lib.hid a3
      have c4 := a2.cell 4 rfl
      have f4 := a2.free 4
      clear a1 a2 a3 c3 f3
      go_wp2_with fail
      (with_reducible refine (h12.out _ [] B3.out (by simp)).mono ?_)
      rintro _ _ ⟨rfl, rfl⟩
      go_upto_region 13 with fail
      with_reducible refine open_world (fun V4 => Blk V4 w.heap.size 83 (headC 0 0 0 0 0 0) ∧ Blk V4 g 83 (headC x5 x6 x7 N8 N12 0) ∧ Kept w V4 []) ⟨B1.out.kept (S := [g]) ((Kept.refl _ _).setCell (.inl (by simp)) _) (by simp; exact HGG.out.2.1), blkset B2.out 4 _ rfl, B3.out.setCell (.inr HGG.out.1) _⟩ ?_
      rintro V4 ⟨a1, a2, a3⟩
      have C1 := Lib.hid a1
      have C2 := Lib.hid a2
      have C3 := Lib.hid a3
      have c5 := a2.cell 5 rfl
      have f5 := a2.free 5
      clear a1 a2 a3 c4 f4
      go_wp2_with fail
      (with_reducible refine (h20.out _ [] C3.out (by simp)).mono ?_)
      rintro _ _ ⟨rfl, rfl⟩
      go_upto_region 14 with fail
      with_reducible refine open_world (fun V5 => Blk V5 w.heap.size 83 (headC 0 0 0 0 0 0) ∧ Blk V5 g 83 (headC x5 x6 x7 N8 N12 N20) ∧ Kept w V5 []) ⟨C1.out.kept (S := [g]) ((Kept.refl _ _).setCell (.inl (by simp)) _) (by simp; exact HGG.out.2.1), blkset C2.out 5 _ rfl, C3.out.setCell (.inr HGG.out.1) _⟩ ?_
      rintro V5 ⟨hv1, hv2, hv3⟩
      have HV1 := Lib.hid hv1
      have HV2 := Lib.hid hv2
      have KV := Lib.hid hv3
      have hR := rhcan_any V5 x5 x6 x7 N8 N12 N20
      rw [← EO.out.1] at hR
      replace hR := Lib.hid hR
      have s0 := hv2.cell 0 rfl
      have s1 := hv2.cell 1 rfl
      have s2 := hv2.cell 2 rfl
      have s3 := hv2.cell 3 rfl
      have s4 := hv2.cell 4 rfl
      have s5 := hv2.cell 5 rfl
      clear hv1 hv2 hv3 c5 f5
      go_wp2_with fail
      refine hR.out.mono ?_
      rintro _ V6 ⟨_, rfl, rfl, kv2⟩
      have hb1 := HV1.out.kept kv2 (by simp)
      have hb2 := HV2.out.kept kv2 (by simp)
      have r0 := hb2.cell 0 rfl
      have r1 := hb2.cell 1 rfl
      have r2 := hb2.cell 2 rfl
      have r3 := hb2.cell 3 rfl
      have r4 := hb2.cell 4 rfl
      have r5 := hb2.cell 5 rfl
      have u0 := hb1.cell 0 rfl
      have u1 := hb1.cell 1 rfl
      have u2 := hb1.cell 2 rfl
      have u3 := hb1.cell 3 rfl
      have u4 := hb1.cell 4 rfl
      have u5 := hb1.cell 5 rfl
      have f0 := hb1.free 0
      have f1 := hb1.free 1
      have f2 := hb1.free 2
      have f3 := hb1.free 3
      have f4 := hb1.free 4
      have f5 := hb1.free 5
      have HB1 := Lib.hid hb1
      have KV2 := Lib.hid (KV.out.trans kv2 (by simp))
      clear hb1 hb2 kv2 hR s0 s1 s2 s3 s4 s5
      cases hd : decOk l
      · have w1 : decWhy l = 9 := by rw [E1.out.1, hd]; rfl
        have w2 : decV l = headV 0 0 0 0 0 0 := by rw [E2.out.1, w1]; rfl
        have WW := Lib.hid (And.intro w1 w2)
        clear w1 w2
        go_wp2_with fail
        refine bodyPost_ret (results_pair_row Tryz.results52 _ _ _ _ _ _ _ _ (by simp [go_sem]) (by simp [go_sem]; rfl) (blk6 HB1.out 0 0 0 0 0 0) Tryz.underlying83 rfl rfl) rfl ?_
        exact ⟨_, rfl, by show Value.tuple _ = _; rw [WW.out.1, WW.out.2], kept6 KV2.out (.inr (Nat.le_refl _)) 0 0 0 0 0 0⟩
      · have w1 : decWhy l = 0 := by rw [E1.out.1, hd]; rfl
        have w2 : decV l = headV x5 x6 x7 N8 N12 N20 := by rw [E2.out.1, w1]; rfl
        have WW := Lib.hid (And.intro w1 w2)
        clear w1 w2
        go_wp2_with fail
        refine bodyPost_ret (results_pair_row Tryz.results52 _ _ _ _ _ _ _ _ (by simp [go_sem]) (by simp [go_sem]; rfl) (blk6 HB1.out x5 x6 x7 N8 N12 N20) Tryz.underlying83 rfl rfl) rfl ?_
        exact ⟨_, rfl, by show Value.tuple _ = _; rw [WW.out.1, WW.out.2], kept6 KV2.out (.inr (Nat.le_refl _)) x5 x6 x7 N8 N12 N20⟩))
end Go.Proofs.YtlojgelidcjeaaaGreatDoor
