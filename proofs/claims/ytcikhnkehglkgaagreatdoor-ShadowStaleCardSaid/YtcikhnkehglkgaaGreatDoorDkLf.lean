/- PROVED: the contract of keepsakeref02.Left. No conditions beyond those that each theorem states. -/
import Derived.Test.YtcikhnkehglkgaaGreatDoorDkG
import Derived.Test.YtcikhnkehglkgaaGreatDoorRw
namespace Go.Proofs.YtcikhnkehglkgaaGreatDoor
open Go.RowKit Go.Proofs.YtcikhnkehglkgaaGreatDoorLib Go.WideElems Go.Maps
set_option linter.unusedSimpArgs false
set_option linter.unusedVariables false

theorem junk_get (l : List Int) (n k : Nat) (hk : k < n) : (l ++ List.replicate n 0)[k]? = some (if k < l.length then l[k]?.getD 0 else 0) := by
  rw [List.getElem?_append]
  split
  · rename_i h
    rw [List.getElem?_eq_getElem h]; rfl
  · rename_i h
    rw [List.getElem?_replicate, if_pos (by omega)]
set_option maxRecDepth 100000 in
set_option maxHeartbeats 4000000 in
theorem left_at (w : World) (v1 v2 bv : Value) (b1 o1 b2 o2 b3 o3 : Nat) (l1 l2 : List Int) (t : Int × List Int) (h1 : Sl .u8 w v1 b1 o1 l1) (h2 : Sl .u8 w v2 b2 o2 l2) (h3 : Sl .u8 w bv b3 o3 t.2) (hB : Bts t.2) (hl : l1.length ≤ 4096) :
    Calls Tryz.prog 65 #[v1, v2, .agg #[.int .i64 t.1, bv]] w (Post w [] fun r W => ∃ b o, Sl .u8 W r b o (left l1 l2 t) ∧ ((b = b1 ∧ o = o1) ∨ (b = b2 ∧ o = o2) ∨ (o = 0 ∧ w.heap.size ≤ b) ∨ left l1 l2 t = [])) := by
  obtain ⟨A1, c1, e1⟩ := h1.form
  obtain ⟨A2, c2, e2⟩ := h2.form
  obtain ⟨A3, c3, e3⟩ := h3.form
  subst e1; subst e2; subst e3
  have L3 := h3.len
  unfold maxLen at L3
  have H1 := Lib.hid h1
  have H2 := Lib.hid h2
  have H3 := Lib.hid h3
  have HBT := Lib.hid hB
  clear h1 h2 h3 hB
  by_cases q1 : t.1 = 1
  · have t1 : (t.1 == 1) = true := by simp [q1]
    have e : left l1 l2 t = l2 := by unfold left; rw [if_pos q1]
    rw [e]
    clear e q1
    go_enter Tryz.func65, Tryz.ntmps65
    go_wp2_with fail
    go_ret
    exact ⟨_, rfl, ⟨b2, o2, H2.out.kept ((Kept.refl w []).alloc _) (.inr (by simp)), .inr (.inl ⟨rfl, rfl⟩)⟩, (Kept.refl w []).alloc _⟩
  have t1 : (t.1 == 1) = false := by simp [q1]
  by_cases q2 : t.1 ≠ 2
  · have t2 : (t.1 != 2) = true := by simp [q2]
    have e : left l1 l2 t = l1 := by unfold left; rw [if_neg q1, if_neg q2]
    rw [e]
    clear e q1 q2
    go_enter Tryz.func65, Tryz.ntmps65
    go_wp2_with fail
    go_ret
    exact ⟨_, rfl, ⟨b1, o1, H1.out.kept ((Kept.refl w []).alloc _) (.inr (by simp)), .inl ⟨rfl, rfl⟩⟩, (Kept.refl w []).alloc _⟩
  have t2 : (t.1 != 2) = false := by simp; omega
  have e : left l1 l2 t = (t.2 ++ List.replicate l1.length 0).take l1.length := by unfold left; rw [if_neg q1, if_pos (by omega)]
  rw [e]
  clear e q1 q2
  obtain ⟨i0, hi, hz0, hz1, hz2⟩ := info_parts info8
  have HI := Lib.hid hi
  have HZ0 := Lib.hid hz0
  have HZ1 := Lib.hid hz1
  have HZ2 := Lib.hid hz2
  clear hi hz0 hz1 hz2
  have l0 : (0 : Int) ≤ l1.length := by omega
  have l1' : (l1.length : Int) ≤ 4096 := by omega
  have m0 : (0 : Int) ≤ t.2.length := by omega
  have m1 : (t.2.length : Int) ≤ 9223372036854775807 := by omega
  go_enter Tryz.func65, Tryz.ntmps65
  go_wp2_with fail
  generalize hwb : w.alloc (.cells #[.int .i64 t.1, .slice A3 t.2.length c3] 104) = wb
  have kb : Kept w wb [] := by rw [← hwb]; exact (Kept.refl _ _).alloc _
  have hbx : Blk wb w.heap.size 104 [.int .i64 t.1, .slice A3 t.2.length c3] := by rw [← hwb]; exact Blk.new _ _ _
  have HBX := Lib.hid hbx
  have KB := Lib.hid kb
  clear hwb hbx kb
  go_loopg [7, 8] l1.length (fun g vv i wr => ∃ k : Nat, k + g = l1.length ∧ i = .int .i64 k ∧ Own 5 .u8 wr wb.heap.size vv ((t.2 ++ List.replicate l1.length 0).take k) ∧ Kept wb wr [])
  case atStart => exact ⟨0, by omega, rfl, Own.nil _ _ _ _, Kept.refl _ _⟩
  case round =>
    obtain ⟨k, hk, rfl, hrow, hkept⟩ := hrel
    obtain ⟨bw, hsl, _⟩ := hrow.sl
    obtain ⟨Aw, cw, rfl⟩ := hsl.form
    have HK := Lib.hid hk
    have HKE := Lib.hid hkept
    have HRO := Lib.hid hrow
    have g1 := (HBX.out.kept hkept (by simp)).cell 1 rfl
    clear hk hkept hrow hsl
    by_cases hlt : k < l1.length
    · have k0 : (0 : Int) ≤ k := by omega
      have k1 : (k : Int) < l1.length := by omega
      have hj := junk_get t.2 l1.length k hlt
      have hstep : (t.2 ++ List.replicate l1.length 0).take (k + 1) = (t.2 ++ List.replicate l1.length 0).take k ++ [if k < t.2.length then t.2[k]?.getD 0 else 0] := by rw [List.take_add_one, hj]; rfl
      have htl : ((t.2 ++ List.replicate l1.length 0).take k).length ≤ 4096 := by rw [List.length_take]; omega
      have HST := Lib.hid hstep
      clear hj hstep
      generalize (t.2 ++ List.replicate l1.length 0).take k = L at *
      by_cases hkt : k < t.2.length
      · have hx := List.getElem?_eq_getElem hkt
        have k2 : (k : Int) < t.2.length := by omega
        obtain ⟨c3', g3⟩ := H3.out.at (by intro e; rw [e] at hkt; simp at hkt)
        simp only [Value.slice.injEq] at g3
        obtain ⟨rfl, _, rfl⟩ := g3
        have hcx := ((H3.out.kept KB.out (.inr (by simp))).kept HKE.out (.inr (by simp))).cell hx
        have hst := HST.out
        rw [if_pos hkt, hx, Option.getD_some] at hst
        have HST' := Lib.hid hst
        generalize t.2[k] = x at *
        clear hst hx HST
        have hb2 := Blk.new wr 5 [.int .u8 x]
        have ho2 : Own 5 .u8 (wr.alloc (.cells #[.int .u8 x] 5)) wb.heap.size (.slice Aw L.length cw) L := HRO.out.alloc _
        obtain ⟨v7, w7, hap, ho7, k7⟩ := own_append (P := Tryz.prog) Tryz.underlying27 HI.out HZ0.out HZ1.out HZ2.out ho2 (Sl.of_blk (k := .u8) [x] hb2 rfl 1 (Nat.le_refl _) (by unfold maxLen; omega)) (by simp; omega) (by unfold maxLen; simp; omega) (by have := HKE.out.size; simp; omega) 27
        have HAP := Lib.hid hap
        rw [← HST'.out] at ho7
        have HO7 := Lib.hid ho7
        have K7 : Hid (Kept wb w7 []) := Lib.hid ((HKE.out.alloc _).trans k7 (fun g hg => .inr (by simp only [Option.mem_toList] at hg; exact (HRO.out.lt g hg).1)))
        clear hb2 ho2 hap ho7 k7
        go_wp2_with (first | (at_builtin; refine wpList_append_run rfl _ _ _ rfl rfl rfl HAP.out ?_))
        go_roundg (gk - 1)
        case measure => have := HK.out; omega
        case rel => exact ⟨k + 1, by have := HK.out; omega, by go_num, HO7.out, K7.out⟩
      · have hst := HST.out
        rw [if_neg hkt] at hst
        have HST' := Lib.hid hst
        clear hst HST
        have hb2 := Blk.new wr 5 [.int .u8 0]
        have ho2 : Own 5 .u8 (wr.alloc (.cells #[.int .u8 0] 5)) wb.heap.size (.slice Aw L.length cw) L := HRO.out.alloc _
        obtain ⟨v7, w7, hap, ho7, k7⟩ := own_append (P := Tryz.prog) Tryz.underlying27 HI.out HZ0.out HZ1.out HZ2.out ho2 (Sl.of_blk (k := .u8) [0] hb2 rfl 1 (Nat.le_refl _) (by unfold maxLen; omega)) (by simp; omega) (by unfold maxLen; simp; omega) (by have := HKE.out.size; simp; omega) 27
        have HAP := Lib.hid hap
        rw [← HST'.out] at ho7
        have HO7 := Lib.hid ho7
        have K7 : Hid (Kept wb w7 []) := Lib.hid ((HKE.out.alloc _).trans k7 (fun g hg => .inr (by simp only [Option.mem_toList] at hg; exact (HRO.out.lt g hg).1)))
        clear hb2 ho2 hap ho7 k7
        go_wp2_with (first | (at_builtin; refine wpList_append_run rfl _ _ _ rfl rfl rfl HAP.out ?_))
        go_roundg (gk - 1)
        case measure => have := HK.out; omega
        case rel => exact ⟨k + 1, by have := HK.out; omega, by go_num, HO7.out, K7.out⟩
    · have hkn : k = l1.length := by have := HK.out; omega
      clear hlt
      subst hkn
      go_wp2_with fail
      go_ret
      obtain ⟨bw', hsl', hloc⟩ := HRO.out.sl
      exact ⟨_, rfl, ⟨bw', 0, hsl', .inr (.inr (hloc.elim .inr (fun h => .inl ⟨rfl, Nat.le_trans KB.out.size h.2⟩)))⟩, KB.out.trans HKE.out (by simp)⟩
theorem left_any (w : World) (v1 v2 bv : Value) (b1 o1 b2 o2 b3 o3 : Nat) (l1 l2 : List Int) (t : Int × List Int) (h1 : Sl .u8 w v1 b1 o1 l1) (h2 : Sl .u8 w v2 b2 o2 l2) (h3 : Sl .u8 w bv b3 o3 t.2) (hB : Bts t.2) (hl : l1.length ≤ 4096) :
    Calls Tryz.prog 65 #[v1, v2, .agg #[.int .i64 t.1, bv]] w (Post w [] fun r W => ∃ b o, Sl .u8 W r b o (left l1 l2 t)) := by
  refine (left_at w v1 v2 bv b1 o1 b2 o2 b3 o3 l1 l2 t h1 h2 h3 hB hl).mono ?_
  rintro _ w1 ⟨r, rfl, ⟨b, o, h, _⟩, k⟩
  exact ⟨r, rfl, ⟨b, o, h⟩, k⟩
end Go.Proofs.YtcikhnkehglkgaaGreatDoor
