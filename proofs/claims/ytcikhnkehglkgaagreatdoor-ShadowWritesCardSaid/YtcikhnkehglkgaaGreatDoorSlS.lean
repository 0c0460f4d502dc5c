/- PROVED: the contract of slot.Seal. No conditions beyond those that each theorem states. -/
import Derived.Test.YtcikhnkehglkgaaGreatDoorSlF
namespace Go.Proofs.YtcikhnkehglkgaaGreatDoor
open Go.RowKit Go.Proofs.YtcikhnkehglkgaaGreatDoorLib
set_option linter.unusedSimpArgs false
set_option linter.unusedVariables false

theorem slot_room {s : DiskS} {which e f g : Int} (hw : atWhy s which e f g = 0) : which.toNat * spanN s.size e f g ≤ 200000 := by
  obtain ⟨hr, ⟨wh0, wh1⟩, hsz, hrm⟩ := atWhy_yes hw
  have h1 : which.toNat * spanN s.size e f g ≤ 1 * spanN s.size e f g := Nat.mul_le_mul_right _ (by omega)
  have := spanN_le s.size e f g
  omega
set_option maxHeartbeats 1000000 in
theorem seal_no (w : World) (hg : GeoLaid w) (b : Nat) (F : List Nat) (s : DiskS) (h : DiskAt w b F s) (which e f g seq : Int) (v : Value) (hw : atWhy s which e f g ≠ 0) :
    Calls Tryz.prog 81 #[pt b, .int .i64 which, .agg #[.int .i64 e, .int .i64 f, .int .i64 g], .int .u64 seq, v] w (Post w [] fun r W => r = .int .i64 (atWhy s which e f g)) := by
  have HA := Lib.hid (at_no (w.alloc (.cells #[.int .i64 e, .int .i64 f, .int .i64 g] 23)) (hg.alloc _) b F s (h.kept ((Kept.refl w []).alloc _) (by simp)) which e f g hw)
  generalize atWhy s which e f g = why at *
  have t1 : (why != 0) = true := by simpa using hw
  clear h hg hw
  go_enter Tryz.func81, Tryz.ntmps81
  go_wp2_with fail
  refine HA.out.mono ?_
  rintro _ w1 ⟨_, rfl, rfl, k1⟩
  have K1 := Lib.hid (((Kept.refl w []).alloc _).trans k1 (by simp))
  clear k1 HA
  go_wp2_with fail
  go_ret
  exact ⟨_, rfl, rfl, K1.out.alloc _⟩
set_option maxHeartbeats 1000000 in
theorem seal_arg (w : World) (hg : GeoLaid w) (b : Nat) (F : List Nat) (s : DiskS) (h : DiskAt w b F s) (which e f g seq : Int) (v : Value) (bq off : Nat) (l : List Int) (hs : Sl .u8 w v bq off l) (hw : atWhy s which e f g = 0) (hl : l.length ≠ gTotal e f g) :
    Calls Tryz.prog 81 #[pt b, .int .i64 which, .agg #[.int .i64 e, .int .i64 f, .int .i64 g], .int .u64 seq, v] w (Post w [] fun r W => r = .int .i64 1) := by
  have hb0 := Blk.new w 23 [.int .i64 e, .int .i64 f, .int .i64 g]
  have HA := Lib.hid (at_yes (w.alloc (.cells #[.int .i64 e, .int .i64 f, .int .i64 g] 23)) (hg.alloc _) b F s (h.kept ((Kept.refl w []).alloc _) (by simp)) which e f g hw)
  obtain ⟨A, c, ev⟩ := hs.form
  subst ev
  have HG := Lib.hid hg
  obtain ⟨T, hT⟩ : ∃ T, gTotal e f g = T := ⟨_, rfl⟩
  have HT := Lib.hid (fun W (hg : GeoLaid W) => hT ▸ total_any W hg e f g)
  rw [hT] at hl
  have t1 : ((l.length : Int) != (T : Int)) = true := by simp; omega
  clear h hg hs hl hw hT
  go_enter Tryz.func81, Tryz.ntmps81
  go_wp2_with fail
  refine HA.out.mono ?_
  rintro _ w1 ⟨_, rfl, ⟨p3, p9, rfl, hx⟩, k1⟩
  have K1 := Lib.hid (((Kept.refl w []).alloc _).trans k1 (by simp))
  have hb1 := hb0.kept k1 (by simp)
  generalize spanN s.size e f g - 1 = many at *
  have hb1a := hb1.alloc (.cells #[.int .i64 many, .int .i64 s.size, .func (.func 102) #[] #[pt p3, pt p9], .func (.func 104) #[] #[pt p3, pt p9]] 124)
  have c0 := hb1a.cell 0 rfl
  have c1 := hb1a.cell 1 rfl
  have c2 := hb1a.cell 2 rfl
  have HT1 := Lib.hid (HT.out (w1.alloc (.cells #[.int .i64 many, .int .i64 s.size, .func (.func 102) #[] #[pt p3, pt p9], .func (.func 104) #[] #[pt p3, pt p9]] 124)) (HG.out.kept (K1.out.alloc _) (by simp)))
  clear k1 hx hb0 hb1 hb1a
  go_wp2_with fail
  refine HT1.out.mono ?_
  rintro _ w2 ⟨_, rfl, rfl, k2⟩
  have K2 := Lib.hid ((K1.out.alloc (.cells #[.int .i64 many, .int .i64 s.size, .func (.func 102) #[] #[pt p3, pt p9], .func (.func 104) #[] #[pt p3, pt p9]] 124)).trans k2 (by simp))
  clear k2 HT1
  go_wp2_with fail
  go_ret
  exact ⟨_, rfl, rfl, K2.out⟩
set_option maxRecDepth 100000 in
set_option maxHeartbeats 2000000 in
theorem seal_yes (w : World) (hg : GeoLaid w) (b : Nat) (F : List Nat) (s : DiskS) (h : DiskAt w b F s) (ho : s.ops < 1000000000) (which e f g seq : Int) (sq0 : 0 ≤ seq) (sq1 : seq ≤ 18446744073709551615) (v : Value) (bq off : Nat) (l : List Int) (hs : Sl .u8 w v bq off l) (hB : Bts l) (hw : atWhy s which e f g = 0) (hl : l.length = gTotal e f g) :
    Calls Tryz.prog 81 #[pt b, .int .i64 which, .agg #[.int .i64 e, .int .i64 f, .int .i64 g], .int .u64 seq, v] w (Post w F fun r W => r = .int .i64 (s.write ((which.toNat * spanN s.size e f g : Nat) : Int) (padL (encL e f g l.length seq (sumM l)) s.size)).2 ∧ DiskOn W w.heap.size b F (s.write ((which.toNat * spanN s.size e f g : Nat) : Int) (padL (encL e f g l.length seq (sumM l)) s.size)).1) := by
  have hb0 := Blk.new w 23 [.int .i64 e, .int .i64 f, .int .i64 g]
  have HA := Lib.hid (at_yes (w.alloc (.cells #[.int .i64 e, .int .i64 f, .int .i64 g] 23)) (hg.alloc _) b F s (h.kept ((Kept.refl w []).alloc _) (by simp)) which e f g hw)
  obtain ⟨hr, _, hsz, _⟩ := atWhy_yes hw
  have hpl := slot_room hw
  obtain ⟨A, c, ev⟩ := hs.form
  subst ev
  have HG := Lib.hid hg
  have HSL := Lib.hid hs
  have HBT := Lib.hid hB
  have hsu := sumM_u32 l
  have HSUM := Lib.hid (fun W (k : Kept w W []) => sum_q W (.slice A l.length c) bq off l (HSL.out.kept k (.inr (by simp))) HBT.out)
  have HE := Lib.hid (fun W (k : Kept w W []) => encode_yes W (HG.out.kept k (by simp)) e f g (l.length : Int) seq (sumM l) hr (by rw [hl]) sq0 sq1 hsu.1 hsu.2)
  have HEL := Lib.hid (And.intro (encL_len e f g (l.length : Int) seq (sumM l)) (encL_bts hr (l.length : Int) seq (sumM l)))
  generalize which.toNat * spanN s.size e f g = fst at *
  generalize spanN s.size e f g - 1 = many at *
  generalize encL e f g (l.length : Int) seq (sumM l) = X at *
  generalize sumM l = su at *
  have HT := Lib.hid (fun W (hg : GeoLaid W) => hl ▸ total_any W hg e f g)
  have t1 : ((l.length : Int) != (l.length : Int)) = false := by simp
  have H := Lib.hid h
  have HP := Lib.hid hpl
  have HO := Lib.hid ho
  have hll := hs.len
  unfold maxLen at hll
  have l0 : (0 : Int) ≤ l.length := by omega
  have l1 : (l.length : Int) ≤ 9223372036854775807 := by omega
  have HSZ := Lib.hid hsz
  clear h hg hs hl hw hB hr hpl ho hsz hsu hll
  go_enter Tryz.func81, Tryz.ntmps81
  go_wp2_with fail
  refine HA.out.mono ?_
  rintro _ w1 ⟨_, rfl, ⟨p3, p9, rfl, hx⟩, k1⟩
  have k1' := ((Kept.refl w []).alloc (.cells #[.int .i64 e, .int .i64 f, .int .i64 g] 23)).trans k1 (by simp)
  obtain ⟨wb, hwb⟩ : ∃ wb, wb = w1.alloc (.cells #[.int .i64 many, .int .i64 s.size, .func (.func 102) #[] #[pt p3, pt p9], .func (.func 104) #[] #[pt p3, pt p9]] 124) := ⟨_, rfl⟩
  have kb1 : Kept w1 wb [] := by rw [hwb]; exact (Kept.refl w1 []).alloc _
  have hbp : Blk wb w1.heap.size 124 [.int .i64 many, .int .i64 s.size, .func (.func 102) #[] #[pt p3, pt p9], .func (.func 104) #[] #[pt p3, pt p9]] := by rw [hwb]; exact Blk.new _ _ _
  have KB := Lib.hid (k1'.trans kb1 (by simp))
  have HX := Lib.hid (hx.kept2 kb1 (by simp) (by simp))
  have HBP := Lib.hid hbp
  have hb1 := (hb0.kept k1 (by simp)).kept kb1 (by simp)
  have q0 := hb1.cell 0 rfl
  have q1 := hb1.cell 1 rfl
  have q2 := hb1.cell 2 rfl
  have SZ := Lib.hid (And.intro k1'.size kb1.size)
  clear k1 k1' hx hb0 hb1 kb1 hbp HA
  go_upto_region 2 with fail
  rw [← hwb]
  clear hwb
  have HT1 := Lib.hid (HT.out wb (HG.out.kept KB.out (by simp)))
  go_wp2_with fail
  refine HT1.out.mono ?_
  rintro _ w2 ⟨_, rfl, rfl, k2⟩
  have kb2 : Kept wb w2 [] := k2
  have x0 : w2.drew.cell? ⟨w.heap.size, 0, none⟩ = some (.int .i64 e) := k2.cell q0 (by simp)
  have x1 : w2.drew.cell? ⟨w.heap.size, 1, none⟩ = some (.int .i64 f) := k2.cell q1 (by simp)
  have x2 : w2.drew.cell? ⟨w.heap.size, 2, none⟩ = some (.int .i64 g) := k2.cell q2 (by simp)
  have kd : Kept w w2.drew [] := (KB.out.trans k2 (by simp)).drew
  have KB2 := Lib.hid (k2.drew)
  clear k2 HT1 kb2
  go_wp2_with fail
  go_region_held3 (fun W => W.cell? ⟨w.heap.size, 0, none⟩ = some (.int .i64 e) ∧ W.cell? ⟨w.heap.size, 1, none⟩ = some (.int .i64 f) ∧ W.cell? ⟨w.heap.size, 2, none⟩ = some (.int .i64 g)) (first | (with_reducible exact ⟨x0, x1, x2⟩) | (with_reducible exact ⟨y0, y1, y2⟩) | go_keep) (first
    | (go_at_call 87
       refine (HSUM.out _ (by with_reducible assumption)).mono ?_
       rintro _ _ ⟨rfl, rfl⟩)
    | (go_at_call 114
       refine (HE.out _ (by with_reducible assumption)).mono ?_
       rintro _ w3 ⟨_, rfl, ⟨xv, rfl, hxo⟩, k3⟩
       have y0 := k3.cell x0 (by simp)
       have y1 := k3.cell x1 (by simp)
       have y2 := k3.cell x2 (by simp)))
  all_goals (
    obtain ⟨bx, hxs, _⟩ := hxo.sl
    have HXS := Lib.hid hxs
    have kb3 := KB2.out.trans k3 (by simp)
    have hp3 := HBP.out.kept kb3 (by simp)
    have d0 := hp3.cell 0 rfl
    have d1 := hp3.cell 1 rfl
    have d2 := hp3.cell 2 rfl
    have d3 := hp3.cell 3 rfl
    have KW := Lib.hid (KB.out.trans kb3 (by simp))
    have HF1 := Lib.hid (first_any w3 _ b fst p3 p9 F s (H.out.kept KW.out (by simp)) (HX.out.kept2 kb3 (by simp) (by simp)) (by have := HP.out; omega) HO.out many xv bx 0 X hxs HEL.out.2 (by rw [HEL.out.1]; have := HSZ.out; omega))
    clear x0 x1 x2 y0 y1 y2 q0 q1 q2 kd k3 kb3 hp3 hxo hxs
    go_wp2_with fail
    refine HF1.out.mono ?_
    rintro _ V ⟨_, rfl, ⟨rfl, hd⟩, k⟩
    have KV := Lib.hid ((KW.out.mono (S2 := F) (by simp)).trans k (fun g hg => .inl hg))
    have HD := Lib.hid hd
    clear hd k HF1
    go_wp2_with fail
    go_ret
    refine ⟨_, rfl, ⟨rfl, ?_⟩, KV.out⟩
    obtain ⟨F', h1, h2⟩ := HD.out
    exact ⟨F', fun g hg => (h1 g hg).imp id (fun h => Nat.le_trans KW.out.size h), h2⟩)
end Go.Proofs.YtcikhnkehglkgaaGreatDoor
