/- PROVED: the contracts of a place's read and write, of first, and of slot.Wipe. No conditions beyond those that each theorem states. -/
import Derived.Test.YtcikhnkehglkgaaGreatDoorSlB
import Derived.Test.YtcikhnkehglkgaaGreatDoorSlJ
import Derived.Deep.CutRange
namespace Go.Proofs.YtcikhnkehglkgaaGreatDoor
open Go.RowKit Go.Proofs.YtcikhnkehglkgaaGreatDoorLib
set_option linter.unusedSimpArgs false
set_option linter.unusedVariables false

theorem PlaceX.kept2 {W W1 : World} {lo b first p3 p9 : Nat} {S : List Nat} (h : PlaceX W lo b first p3 p9) (hk : Kept W W1 S) (h3 : p3 ∉ S) (h9 : p9 ∉ S) : PlaceX W1 lo b first p3 p9 :=
  ⟨h.b3.kept hk h3, h.b9.kept hk h9, h.l3, h.l9⟩
set_option maxHeartbeats 1000000 in
theorem rd_any (W : World) (lo b first p3 p9 : Nat) (F : List Nat) (s : DiskS) (h : DiskAt W b F s) (hx : PlaceX W lo b first p3 p9) (i : Nat) (hi : first + i ≤ 1000000) (ho : s.ops < 1000000000) :
    Calls Tryz.prog 102 #[.int .i64 i, pt p3, pt p9] W (Post W [b] fun v V => ∃ r, v = .tuple #[r, .int .i64 (s.read (first + i : Nat)).2] ∧ Own 5 .u8 V W.heap.size r (s.read (first + i : Nat)).1 ∧ DiskAt V b F s.tick) := by
  have HR := Lib.hid (read_any W b F s h ho (first + i : Nat))
  have c3 := hx.b3.cell 0 rfl
  have c9 := hx.b9.cell 0 rfl
  have i0 : (0 : Int) ≤ i := by omega
  have f0 : (0 : Int) ≤ first := by omega
  have i1 : (first : Int) + i ≤ 1000000 := by omega
  have e1 : ((first + i : Nat) : Int) = (first : Int) + i := by simp
  rw [e1] at HR ⊢
  generalize (s.read ((first : Int) + i)).1 = L at *
  generalize (s.read ((first : Int) + i)).2 = E at *
  clear h hx e1 hi
  go_enter Tryz.func102, Tryz.ntmps102
  go_wp2_with fail
  refine HR.out.mono ?_
  rintro _ V ⟨_, rfl, ⟨r, rfl, hr, hd⟩, k⟩
  have H := Lib.hid (And.intro hr (And.intro hd k))
  clear hr hd k HR
  go_wp2_with fail
  go_ret2
  exact ⟨_, rfl, ⟨_, rfl, H.out.1, H.out.2.1⟩, H.out.2.2⟩
set_option maxHeartbeats 1000000 in
theorem wr_any (W : World) (lo b first p3 p9 : Nat) (F : List Nat) (s : DiskS) (h : DiskAt W b F s) (hx : PlaceX W lo b first p3 p9) (i : Nat) (hi : first + i ≤ 1000000) (ho : s.ops < 1000000000) (v : Value) (bq off : Nat) (l : List Int) (hs : Sl .u8 W v bq off l) (hq : l = [] ∨ bq ∉ F) (hB : Bts l) :
    Calls Tryz.prog 104 #[.int .i64 i, v, pt p3, pt p9] W (Post W F fun r V => r = .int .i64 (s.write (first + i : Nat) l).2 ∧ DiskOn V W.heap.size b F (s.write (first + i : Nat) l).1) := by
  have HR := Lib.hid (write_any W b F s h ho (first + i : Nat) v bq off l hs hq hB)
  have c3 := hx.b3.cell 0 rfl
  have c9 := hx.b9.cell 0 rfl
  have i0 : (0 : Int) ≤ i := by omega
  have f0 : (0 : Int) ≤ first := by omega
  have i1 : (first : Int) + i ≤ 1000000 := by omega
  have e1 : ((first + i : Nat) : Int) = (first : Int) + i := by simp
  rw [e1] at HR ⊢
  generalize (s.write ((first : Int) + i) l).1 = L at *
  generalize (s.write ((first : Int) + i) l).2 = E at *
  clear h hx e1 hi hs hq hB
  go_enter Tryz.func104, Tryz.ntmps104
  go_wp2_with fail
  refine HR.out.mono ?_
  rintro _ V ⟨_, rfl, ⟨rfl, hd⟩, k⟩
  have H := Lib.hid (And.intro hd k)
  clear hd k HR
  go_wp2_with fail
  go_ret
  exact ⟨_, rfl, ⟨rfl, H.out.1⟩, H.out.2⟩
set_option maxRecDepth 100000 in
set_option maxHeartbeats 1000000 in
/-- the head's sector is laid -/
theorem first_any (W : World) (lo b first p3 p9 : Nat) (F : List Nat) (s : DiskS) (h : DiskAt W b F s) (hx : PlaceX W lo b first p3 p9) (hi : first ≤ 1000000) (ho : s.ops < 1000000000) (many : Nat) (v : Value) (bq off : Nat) (l : List Int) (hs : Sl .u8 W v bq off l) (hB : Bts l) (hl : l.length ≤ s.size) :
    Calls Tryz.prog 75 #[placeV many s.size p3 p9, v] W (Post W F fun r V => r = .int .i64 (s.write first (padL l s.size)).2 ∧ DiskOn V W.heap.size b F (s.write first (padL l s.size)).1) := by
  have hok := h.ok
  have s1 := hok.s1
  have s2 := hok.s2
  have hF := h.lt
  obtain ⟨A, c, ev⟩ := hs.form
  subst ev
  obtain ⟨w0, hw0⟩ : ∃ w0, w0 = W.alloc (.cells #[.int .i64 many, .int .i64 s.size, .func (.func 102) #[] #[pt p3, pt p9], .func (.func 104) #[] #[pt p3, pt p9]] 124) := ⟨_, rfl⟩
  have hb2 : Blk w0 W.heap.size 124 [.int .i64 many, .int .i64 s.size, .func (.func 102) #[] #[pt p3, pt p9], .func (.func 104) #[] #[pt p3, pt p9]] := by rw [hw0]; exact Blk.new _ _ _
  have k0 : Kept W w0 [] := by rw [hw0]; exact (Kept.refl W []).alloc _
  obtain ⟨i0, hi8, hz0, hz1, hz2⟩ := info_parts info8
  obtain ⟨w1, hmk, hrow, k1⟩ := make_own (P := Tryz.prog) (k := .u8) Tryz.underlying27 hi8 hz0 hz1 (by omega) s.size (by omega) w0
  obtain ⟨w2, hcp, hrow2, k2⟩ := hrow.copy (P := Tryz.prog) (g := w0.heap.size) rfl 27 27 3 5 Tryz.underlying27 (by kernel_rfl) 0 s.size s.size ((hs.kept k0 (.inr (by simp))).kept k1 (.inr (by simp))) (by rw [List.length_take, List.length_replicate]; omega)
  rw [splice_pad l s.size hl] at hrow2
  have k02 : Kept W w2 [] := (k0.trans k1 (by simp)).trans k2 (by intro g hg; simp at hg; subst hg; exact .inr k0.size)
  obtain ⟨bx, hsx, hbx⟩ := hrow2.sl
  have hbx' : padL l s.size = [] ∨ bx ∉ F := by
    rcases hbx with e | ⟨_, e⟩
    · exact .inl e
    · exact .inr (fun hm => by have := hF bx hm; have := k0.size; omega)
  have HW := Lib.hid (wr_any w2 lo b first p3 p9 F s (h.kept k02 (by simp)) (hx.kept2 k02 (by simp) (by simp)) 0 (by omega) ho _ bx 0 (padL l s.size) hsx hbx' (padL_bts hB _))
  have q1 := hb2.cell 1 rfl
  have q3 : w2.cell? ⟨W.heap.size, 3, none⟩ = some (.func (.func 104) #[] #[pt p3, pt p9]) := ((hb2.kept k1 (by simp)).kept k2 (by have := hb2.lt; simp; omega)).cell 3 rfl
  have K02 := Lib.hid k02
  have e1 : ((first + 0 : Nat) : Int) = (first : Int) := by simp
  rw [e1] at HW
  generalize (s.write (first : Int) (padL l s.size)).1 = L at *
  generalize (s.write (first : Int) (padL l s.size)).2 = E at *
  have t1 : (0 : Int) ≤ s.size := by omega
  have t2 : (s.size : Int) ≤ 4096 := by omega
  clear h hx hs hB hl hok hb2 k0 hi8 hz0 hz1 hz2 hrow k1 hrow2 k2 k02 hsx hbx hbx' hF e1
  go_enter Tryz.func75, Tryz.ntmps75
  go_upto_region 1 with fail
  rw [← hw0]
  clear hw0
  go_wp2_with fail
  refine HW.out.mono ?_
  rintro _ V ⟨_, rfl, ⟨rfl, hd⟩, k⟩
  have KV := Lib.hid ((K02.out.mono (S2 := F) (by simp)).trans k (fun g hg => .inl hg))
  have HD := Lib.hid hd
  clear hd k HW
  go_wp2_with fail
  go_ret
  refine ⟨_, rfl, ⟨rfl, ?_⟩, KV.out⟩
  obtain ⟨F', h1, h2⟩ := HD.out
  exact ⟨F', fun g hg => (h1 g hg).imp id (fun h => Nat.le_trans K02.out.size h), h2⟩
set_option maxHeartbeats 1000000 in
theorem wipe_no (w : World) (hg : GeoLaid w) (b : Nat) (F : List Nat) (s : DiskS) (h : DiskAt w b F s) (which e f g : Int) (hw : atWhy s which e f g ≠ 0) :
    Calls Tryz.prog 48 #[pt b, .int .i64 which, .agg #[.int .i64 e, .int .i64 f, .int .i64 g]] w (Post w [] fun r W => r = .int .i64 (atWhy s which e f g)) := by
  have HA := Lib.hid (at_no (w.alloc (.cells #[.int .i64 e, .int .i64 f, .int .i64 g] 23)) (hg.alloc _) b F s (h.kept ((Kept.refl w []).alloc _) (by simp)) which e f g hw)
  generalize atWhy s which e f g = why at *
  have t1 : (why != 0) = true := by simpa using hw
  clear h hg hw
  go_enter Tryz.func48, Tryz.ntmps48
  go_wp2_with fail
  refine HA.out.mono ?_
  rintro _ w1 ⟨_, rfl, rfl, k1⟩
  have K1 := Lib.hid (((Kept.refl w []).alloc _).trans k1 (by simp))
  clear k1 HA
  go_wp2_with fail
  go_ret
  exact ⟨_, rfl, rfl, K1.out.alloc _⟩
set_option maxHeartbeats 1000000 in
theorem wipe_yes (w : World) (hg : GeoLaid w) (b : Nat) (F : List Nat) (s : DiskS) (h : DiskAt w b F s) (hF : ∀ x, x ∈ F → nGlobals ≤ x) (ho : s.ops < 1000000000) (which e f g : Int) (hw : atWhy s which e f g = 0) :
    Calls Tryz.prog 48 #[pt b, .int .i64 which, .agg #[.int .i64 e, .int .i64 f, .int .i64 g]] w (Post w F fun r W => r = .int .i64 (s.write ((which.toNat * spanN s.size e f g : Nat) : Int) (padL [] s.size)).2 ∧ DiskOn W w.heap.size b F (s.write ((which.toNat * spanN s.size e f g : Nat) : Int) (padL [] s.size)).1) := by
  have HA := Lib.hid (at_yes (w.alloc (.cells #[.int .i64 e, .int .i64 f, .int .i64 g] 23)) (hg.alloc _) b F s (h.kept ((Kept.refl w []).alloc _) (by simp)) which e f g hw)
  obtain ⟨hr, ⟨wh0, wh1⟩, hsz, hrm⟩ := atWhy_yes hw
  have hpl : which.toNat * spanN s.size e f g ≤ 1000000 := by
    have h1 : which.toNat * spanN s.size e f g ≤ 1 * spanN s.size e f g := Nat.mul_le_mul_right _ (by omega)
    have := spanN_le s.size e f g
    omega
  generalize which.toNat * spanN s.size e f g = fst at *
  have H := Lib.hid h
  have HO := Lib.hid ho
  have HP := Lib.hid hpl
  have hlt := h.lt
  have HL := Lib.hid hlt
  clear h hg hw ho hF hpl hr hrm wh0 wh1 hsz hlt
  go_enter Tryz.func48, Tryz.ntmps48
  go_wp2_with fail
  refine HA.out.mono ?_
  rintro _ w1 ⟨_, rfl, ⟨p3, p9, rfl, hx⟩, k1⟩
  have K1 := Lib.hid (((Kept.refl w []).alloc _).trans k1 (by simp))
  have HX := Lib.hid hx
  clear k1 HA hx
  generalize spanN s.size e f g - 1 = many at *
  have HF1 := Lib.hid (first_any (w1.alloc (.cells #[.int .i64 many, .int .i64 s.size, .func (.func 102) #[] #[pt p3, pt p9], .func (.func 104) #[] #[pt p3, pt p9]] 124)) _ b fst p3 p9 F s (H.out.kept (K1.out.alloc _) (by simp)) (HX.out.kept2 ((Kept.refl w1 []).alloc _) (by simp) (by simp)) HP.out HO.out many (.slice none 0 0) 0 0 [] (Sl.nil _ _ _ _) Bts.nil (Nat.zero_le _))
  go_wp2_with fail
  refine HF1.out.mono ?_
  rintro _ V ⟨_, rfl, ⟨rfl, hd⟩, k⟩
  have KV := Lib.hid (((K1.out.alloc (.cells #[.int .i64 many, .int .i64 s.size, .func (.func 102) #[] #[pt p3, pt p9], .func (.func 104) #[] #[pt p3, pt p9]] 124)).mono (S2 := F) (by simp)).trans k (fun g hg => .inl hg))
  have HD := Lib.hid hd
  clear hd k HF1
  go_wp2_with fail
  go_ret
  refine ⟨_, rfl, ⟨rfl, ?_⟩, KV.out⟩
  obtain ⟨F', h1, h2⟩ := HD.out
  exact ⟨F', fun g hg => (h1 g hg).imp id (fun h => by have := K1.out.size; simp at h; omega), h2⟩
end Go.Proofs.YtcikhnkehglkgaaGreatDoor
