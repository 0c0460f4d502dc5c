/- PROVED: the contract of slot.Read. No conditions beyond those that each theorem states. -/
import Derived.Test.YtcikhnkehglkgaaGreatDoorSlW
import Derived.Test.YtcikhnkehglkgaaGreatDoorSlS
namespace Go.Proofs.YtcikhnkehglkgaaGreatDoor
open Go.RowKit Go.Proofs.YtcikhnkehglkgaaGreatDoorLib
set_option linter.unusedSimpArgs false
set_option linter.unusedVariables false

structure SlotR where
  st : Int
  why : Int
  seq : Int
  img : List Int
def SlotR.zero : SlotR := ⟨0, 0, 0, []⟩
/-- a slot as it is read -/
def readM (s : DiskS) (which e f g : Int) : DiskS × SlotR × Int :=
  if atWhy s which e f g ≠ 0 then (s, SlotR.zero, atWhy s which e f g) else
  if (s.read ((which.toNat * spanN s.size e f g : Nat) : Int)).2 ≠ 0 then (s.tick, SlotR.zero, (s.read ((which.toNat * spanN s.size e f g : Nat) : Int)).2) else
  if decWhy (s.read ((which.toNat * spanN s.size e f g : Nat) : Int)).1 ≠ 0 then (s.tick, ⟨0, decWhy (s.read ((which.toNat * spanN s.size e f g : Nat) : Int)).1, 0, []⟩, 0) else
  if ¬ (hd (s.read ((which.toNat * spanN s.size e f g : Nat) : Int)).1 5 = e ∧ hd (s.read ((which.toNat * spanN s.size e f g : Nat) : Int)).1 6 = f ∧ hd (s.read ((which.toNat * spanN s.size e f g : Nat) : Int)).1 7 = g) then (s.tick, ⟨1, 0, 0, []⟩, 0) else
  if (readsM s.tick (which.toNat * spanN s.size e f g + 1) (spanN s.size e f g - 1)).2.2 ≠ 0 then ((readsM s.tick (which.toNat * spanN s.size e f g + 1) (spanN s.size e f g - 1)).1, SlotR.zero, (readsM s.tick (which.toNat * spanN s.size e f g + 1) (spanN s.size e f g - 1)).2.2) else
  if sumM ((readsM s.tick (which.toNat * spanN s.size e f g + 1) (spanN s.size e f g - 1)).2.1.flatten.take (gTotal e f g)) ≠ decN (s.read ((which.toNat * spanN s.size e f g : Nat) : Int)).1 20 4 then ((readsM s.tick (which.toNat * spanN s.size e f g + 1) (spanN s.size e f g - 1)).1, ⟨0, 8, 0, []⟩, 0) else
  ((readsM s.tick (which.toNat * spanN s.size e f g + 1) (spanN s.size e f g - 1)).1, ⟨2, 0, decN (s.read ((which.toNat * spanN s.size e f g : Nat) : Int)).1 12 8, (readsM s.tick (which.toNat * spanN s.size e f g + 1) (spanN s.size e f g - 1)).2.1.flatten.take (gTotal e f g)⟩, 0)
theorem blk4 {W : World} {g T : Nat} {a0 a1 a2 a3 : Value} (h : Blk W g T [a0, a1, a2, a3]) (b0 b1 b2 b3 : Value) :
    Blk ((((W.setCell ⟨g, 0, none⟩ b0).setCell ⟨g, 1, none⟩ b1).setCell ⟨g, 2, none⟩ b2).setCell ⟨g, 3, none⟩ b3) g T [b0, b1, b2, b3] := by
  have hz := (((h.set 0 b0).set 1 b1).set 2 b2).set 3 b3
  simp only [List.set] at hz
  exact hz
theorem keptS {w W : World} {S : List Nat} (h : Kept w W S) {g : Nat} (hg : g ∈ S ∨ w.heap.size ≤ g) (b0 b1 b2 b3 : Value) :
    Kept w ((((W.setCell ⟨g, 0, none⟩ b0).setCell ⟨g, 1, none⟩ b1).setCell ⟨g, 2, none⟩ b2).setCell ⟨g, 3, none⟩ b3) S := kept4 h hg b0 b1 b2 b3
theorem diskS {W : World} {b : Nat} {F : List Nat} {s : DiskS} (h : DiskAt W b F s) {g : Nat} (hg : g ∉ F) (b0 b1 b2 b3 : Value) :
    DiskAt ((((W.setCell ⟨g, 0, none⟩ b0).setCell ⟨g, 1, none⟩ b1).setCell ⟨g, 2, none⟩ b2).setCell ⟨g, 3, none⟩ b3) b F s :=
  h.kept (S := [g]) (kept4 (Kept.refl W [g]) (.inl (by simp)) b0 b1 b2 b3) (by intro k hk; simp at hk; subst hk; exact hg)
theorem slS {W : World} {v : Value} {q o : Nat} {l : List Int} (h : Sl .u8 W v q o l) {g : Nat} (hg : l = [] ∨ q ≠ g) (b0 b1 b2 b3 : Value) :
    Sl .u8 ((((W.setCell ⟨g, 0, none⟩ b0).setCell ⟨g, 1, none⟩ b1).setCell ⟨g, 2, none⟩ b2).setCell ⟨g, 3, none⟩ b3) v q o l :=
  h.kept (S := [g]) (kept4 (Kept.refl W [g]) (.inl (by simp)) b0 b1 b2 b3) (hg.imp id (by simp))
/-- what Read answers -/
def ReadP (w : World) (b : Nat) (F : List Nat) (R : DiskS × SlotR × Int) (r : Value) (V : World) : Prop :=
  ∃ v q, r = .tuple #[.agg #[.int .i64 R.2.1.st, .int .i64 R.2.1.why, .int .u64 R.2.1.seq, v], .int .i64 R.2.2] ∧ Sl .u8 V v q 0 R.2.1.img ∧ (R.2.1.img = [] ∨ w.heap.size ≤ q) ∧ DiskAt V b F R.1
theorem readsM_sec {s : DiskS} (hs : s.Ok) {n : Nat} (ho : s.ops + n < 900000000) (at' : Nat) : ∀ x, x ∈ (readsM s at' n).2.1 → Sec s.size x := by
  induction n generalizing s at' with
  | zero => intro x hx; simp [readsM] at hx
  | succ n ih =>
    intro x hx
    rw [readsM] at hx
    split at hx
    · simp at hx
    · rename_i he
      simp only [List.mem_cons] at hx
      rcases hx with rfl | hx
      · exact read_sec hs _ (by omega)
      · exact ih (s := s.tick) (DiskS.tick_ok hs (by omega)) (by show s.ops + 1 + n < _; omega) _ x hx
theorem decWhy_ok {l : List Int} (h : decWhy l = 0) : 28 ≤ l.length ∧ decOk l = true := by
  unfold decWhy at h
  split at h
  · cases h
  split at h
  · cases h
  split at h
  · cases h
  split at h
  · cases h
  split at h
  · cases h
  rename_i h1 _ _ _ h2
  exact ⟨by omega, by simpa using h2⟩
set_option maxRecDepth 100000 in
set_option maxHeartbeats 1000000 in
theorem read_no (w : World) (hg : GeoLaid w) (b : Nat) (F : List Nat) (s : DiskS) (h : DiskAt w b F s) (which e f g : Int) (hw : atWhy s which e f g ≠ 0) :
    Calls Tryz.prog 54 #[pt b, .int .i64 which, .agg #[.int .i64 e, .int .i64 f, .int .i64 g]] w (Post w [b] (ReadP w b F (readM s which e f g))) := by
  have hb6 := Blk.top (w.alloc (.cells #[.int .i64 e, .int .i64 f, .int .i64 g] 23)) (w.heap.size + 1) (by simp) 89 [.int .i64 0, .int .i64 0, .int .u64 0, .slice none 0 0]
  have k0 : Kept w ((w.alloc (.cells #[.int .i64 e, .int .i64 f, .int .i64 g] 23)).alloc (.cells #[.int .i64 0, .int .i64 0, .int .u64 0, .slice none 0 0] 89)) [] := ((Kept.refl w []).alloc _).alloc _
  have HA := Lib.hid (at_no _ (hg.kept k0 (by simp)) b F s (h.kept k0 (by simp)) which e f g hw)
  have HEQ := Lib.hid (And.intro (show readM s which e f g = (s, SlotR.zero, atWhy s which e f g) by unfold readM; rw [if_pos hw]) trivial)
  have HLT := Lib.hid h.lt
  have H := Lib.hid h
  have K0 := Lib.hid k0
  have HB6 := Lib.hid hb6
  obtain ⟨why, hwhy⟩ : ∃ x, atWhy s which e f g = x := ⟨_, rfl⟩
  rw [hwhy] at HA HEQ hw
  have t1 : (why != 0) = true := by simpa using hw
  clear h hg hw hb6 k0 hwhy
  go_enter Tryz.func54, Tryz.ntmps54
  go_wp2_with fail
  refine HA.out.mono ?_
  rintro _ w1 ⟨_, rfl, rfl, k1⟩
  have k1a := k1.alloc (.cells #[.int .i64 0, .int .i64 0, .nilFunc, .nilFunc] 124)
  have KW := Lib.hid (K0.out.trans k1a (by simp))
  have hb6x := HB6.out.kept k1a (by simp)
  have u0 := hb6x.cell 0 rfl
  have f0 := hb6x.free 0
  have u1 := hb6x.cell 1 rfl
  have f1 := hb6x.free 1
  have u2 := hb6x.cell 2 rfl
  have f2 := hb6x.free 2
  have u3 := hb6x.cell 3 rfl
  have f3 := hb6x.free 3
  have HB6x := Lib.hid hb6x
  clear hb6x
  clear k1 k1a HA
  go_wp2_with fail
  refine bodyPost_ret (results_pair_row Tryz.results54 _ _ _ _ _ _ _ _ (by simp [go_sem]) (by simp [go_sem]; rfl) (blk4 HB6x.out (.int .i64 0) (.int .i64 0) (.int .u64 0) (.slice none 0 0)) Tryz.underlying89 rfl rfl) rfl ?_
  refine ⟨_, rfl, ?_, keptS (KW.out.mono (by simp)) (.inr (by omega)) _ _ _ _⟩
  rw [HEQ.out.1]
  refine ⟨_, _, rfl, slS (Sl.nil _ _ 0 _) (.inl rfl) _ _ _ _, .inl rfl, ?_⟩
  exact diskS (H.out.kept KW.out (by simp)) (by have h1 := HLT.out; intro hm; have := h1 _ hm; omega) _ _ _ _
set_option maxRecDepth 100000 in
set_option maxHeartbeats 4000000 in
theorem read_yes (w : World) (hg : GeoLaid w) (b : Nat) (F : List Nat) (s : DiskS) (h : DiskAt w b F s) (hF : ∀ x, x ∈ F → nGlobals ≤ x) (ho : s.ops < 800000000) (which e f g : Int) (hw : atWhy s which e f g = 0) (hsm : spanN s.size e f g ≤ 201) :
    Calls Tryz.prog 54 #[pt b, .int .i64 which, .agg #[.int .i64 e, .int .i64 f, .int .i64 g]] w (Post w [b] (ReadP w b F (readM s which e f g))) := by
  obtain ⟨w0, hw0⟩ : ∃ w0, w0 = (w.alloc (.cells #[.int .i64 e, .int .i64 f, .int .i64 g] 23)).alloc (.cells #[.int .i64 0, .int .i64 0, .int .u64 0, .slice none 0 0] 89) := ⟨_, rfl⟩
  have hb5 : Blk w0 w.heap.size 23 [.int .i64 e, .int .i64 f, .int .i64 g] := by rw [hw0]; exact (Blk.new _ _ _).alloc _
  have hb6 : Blk w0 (w.heap.size + 1) 89 [.int .i64 0, .int .i64 0, .int .u64 0, .slice none 0 0] := by rw [hw0]; exact Blk.top _ _ (by simp) _ _
  have k0 : Kept w w0 [] := by rw [hw0]; exact ((Kept.refl w []).alloc _).alloc _
  have hlt := h.lt
  have hbF := hlt b h.fb
  have hgb := hF b h.fb
  have hok := h.ok
  obtain ⟨hr, _, hsz, _⟩ := atWhy_yes hw
  have hsp1 := spanN_pos hok.s2 hw
  have HA := Lib.hid (at_yes w0 (hg.kept k0 (by simp)) b F s (h.kept k0 (by simp)) which e f g hw)
  have hpl : which.toNat * spanN s.size e f g ≤ 200000 := slot_room hw
  have htot : gTotal e f g ≤ (spanN s.size e f g - 1) * s.size := by
    have e1 : spanN s.size e f g = 1 + secs (gTotal e f g) s.size := by unfold spanN; rw [if_pos ⟨hr, by omega, by have := hok.s2; omega⟩]; rfl
    rw [e1, Nat.add_sub_cancel_left]
    exact secs_fits _ _ hok.s1
  have hEQ : readM s which e f g = readM s which e f g := rfl
  have hsec := read_sec hok ((which.toNat * spanN s.size e f g : Nat) : Int)
  conv at hEQ => rhs; unfold readM
  rw [if_neg (by simp [hw])] at hEQ
  generalize hRM : readM s which e f g = RM at *
  generalize which.toNat * spanN s.size e f g = fst at *
  generalize hmn : spanN s.size e f g - 1 = m at *
  have hm200 : m ≤ 200 := by omega
  have HG := Lib.hid hg
  have H := Lib.hid h
  have HLT := Lib.hid (fun x hx => hlt x hx)
  have K0 := Lib.hid k0
  have HB6 := Lib.hid hb6
  have HB5 := Lib.hid hb5
  have HN := Lib.hid (And.intro hpl (And.intro ho (And.intro htot hm200)))
  have HBF := Lib.hid (And.intro hbF hgb)
  have HSEC := Lib.hid hsec
  generalize hR : s.read (fst : Int) = R at *
  have HRR := Lib.hid (And.intro hR trivial)
  have HEQ := Lib.hid (And.intro hEQ trivial)
  clear h hg hw hb5 hb6 k0 hlt hbF hgb hok hr hsz hsp1 hpl htot hEQ hsm ho hF hmn hm200 hsec hR hRM
  go_enter Tryz.func54, Tryz.ntmps54
  go_upto_region 1 with fail
  rw [← hw0]
  clear hw0
  have g0 := HB5.out.cell 0 rfl
  have g1 := HB5.out.cell 1 rfl
  have g2 := HB5.out.cell 2 rfl
  go_wp2_with fail
  refine HA.out.mono ?_
  rintro _ w1 ⟨_, rfl, ⟨p3, p9, rfl, hx⟩, k1⟩
  obtain ⟨wb, hwb⟩ : ∃ wb, wb = w1.alloc (.cells #[.int .i64 m, .int .i64 s.size, .func (.func 102) #[] #[pt p3, pt p9], .func (.func 104) #[] #[pt p3, pt p9]] 124) := ⟨_, rfl⟩
  have kb1 : Kept w1 wb [] := by rw [hwb]; exact (Kept.refl w1 []).alloc _
  have hbp : Blk wb w1.heap.size 124 [.int .i64 m, .int .i64 s.size, .func (.func 102) #[] #[pt p3, pt p9], .func (.func 104) #[] #[pt p3, pt p9]] := by rw [hwb]; exact Blk.new _ _ _
  have KB := Lib.hid (k1.trans kb1 (by simp))
  have HX := Lib.hid (hx.kept2 kb1 (by simp) (by simp))
  have HBP := Lib.hid hbp
  have SZ := Lib.hid (And.intro K0.out.size (And.intro k1.size kb1.size))
  have d2 := hbp.cell 2 rfl
  clear k1 hx kb1 hbp HA
  go_upto_region 2 with fail
  rw [← hwb]
  clear hwb
  have HRD := Lib.hid (rd_any wb _ b fst p3 p9 F s (H.out.kept (K0.out.trans KB.out (by simp)) (by simp)) HX.out 0 (by have := HN.out.1; omega) (by have := HN.out.2.1; omega))
  rw [show ((fst + 0 : Nat) : Int) = (fst : Int) by simp, HRR.out.1] at HRD
  by_cases he : R.2 ≠ 0
  · have te : (R.2 != 0) = true := by simpa using he
    have heq := HEQ.out.1
    rw [if_pos he] at heq
    have HE := Lib.hid (And.intro heq trivial)
    clear he heq
    go_wp2_with fail
    refine HRD.out.mono ?_
    rintro _ w2 ⟨_, rfl, ⟨rv, rfl, hrv, hdv⟩, k2⟩
    have HDV := Lib.hid hdv
    have KW := Lib.hid (((K0.out.trans KB.out (by simp)).mono (S2 := [b]) (by simp)).trans k2 (fun x hx => .inl hx))
    have hb6x := (HB6.out.kept KB.out (by simp)).kept k2 (by have := HBF.out.1; simp; omega)
    have u0 := hb6x.cell 0 rfl
    have f0 := hb6x.free 0
    have u1 := hb6x.cell 1 rfl
    have f1 := hb6x.free 1
    have u2 := hb6x.cell 2 rfl
    have f2 := hb6x.free 2
    have u3 := hb6x.cell 3 rfl
    have f3 := hb6x.free 3
    have HB6x := Lib.hid hb6x
    clear hb6x
    clear hrv hdv k2 HRD
    go_wp2_with fail
    refine bodyPost_ret (results_pair_row Tryz.results54 _ _ _ _ _ _ _ _ (by simp [go_sem]) (by simp [go_sem]; rfl) (blk4 HB6x.out (.int .i64 0) (.int .i64 0) (.int .u64 0) (.slice none 0 0)) Tryz.underlying89 rfl rfl) rfl ?_
    refine ⟨_, rfl, ?_, keptS (KW.out) (.inr (by omega)) _ _ _ _⟩
    rw [HE.out.1]
    refine ⟨_, _, rfl, slS (Sl.nil _ _ 0 _) (.inl rfl) _ _ _ _, .inl rfl, ?_⟩
    exact diskS (HDV.out) (by have h1 := HLT.out; intro hm; have := h1 _ hm; omega) _ _ _ _
  have he0 : R.2 = 0 := by
    by_cases e0 : R.2 = 0
    · exact e0
    · exact absurd e0 he
  have te : (R.2 != 0) = false := by simpa using he0
  have heq := HEQ.out.1
  rw [if_neg he] at heq
  have HEQ1 := Lib.hid (And.intro heq trivial)
  have HSC := Lib.hid (HSEC.out he0)
  have HE0 := Lib.hid (And.intro he0 trivial)
  clear he heq HEQ he0
  go_wp2_with fail
  refine HRD.out.mono ?_
  rintro _ w2 ⟨_, rfl, ⟨rv, rfl, hrv, hdv⟩, k2⟩
  obtain ⟨brv, hsrv, _⟩ := hrv.sl
  have kw2 := ((K0.out.trans KB.out (by simp)).mono (S2 := [b]) (by simp)).trans k2 (fun x hx => .inl hx)
  have HDC := Lib.hid (decode_any w2 (HG.out.kept kw2 (by intro x hx; simp at hx; subst hx; exact HBF.out.2)) rv brv 0 R.1 hsrv HSC.out.2)
  have HDV := Lib.hid hdv
  have KW2 := Lib.hid kw2
  have K2 := Lib.hid k2
  clear hrv hdv k2 HRD hsrv kw2
  by_cases hdw : decWhy R.1 ≠ 0
  · have tw : (decWhy R.1 != 0) = true := by simpa using hdw
    have heq := HEQ1.out.1
    rw [if_pos hdw] at heq
    have HE := Lib.hid (And.intro heq trivial)
    rw [show decV R.1 = headV 0 0 0 0 0 0 by unfold decV; rw [if_neg hdw]] at HDC
    generalize decWhy R.1 = dw at *
    clear hdw heq
    go_wp2_with fail
    refine HDC.out.mono ?_
    rintro _ w3 ⟨_, rfl, rfl, k3⟩
    have k3a := k3.alloc (.cells #[.int .i64 0, .int .i64 0, .int .i64 0, .int .i64 0, .int .u64 0, .int .u32 0] 108)
    have KW := Lib.hid (KW2.out.trans k3a (by simp))
    have HDV3 := Lib.hid (HDV.out.kept k3a (by simp))
    have hb6x := ((HB6.out.kept KB.out (by simp)).kept K2.out (by have := HBF.out.1; simp; omega)).kept k3a (by simp)
    have u0 := hb6x.cell 0 rfl
    have f0 := hb6x.free 0
    have u1 := hb6x.cell 1 rfl
    have f1 := hb6x.free 1
    have u2 := hb6x.cell 2 rfl
    have f2 := hb6x.free 2
    have u3 := hb6x.cell 3 rfl
    have f3 := hb6x.free 3
    have HB6x := Lib.hid hb6x
    clear hb6x
    clear k3 k3a HDC
    go_wp2_with fail
    refine bodyPost_ret (results_pair_row Tryz.results54 _ _ _ _ _ _ _ _ (by simp [go_sem]) (by simp [go_sem]; rfl) (blk4 HB6x.out (.int .i64 0) (.int .i64 dw) (.int .u64 0) (.slice none 0 0)) Tryz.underlying89 rfl rfl) rfl ?_
    refine ⟨_, rfl, ?_, keptS (KW.out) (.inr (by omega)) _ _ _ _⟩
    rw [HE.out.1]
    refine ⟨_, _, rfl, slS (Sl.nil _ _ 0 _) (.inl rfl) _ _ _ _, .inl rfl, ?_⟩
    exact diskS (HDV3.out) (by have h1 := HLT.out; intro hm; have := h1 _ hm; omega) _ _ _ _
  have hdw0 : decWhy R.1 = 0 := by
    by_cases e0 : decWhy R.1 = 0
    · exact e0
    · exact absurd e0 hdw
  have hdok := decWhy_ok hdw0
  rw [show decV R.1 = headV (hd R.1 5) (hd R.1 6) (hd R.1 7) (decN R.1 8 4) (decN R.1 12 8) (decN R.1 20 4) by unfold decV; rw [if_pos hdw0], hdw0] at HDC
  have heq := HEQ1.out.1
  rw [if_neg hdw] at heq
  have hlen8 : decN R.1 8 4 = gTotal (hd R.1 5) (hd R.1 6) (hd R.1 7) := by
    have := hdok.2
    unfold decOk at this
    simp only [Bool.and_eq_true, decide_eq_true_eq] at this
    exact this.2
  have HL8 := Lib.hid (And.intro hlen8 trivial)
  have h20 : 0 ≤ decN R.1 20 4 ∧ decN R.1 20 4 ≤ 4294967295 := by
    have h1 := takeM_bd ((R.1.drop 20).take 4) ((HSC.out.2.drop _).take _)
    have h2 : ((R.1.drop 20).take 4).length = 4 := by have := hdok.1; simp; omega
    have p4 : (256 : Int) ^ 4 = 4294967296 := by decide
    rw [h2, p4] at h1
    unfold decN
    omega
  generalize hd R.1 5 = x5 at *
  generalize hd R.1 6 = x6 at *
  generalize hd R.1 7 = x7 at *
  generalize decN R.1 8 4 = N8 at *
  generalize decN R.1 12 8 = N12 at *
  generalize decN R.1 20 4 = N20 at *
  have HEQ2 := Lib.hid (And.intro heq trivial)
  have HQ5 := Lib.hid (HB5.out)
  clear hdw heq hdw0 hdok hlen8 HEQ1
  go_wp2_with fail
  refine HDC.out.mono ?_
  rintro _ w3 ⟨_, rfl, rfl, k3⟩
  obtain ⟨wd, hwd⟩ : ∃ wd, wd = w3.alloc (.cells #[.int .i64 x5, .int .i64 x6, .int .i64 x7, .int .i64 N8, .int .u64 N12, .int .u32 N20] 108) := ⟨_, rfl⟩
  have kd3 : Kept w3 wd [] := by rw [hwd]; exact (Kept.refl w3 []).alloc _
  have hbh : Blk wd w3.heap.size 108 [.int .i64 x5, .int .i64 x6, .int .i64 x7, .int .i64 N8, .int .u64 N12, .int .u32 N20] := by rw [hwd]; exact Blk.new _ _ _
  have kbd : Kept wb wd [b] := (K2.out.trans k3 (by simp)).trans kd3 (by simp)
  have HDD := Lib.hid ((HDV.out.kept k3 (by simp)).kept kd3 (by simp))
  have KBD := Lib.hid kbd
  have KWD := Lib.hid ((KW2.out.trans k3 (by simp)).trans kd3 (by simp))
  have HBH := Lib.hid hbh
  have hq5 := (HB5.out.kept KB.out (by simp)).kept kbd (by have := HBF.out.1; simp; omega)
  have g0 := hq5.cell 0 rfl
  have g1 := hq5.cell 1 rfl
  have g2 := hq5.cell 2 rfl
  have h0 := hbh.cell 0 rfl
  have h1 := hbh.cell 1 rfl
  have h2 := hbh.cell 2 rfl
  have h3 := hbh.cell 3 rfl
  have HB6D := Lib.hid ((HB6.out.kept KB.out (by simp)).kept kbd (by have := HBF.out.1; simp; omega))
  have HSZD := Lib.hid (And.intro K2.out.size (And.intro k3.size kd3.size))
  clear k3 kd3 hbh kbd hq5 HDC
  go_upto_region 8 with fail
  rw [← hwd]
  clear hwd
  by_cases hgm : ¬ (x5 = e ∧ x6 = f ∧ x7 = g)
  · have heq := HEQ2.out.1
    rw [if_pos hgm] at heq
    have HE := Lib.hid (And.intro heq trivial)
    have HGM := Lib.hid (And.intro hgm trivial)
    clear heq hgm
    have hb6x := HB6D.out
    have u0 := hb6x.cell 0 rfl
    have f0 := hb6x.free 0
    have u1 := hb6x.cell 1 rfl
    have f1 := hb6x.free 1
    have u2 := hb6x.cell 2 rfl
    have f2 := hb6x.free 2
    have u3 := hb6x.cell 3 rfl
    have f3 := hb6x.free 3
    have HB6x := Lib.hid hb6x
    clear hb6x
    clear HEQ2 h20 h3 d2 te
    by_cases a5 : x5 = e
    · subst a5
      by_cases a6 : x6 = f
      · subst a6
        by_cases a7 : x7 = g
        · exact absurd ⟨rfl, rfl, a7⟩ HGM.out.1
        · have b7 : (x7 == g) = false := by simpa using a7
          go_wp2_with fail
          refine bodyPost_ret (results_pair_row Tryz.results54 _ _ _ _ _ _ _ _ (by simp [go_sem]) (by simp [go_sem]; rfl) (blk4 HB6x.out (.int .i64 1) (.int .i64 0) (.int .u64 0) (.slice none 0 0)) Tryz.underlying89 rfl rfl) rfl ?_
          refine ⟨_, rfl, ?_, keptS (KWD.out) (.inr (by omega)) _ _ _ _⟩
          rw [HE.out.1]
          refine ⟨_, _, rfl, slS (Sl.nil _ _ 0 _) (.inl rfl) _ _ _ _, .inl rfl, ?_⟩
          exact diskS (HDD.out) (by have h1 := HLT.out; intro hm; have := h1 _ hm; omega) _ _ _ _
      · have b6 : (x6 == f) = false := by simpa using a6
        go_wp2_with fail
        refine bodyPost_ret (results_pair_row Tryz.results54 _ _ _ _ _ _ _ _ (by simp [go_sem]) (by simp [go_sem]; rfl) (blk4 HB6x.out (.int .i64 1) (.int .i64 0) (.int .u64 0) (.slice none 0 0)) Tryz.underlying89 rfl rfl) rfl ?_
        refine ⟨_, rfl, ?_, keptS (KWD.out) (.inr (by omega)) _ _ _ _⟩
        rw [HE.out.1]
        refine ⟨_, _, rfl, slS (Sl.nil _ _ 0 _) (.inl rfl) _ _ _ _, .inl rfl, ?_⟩
        exact diskS (HDD.out) (by have h1 := HLT.out; intro hm; have := h1 _ hm; omega) _ _ _ _
    · have b5 : (x5 == e) = false := by simpa using a5
      go_wp2_with fail
      refine bodyPost_ret (results_pair_row Tryz.results54 _ _ _ _ _ _ _ _ (by simp [go_sem]) (by simp [go_sem]; rfl) (blk4 HB6x.out (.int .i64 1) (.int .i64 0) (.int .u64 0) (.slice none 0 0)) Tryz.underlying89 rfl rfl) rfl ?_
      refine ⟨_, rfl, ?_, keptS (KWD.out) (.inr (by omega)) _ _ _ _⟩
      rw [HE.out.1]
      refine ⟨_, _, rfl, slS (Sl.nil _ _ 0 _) (.inl rfl) _ _ _ _, .inl rfl, ?_⟩
      exact diskS (HDD.out) (by have h1 := HLT.out; intro hm; have := h1 _ hm; omega) _ _ _ _
  have hgm1 : x5 = e ∧ x6 = f ∧ x7 = g := by
    by_cases e0 : x5 = e ∧ x6 = f ∧ x7 = g
    · exact e0
    · exact absurd e0 hgm
  obtain ⟨rfl, rfl, rfl⟩ := hgm1
  have heq := HEQ2.out.1
  rw [if_neg hgm] at heq
  have hn8 := HL8.out.1
  subst hn8
  obtain ⟨tot, htot⟩ : ∃ t, gTotal x5 x6 x7 = t := ⟨_, rfl⟩
  have hn3 := HN.out.2.2.1
  rw [htot] at heq HBH h3 hn3
  have hbk : 0 < s.size ∧ p3 ≠ b ∧ p9 ≠ b := by
    have h1 := HX.out.l3
    have h2 := HX.out.l9
    have h3 := K0.out.size
    have h4 := HBF.out.1
    have h5 := H.out.ok.s1
    omega
  have htk : (s.tick).size = s.size := rfl
  have HWH := Lib.hid (fun W' (k : Kept wd W' []) => whole_any W' w0.heap.size b fst p3 p9 F s.tick (HDD.out.kept k (by simp)) ((HX.out.kept2 KBD.out (by simp; exact hbk.2.1) (by simp; exact hbk.2.2)).kept2 k (by simp) (by simp)) m tot HN.out.2.2.2 (by have := HN.out.1; omega) (by show s.ops + 1 < _; have := HN.out.2.1; omega) hbk.2.1 hbk.2.2 hn3)
  rw [htk] at HWH
  have hbp2 := HBP.out.kept KBD.out (by have := HBF.out.1; have := SZ.out; simp; omega)
  have j0 := hbp2.cell 0 rfl
  have j1 := hbp2.cell 1 rfl
  have j2 := hbp2.cell 2 rfl
  have j3 := hbp2.cell 3 rfl
  have HWW := Lib.hid (HWH.out wd (Kept.refl _ _))
  have hbts : Bts ((readsM s.tick (fst + 1) m).2.1.flatten.take tot) := (flatten_bts (size := s.size) (readsM_sec (DiskS.tick_ok H.out.ok (by have := HN.out.2.1; omega)) (by show s.ops + 1 + m < _; have := HN.out; omega) (fst + 1))).take _
  have HBTS := Lib.hid hbts
  clear hbts
  generalize readsM s.tick (fst + 1) m = Q at *
  have HEQ3 := Lib.hid (And.intro heq trivial)
  have HNB := Lib.hid (And.intro hbk.1 hn3)
  clear heq HEQ2 hgm HL8 hn3 hbk htk hbp2 HWH
  by_cases hq : Q.2.2 ≠ 0
  · have tq : (Q.2.2 != 0) = true := by simpa using hq
    have heq := HEQ3.out.1
    rw [if_pos hq] at heq
    have HE := Lib.hid (And.intro heq trivial)
    clear heq hq
    go_wp2_with fail
    refine HWW.out.mono ?_
    rintro _ w4 ⟨_, rfl, ⟨vi, rfl, hd4, _⟩, k4⟩
    have HD4 := Lib.hid hd4
    have KW := Lib.hid (KWD.out.trans k4 (fun x hx => .inl hx))
    have hb6x := HB6D.out.kept k4 (by have := HBF.out.1; simp; omega)
    have u0 := hb6x.cell 0 rfl
    have f0 := hb6x.free 0
    have u1 := hb6x.cell 1 rfl
    have f1 := hb6x.free 1
    have u2 := hb6x.cell 2 rfl
    have f2 := hb6x.free 2
    have u3 := hb6x.cell 3 rfl
    have f3 := hb6x.free 3
    have HB6x := Lib.hid hb6x
    clear hb6x
    clear hd4 k4 HWW
    go_wp2_with fail
    refine bodyPost_ret (results_pair_row Tryz.results54 _ _ _ _ _ _ _ _ (by simp [go_sem]) (by simp [go_sem]; rfl) (blk4 HB6x.out (.int .i64 0) (.int .i64 0) (.int .u64 0) (.slice none 0 0)) Tryz.underlying89 rfl rfl) rfl ?_
    refine ⟨_, rfl, ?_, keptS (KW.out) (.inr (by omega)) _ _ _ _⟩
    rw [HE.out.1]
    refine ⟨_, _, rfl, slS (Sl.nil _ _ 0 _) (.inl rfl) _ _ _ _, .inl rfl, ?_⟩
    exact diskS (HD4.out) (by have h1 := HLT.out; intro hm; have := h1 _ hm; omega) _ _ _ _
  have hq0 : Q.2.2 = 0 := by
    by_cases e0 : Q.2.2 = 0
    · exact e0
    · exact absurd e0 hq
  have tq : (Q.2.2 != 0) = false := by simpa using hq0
  have heq := HEQ3.out.1
  rw [if_neg hq] at heq
  have HQ0 := Lib.hid (And.intro hq0 trivial)
  have HEQ4 := Lib.hid (And.intro heq trivial)
  clear heq hq hq0 HEQ3
  go_wp2_with fail
  refine HWW.out.mono ?_
  rintro _ w4 ⟨_, rfl, ⟨vi, rfl, hd4, hs4⟩, k4⟩
  obtain ⟨gi, hsl, hgi⟩ := hs4 HQ0.out.1
  have HD4 := Lib.hid hd4
  have KW := Lib.hid (KWD.out.trans k4 (fun x hx => .inl hx))
  have hbt : Bts (Q.2.1.flatten.take tot) := HBTS.out
  clear hs4
  generalize Q.2.1.flatten.take tot = X at *
  have HSL := Lib.hid hsl
  obtain ⟨Ai, ci, evi⟩ := hsl.form
  have HSUM := Lib.hid (fun n => sum_q (w4.drewN n) vi gi 0 _ (hsl.drewN n) hbt)
  subst evi
  have hh4 := HBH.out.kept k4 (by have := HBF.out.1; have := SZ.out; have := HSZD.out; simp; omega)
  have n5 := hh4.cell 5 rfl
  have n2 := hh4.cell 4 rfl
  have n5d : ∀ n, (w4.drewN n).cell? ⟨w3.heap.size, 5, none⟩ = some (.int .u32 N20) := fun n => n5
  have HGI := Lib.hid hgi
  have hb6x := HB6D.out.kept k4 (by have := HBF.out.1; simp; omega)
  have u0 := hb6x.cell 0 rfl
  have f0 := hb6x.free 0
  have u1 := hb6x.cell 1 rfl
  have f1 := hb6x.free 1
  have u2 := hb6x.cell 2 rfl
  have f2 := hb6x.free 2
  have u3 := hb6x.cell 3 rfl
  have f3 := hb6x.free 3
  have HB6x := Lib.hid hb6x
  clear hb6x
  clear hd4 k4 HWW hsl hbt hh4 hgi
  by_cases hsu : sumM (X) ≠ N20
  · have ts : (sumM (X) != N20) = true := by simpa using hsu
    have heq := HEQ4.out.1
    rw [if_pos hsu] at heq
    have HE := Lib.hid (And.intro heq trivial)
    generalize sumM (X) = su at *
    clear heq hsu
    go_wp2_with fail
    go_quiet (first | (go_at_call 87; exact quiet_same (HSUM.out _)))
    go_wp2_with fail
    refine bodyPost_ret (results_pair_row Tryz.results54 _ _ _ _ _ _ _ _ (by simp [go_sem]) (by simp [go_sem]; rfl) (blk4 (HB6x.out.drewN _) (.int .i64 0) (.int .i64 8) (.int .u64 0) (.slice none 0 0)) Tryz.underlying89 rfl rfl) rfl ?_
    refine ⟨_, rfl, ?_, keptS (KW.out.drewN _) (.inr (by omega)) _ _ _ _⟩
    rw [HE.out.1]
    refine ⟨_, _, rfl, slS (Sl.nil _ _ 0 _) (.inl rfl) _ _ _ _, .inl rfl, ?_⟩
    exact diskS (HD4.out.kept ((Kept.refl _ []).drewN _) (by simp)) (by have h1 := HLT.out; intro hm; have := h1 _ hm; omega) _ _ _ _
  have hsu0 : sumM (X) = N20 := by
    by_cases e0 : sumM (X) = N20
    · exact e0
    · exact absurd e0 hsu
  have ts : (sumM (X) != N20) = false := by simpa using hsu0
  have heq := HEQ4.out.1
  rw [if_neg hsu] at heq
  have HE := Lib.hid (And.intro heq trivial)
  generalize sumM (X) = su at *
  clear heq hsu hsu0
  go_wp2_with fail
  go_quiet (first | (go_at_call 87; exact quiet_same (HSUM.out _)))
  go_wp2_with fail
  refine bodyPost_ret (results_pair_row Tryz.results54 _ _ _ _ _ _ _ _ (by simp [go_sem]) (by simp [go_sem]; rfl) (blk4 (HB6x.out.drewN _) (.int .i64 2) (.int .i64 0) (.int .u64 N12) (.slice Ai X.length ci)) Tryz.underlying89 rfl rfl) rfl ?_
  refine ⟨_, rfl, ?_, keptS (KW.out.drewN _) (.inr (by omega)) _ _ _ _⟩
  rw [HE.out.1]
  refine ⟨_, _, rfl, slS (HSL.out.drewN _) (.inr (by have h1 := HGI.out; have h2 := HSZD.out; have h3 := SZ.out; have h4 := HB6.out.lt; omega)) _ _ _ _, .inr (by have h1 := HGI.out; have h2 := HSZD.out; have h3 := SZ.out; omega), ?_⟩
  exact diskS (HD4.out.kept ((Kept.refl _ []).drewN _) (by simp)) (by have h1 := HLT.out; intro hm; have := h1 _ hm; omega) _ _ _ _
end Go.Proofs.YtcikhnkehglkgaaGreatDoor
