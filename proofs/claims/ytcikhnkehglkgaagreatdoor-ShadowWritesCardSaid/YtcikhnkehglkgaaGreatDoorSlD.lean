/- PROVED: the contract of head.Decode. No conditions beyond those that each theorem states. -/
import Derived.Test.YtcikhnkehglkgaaGreatDoorSlEn
import Derived.Laws.BytesArg
import Derived.Deep.CutRange
import Derived.Deep.RegionHeld3
namespace Go.Proofs.YtcikhnkehglkgaaGreatDoor
open Go.RowKit Go.Proofs.YtcikhnkehglkgaaGreatDoorLib
set_option linter.unusedSimpArgs false
set_option linter.unusedVariables false

theorem results_pair_row {P : Program} {fn : Func} {p q : Tmp} {ty : TypeId} (h : fn.results = #[.cell p ty, .tmp q]) (tmps : Array Value) (w : World) (g : Nat) (t : TypeId) (cs : Array Value) (fr : Nat × Nat) (d : TypeDesc) (u : Value)
    (hp : tmps.getD p undef = .pointer (some ⟨g, 0, none⟩)) (hq : tmps.getD q undef = u) (hg : w.heap[g]? = some (.cells cs t fr))
    (hu : P.underlying ty = some d) (hd : (match d with | .struct _ | .array _ _ => true | _ => false) = true) (hi : (P.info? ty).map (·.size) = some cs.size) :
    (results fn tmps).run P w = .ok (.tuple #[.agg cs, u]) w := by
  have hp' : tmps[p]?.getD undef = .pointer (some ⟨g, 0, none⟩) := by simpa using hp
  have hq' : tmps[q]?.getD undef = u := by simpa using hq
  simp [results, h, hp', hq', asAddr, run_loadVar_row w g t ty cs fr d hg hu hd hi]

theorem open_world {P : Program} {C : Code} {Q : Exit → Act → World → Prop} {a : Act} {W : World} (R : World → Prop) (h : R W) (k : ∀ w, R w → C.wp P Q a w) : C.wp P Q a W := k W h
abbrev headV (e f s len seq sum : Int) : Value := .agg #[.int .i64 e, .int .i64 f, .int .i64 s, .int .i64 len, .int .u64 seq, .int .u32 sum]
def hd (l : List Int) (i : Nat) : Int := l[i]?.getD 0
def decN (l : List Int) (a n : Nat) : Int := takeM ((l.drop a).take n)
def decOk (l : List Int) : Bool := gRight (hd l 5) (hd l 6) (hd l 7) && decide (decN l 8 4 = gTotal (hd l 5) (hd l 6) (hd l 7))
def decWhy (l : List Int) : Int :=
  if l.length < 28 then 5 else if l.take 4 ≠ [75, 69, 69, 80] then 6 else if hd l 4 ≠ 1 then 7 else if sumM (l.take 24) ≠ decN l 24 4 then 8 else if decOk l = false then 9 else 0
def decV (l : List Int) : Value := if decWhy l = 0 then headV (hd l 5) (hd l 6) (hd l 7) (decN l 8 4) (decN l 12 8) (decN l 20 4) else headV 0 0 0 0 0 0
theorem eight (l : List Int) (h : 8 ≤ l.length) : ∃ x0 x1 x2 x3 x4 x5 x6 x7 l', l = x0 :: x1 :: x2 :: x3 :: x4 :: x5 :: x6 :: x7 :: l' := by
  obtain _ | ⟨x0, l⟩ := l
  · simp at h
  obtain _ | ⟨x1, l⟩ := l
  · simp at h
  obtain _ | ⟨x2, l⟩ := l
  · simp at h
  obtain _ | ⟨x3, l⟩ := l
  · simp at h
  obtain _ | ⟨x4, l⟩ := l
  · simp at h
  obtain _ | ⟨x5, l⟩ := l
  · simp at h
  obtain _ | ⟨x6, l⟩ := l
  · simp at h
  obtain _ | ⟨x7, l⟩ := l
  · simp at h
  exact ⟨x0, x1, x2, x3, x4, x5, x6, x7, l, rfl⟩
theorem magic_eq (x0 x1 x2 x3 : Int) (h0 : 0 ≤ x0 ∧ x0 ≤ 255) (h1 : 0 ≤ x1 ∧ x1 ≤ 255) (h2 : 0 ≤ x2 ∧ x2 ≤ 255) (h3 : 0 ≤ x3 ∧ x3 ≤ 255) :
    ((strOfNums [x0, x1, x2, x3]).toList == [75, 69, 69, 80]) = decide ([x0, x1, x2, x3] = [75, 69, 69, 80]) := by
  have hb : ∀ (x : Int) (n : Nat), 0 ≤ x ∧ x ≤ 255 → n < 256 → (UInt8.ofNat x.toNat = UInt8.ofNat n ↔ x = n) := by
    intro x n hx hn
    constructor
    · intro h
      have := congrArg UInt8.toNat h
      simp at this
      omega
    · intro h; rw [h]; rfl
  have e : (strOfNums [x0, x1, x2, x3]).toList = [UInt8.ofNat x0.toNat, UInt8.ofNat x1.toNat, UInt8.ofNat x2.toNat, UInt8.ofNat x3.toNat] := by
    rw [ByteArray.toList_eq]; rfl
  rw [e, Bool.eq_iff_iff]
  have a0 := hb x0 75 h0 (by omega)
  have a1 := hb x1 69 h1 (by omega)
  have a2 := hb x2 69 h2 (by omega)
  have a3 := hb x3 80 h3 (by omega)
  simp only [beq_iff_eq, List.cons.injEq, and_true, decide_eq_true_eq]
  exact and_congr a0 (and_congr a1 (and_congr a2 a3))
theorem blk6 {W : World} {g : Nat} {a0 a1 a2 a3 a4 a5 : Value} (h : Blk W g 108 [a0, a1, a2, a3, a4, a5]) (e f s len seq sum : Int) :
    Blk ((((((W.setCell ⟨g, 0, none⟩ (.int .i64 e)).setCell ⟨g, 1, none⟩ (.int .i64 f)).setCell ⟨g, 2, none⟩ (.int .i64 s)).setCell ⟨g, 3, none⟩ (.int .i64 len)).setCell ⟨g, 4, none⟩ (.int .u64 seq)).setCell ⟨g, 5, none⟩ (.int .u32 sum)) g 108 [.int .i64 e, .int .i64 f, .int .i64 s, .int .i64 len, .int .u64 seq, .int .u32 sum] := by
  have hz := (((((h.set 0 (.int .i64 e)).set 1 (.int .i64 f)).set 2 (.int .i64 s)).set 3 (.int .i64 len)).set 4 (.int .u64 seq)).set 5 (.int .u32 sum)
  simp only [List.set] at hz
  exact hz
theorem kept6 {w W : World} {S : List Nat} (h : Kept w W S) {g : Nat} (hg : g ∈ S ∨ w.heap.size ≤ g) (e f s len seq sum : Int) :
    Kept w ((((((W.setCell ⟨g, 0, none⟩ (.int .i64 e)).setCell ⟨g, 1, none⟩ (.int .i64 f)).setCell ⟨g, 2, none⟩ (.int .i64 s)).setCell ⟨g, 3, none⟩ (.int .i64 len)).setCell ⟨g, 4, none⟩ (.int .u64 seq)).setCell ⟨g, 5, none⟩ (.int .u32 sum)) S :=
  (((((h.setCell (p := ⟨g, 0, none⟩) hg _).setCell (p := ⟨g, 1, none⟩) hg _).setCell (p := ⟨g, 2, none⟩) hg _).setCell (p := ⟨g, 3, none⟩) hg _).setCell (p := ⟨g, 4, none⟩) hg _).setCell (p := ⟨g, 5, none⟩) hg _
set_option maxRecDepth 100000 in
set_option maxHeartbeats 1000000 in
theorem decode_any (w : World) (hg : GeoLaid w) (v : Value) (b off : Nat) (l : List Int) (h : Sl .u8 w v b off l) (hB : Bts l) :
    Calls Tryz.prog 85 #[v] w (Post w [] fun r W => r = .tuple #[decV l, .int .i64 (decWhy l)]) := by
  have L1 := h.len
  unfold maxLen at L1
  have l0 : (0 : Int) ≤ l.length := by omega
  have l1 : (l.length : Int) ≤ 9223372036854775807 := by omega
  have hz0 := Blk.new w 108 [.int .i64 0, .int .i64 0, .int .i64 0, .int .i64 0, .int .u64 0, .int .u32 0]
  have k0 : Kept w (w.alloc (.cells #[.int .i64 0, .int .i64 0, .int .i64 0, .int .i64 0, .int .u64 0, .int .u32 0] 108)) [] := (Kept.refl w []).alloc _
  have HZ := Lib.hid hz0
  have KZ := Lib.hid k0
  clear hz0 k0
  by_cases hs : l.length < 28
  · have e1 : decWhy l = 5 := by unfold decWhy; rw [if_pos hs]
    have e2 : decV l = headV 0 0 0 0 0 0 := by unfold decV; rw [e1]; rfl
    rw [e1, e2]
    obtain ⟨A1, c1, ev⟩ := h.form
    subst ev
    have hs' : (l.length : Int) < 28 := by omega
    clear h hB hs e1 e2 hg
    go_enter Tryz.func85, Tryz.ntmps85
    go_wp2_with fail
    refine bodyPost_ret (results_pair_row Tryz.results85 _ _ _ _ _ _ _ _ (by simp [go_sem]) (by simp [go_sem]; rfl) HZ.out Tryz.underlying108 rfl rfl) rfl ?_
    exact ⟨_, rfl, rfl, KZ.out⟩
  have hs28 : 28 ≤ l.length := by omega
  obtain ⟨x0, x1, x2, x3, x4, x5, x6, x7, l', hl'⟩ : ∃ x0 x1 x2 x3 x4 x5 x6 x7 l', l = x0 :: x1 :: x2 :: x3 :: x4 :: x5 :: x6 :: x7 :: l' := eight l (by omega)
  obtain ⟨cc, ev⟩ := h.at (by intro e; rw [e] at hs28; simp at hs28)
  have hcap : l.length ≤ cc ∧ cc ≤ maxLen := by
    obtain ⟨A, c, e, a1, a2, _⟩ := h
    rw [ev] at e
    simp only [Value.slice.injEq] at e
    omega
  unfold maxLen at hcap
  subst ev
  have hc0 := hcap.1
  have hc1 := hcap.2
  have n0 : (28 : Int) ≤ l.length := by omega
  have n1 : (l.length : Int) ≤ cc := by omega
  have n2 : (cc : Int) ≤ 9223372036854775807 := by omega
  have HS1 := Lib.hid (h.kept KZ.out (.inr (by simp)))
  have HBT := Lib.hid hB
  have b0 := hB x0 (by rw [hl']; simp)
  have b1 := hB x1 (by rw [hl']; simp)
  have b2 := hB x2 (by rw [hl']; simp)
  have b3 := hB x3 (by rw [hl']; simp)
  have b4 := hB x4 (by rw [hl']; simp)
  have b5 := hB x5 (by rw [hl']; simp)
  have b6 := hB x6 (by rw [hl']; simp)
  have b7 := hB x7 (by rw [hl']; simp)
  have HM := Lib.hid (And.intro (magic_eq x0 x1 x2 x3 b0 b1 b2 b3) trivial)
  have ht4 : l.take 4 = [x0, x1, x2, x3] := by rw [hl']; rfl
  have kcv := run_convert_bytes_arg (P := Tryz.prog) (w.alloc (.cells #[.int .i64 0, .int .i64 0, .int .i64 0, .int .i64 0, .int .u64 0, .int .u32 0] 108)) 27 5 Tryz.underlying27 Tryz.underlying5 b off 4 cc [x0, x1, x2, x3] rfl (fun i hi => by
    have : i = 0 ∨ i = 1 ∨ i = 2 ∨ i = 3 := by omega
    rcases this with rfl | rfl | rfl | rfl <;> exact HS1.out.cell (by rw [hl']; rfl)) 9 Tryz.underlying9
  have hs' : ¬ ((l.length : Int) < 28) := by omega
  by_cases hm : [x0, x1, x2, x3] ≠ [75, 69, 69, 80]
  · have e1 : decWhy l = 6 := by unfold decWhy; rw [if_neg hs, if_pos (by rw [ht4]; exact hm)]
    have e2 : decV l = headV 0 0 0 0 0 0 := by unfold decV; rw [e1]; rfl
    rw [e1, e2]
    have hmf : ((strOfNums [x0, x1, x2, x3]).toList == [75, 69, 69, 80]) = false := by rw [HM.out.1]; simpa using hm
    generalize strOfNums [x0, x1, x2, x3] = st at *
    clear h hB hs e1 e2 hg b0 b1 b2 b3 b4 b5 b6 b7 ht4 hm hl' hcap hc0 hc1 hs28
    go_enter Tryz.func85, Tryz.ntmps85
    go_wp2_with fail
    refine bodyPost_ret (results_pair_row Tryz.results85 _ _ _ _ _ _ _ _ (by simp [go_sem]) (by simp [go_sem]; rfl) HZ.out Tryz.underlying108 rfl rfl) rfl ?_
    exact ⟨_, rfl, rfl, KZ.out⟩
  have hm' : [x0, x1, x2, x3] = [75, 69, 69, 80] := by
    by_cases e : [x0, x1, x2, x3] = [75, 69, 69, 80]
    · exact e
    · exact absurd e hm
  have hmt : ((strOfNums [x0, x1, x2, x3]).toList == [75, 69, 69, 80]) = true := by rw [HM.out.1]; simpa using hm'
  have h4 : l.take 4 = [75, 69, 69, 80] := ht4.trans hm'
  generalize strOfNums [x0, x1, x2, x3] = st at *
  have d4 := HS1.out.cell (i := 4) (x := x4) (by rw [hl']; rfl)
  have v4 : hd l 4 = x4 := by rw [hl']; rfl
  have v5 : hd l 5 = x5 := by rw [hl']; rfl
  have v6 : hd l 6 = x6 := by rw [hl']; rfl
  have v7 : hd l 7 = x7 := by rw [hl']; rfl
  have d5 := HS1.out.cell (i := 5) (x := x5) (by rw [hl']; rfl)
  have d6 := HS1.out.cell (i := 6) (x := x6) (by rw [hl']; rfl)
  have d7 := HS1.out.cell (i := 7) (x := x7) (by rw [hl']; rfl)
  have v5' : l[5]? = some x5 := by rw [hl']; rfl
  have v6' : l[6]? = some x6 := by rw [hl']; rfl
  have v7' : l[7]? = some x7 := by rw [hl']; rfl
  clear hl' ht4 hm hm' b0 b1 b2 b3
  by_cases hv : x4 ≠ 1
  · have e1 : decWhy l = 7 := by unfold decWhy; rw [if_neg hs, if_neg (by rw [h4]; simp), if_pos (by rw [v4]; exact hv)]
    have e2 : decV l = headV 0 0 0 0 0 0 := by unfold decV; rw [e1]; rfl
    rw [e1, e2]
    have t4 : (x4 != 1) = true := by simpa using hv
    clear h hB hs e1 e2 hg hv hcap hc0 hc1 hs28 v4 v5 v6 v7 h4 d5 d6 d7 b4 b5 b6 b7
    go_enter Tryz.func85, Tryz.ntmps85
    go_wp2_with fail
    refine bodyPost_ret (results_pair_row Tryz.results85 _ _ _ _ _ _ _ _ (by simp [go_sem]) (by simp [go_sem]; rfl) HZ.out Tryz.underlying108 rfl rfl) rfl ?_
    exact ⟨_, rfl, rfl, KZ.out⟩
  have hv1 : x4 = 1 := by
    by_cases e : x4 = 1
    · exact e
    · exact absurd e hv
  have t4 : (x4 != 1) = false := by simpa using hv1
  have HSUM := Lib.hid (fun n => sum_q ((w.alloc (.cells #[.int .i64 0, .int .i64 0, .int .i64 0, .int .i64 0, .int .u64 0, .int .u32 0] 108)).drewN n) (.slice (some ⟨b, off, none⟩) 24 cc) b off (l.take 24) (by
    have := (HS1.out.drewN n).part 0 24 cc (by omega) (by omega) (by unfold maxLen; omega) (by omega)
    simpa using this) (HBT.out.take _))
  have HTK := Lib.hid (fun n => take32_q ((w.alloc (.cells #[.int .i64 0, .int .i64 0, .int .i64 0, .int .i64 0, .int .u64 0, .int .u32 0] 108)).drewN n) (.slice (some ⟨b, off + 24, none⟩) 4 (cc - 24)) b (off + 24) ((l.drop 24).take 4) ((HS1.out.drewN n).part 24 4 (cc - 24) (by omega) (by omega) (by unfold maxLen; omega) (by omega)) ((HBT.out.drop _).take _) (by simp; omega))
  have su := sumM_u32 (l.take 24)
  have ta := takeM_bd ((l.drop 24).take 4) ((HBT.out.drop _).take _)
  by_cases hsum : sumM (l.take 24) ≠ decN l 24 4
  · have e1 : decWhy l = 8 := by unfold decWhy; rw [if_neg hs, if_neg (by rw [h4]; simp), if_neg (by rw [v4]; exact hv), if_pos hsum]
    have e2 : decV l = headV 0 0 0 0 0 0 := by unfold decV; rw [e1]; rfl
    rw [e1, e2]
    have t5 : (sumM (l.take 24) != takeM ((l.drop 24).take 4)) = true := by simpa [decN] using hsum
    generalize sumM (l.take 24) = S at *
    generalize takeM ((l.drop 24).take 4) = T at *
    clear h hB hs e1 e2 hg hv hcap hc0 hc1 hs28 v4 v5 v6 v7 h4 d5 d6 d7 b4 b5 b6 b7 hsum ta su
    go_enter Tryz.func85, Tryz.ntmps85
    go_wp2_with fail
    go_quiet (first | (go_at_call 87; exact quiet_same (HSUM.out _)) | (go_at_call 115; exact quiet_same (HTK.out _)))
    all_goals (
      go_wp2_with fail
      refine bodyPost_ret (results_pair_row Tryz.results85 _ _ _ _ _ _ _ _ (by simp [go_sem]) (by simp [go_sem]; rfl) (blk6 (HZ.out.drewN _) 0 0 0 0 0 0) Tryz.underlying108 rfl rfl) rfl ?_
      exact ⟨_, rfl, rfl, kept6 (KZ.out.drewN _) (.inr (Nat.le_refl _)) 0 0 0 0 0 0⟩)
  have hsum1 : sumM (l.take 24) = takeM ((l.drop 24).take 4) := by
    by_cases e : sumM (l.take 24) = takeM ((l.drop 24).take 4)
    · exact e
    · exact absurd e hsum
  have t5 : (sumM (l.take 24) != takeM ((l.drop 24).take 4)) = false := by simpa using hsum1
  have e1 : decWhy l = if decOk l = false then 9 else 0 := by unfold decWhy; rw [if_neg hs, if_neg (by rw [h4]; simp), if_neg (by rw [v4]; exact hv), if_neg hsum]
  have E1 := Lib.hid (And.intro e1 trivial)
  have E2 := Lib.hid (And.intro (show decV l = if decWhy l = 0 then headV x5 x6 x7 (decN l 8 4) (decN l 12 8) (decN l 20 4) else headV 0 0 0 0 0 0 by unfold decV; rw [v5, v6, v7]) trivial)
  have EO := Lib.hid (And.intro (show decOk l = (gRight x5 x6 x7 && decide (decN l 8 4 = gTotal x5 x6 x7)) by unfold decOk; rw [v5, v6, v7]) trivial)
  have n8 := takeM_bd ((l.drop 8).take 4) ((HBT.out.drop _).take _)
  have n12 := takeM_bd ((l.drop 12).take 8) ((HBT.out.drop _).take _)
  have n20 := takeM_bd ((l.drop 20).take 4) ((HBT.out.drop _).take _)
  have p4 : (256 : Int) ^ 4 = 4294967296 := by decide
  have j8 : ((l.drop 8).take 4).length = 4 := by simp; omega
  rw [j8, p4] at n8
  obtain ⟨m0, m1⟩ := n8
  have HGL := Lib.hid hg
  have HLN := Lib.hid hs28
  generalize sumM (l.take 24) = S at *
  generalize takeM ((l.drop 24).take 4) = T at *
  clear h hB hs e1 hg hv hcap hc0 hc1 hs28 v4 v5 v6 v7 h4 hsum ta su j8 p4 n12 n20
  go_enter Tryz.func85, Tryz.ntmps85
  go_wp2_with fail
  go_quiet (first | (go_at_call 87; exact quiet_same (HSUM.out _)) | (go_at_call 115; exact quiet_same (HTK.out _)))
  go_upto_region 9 with fail
  refine open_world (fun W => Blk W w.heap.size 108 [.int .i64 0, .int .i64 0, .int .i64 0, .int .i64 0, .int .u64 0, .int .u32 0] ∧ Kept w W [] ∧ Sl .u8 W (.slice (some ⟨b, off, none⟩) l.length cc) b off l) ⟨HZ.out.drewN _, KZ.out.drewN _, HS1.out.drewN _⟩ ?_
  rintro W ⟨hzw, kw, hsw⟩
  have d5' : W.drew.cell? ⟨b, off + 5, none⟩ = some (.int .u8 x5) := hsw.cell v5'
  have d6' : W.drew.cell? ⟨b, off + 6, none⟩ = some (.int .u8 x6) := hsw.cell v6'
  have d7' : W.drew.cell? ⟨b, off + 7, none⟩ = some (.int .u8 x7) := hsw.cell v7'
  have y5 : IntKind.i64.wrap x5 = x5 := by rw [IntKind.wrap_i64]; omega
  have y6 : IntKind.i64.wrap x6 = x6 := by rw [IntKind.wrap_i64]; omega
  have y7 : IntKind.i64.wrap x7 = x7 := by rw [IntKind.wrap_i64]; omega
  have y8 : IntKind.i64.wrap (decN l 8 4) = decN l 8 4 := by rw [IntKind.wrap_i64]; unfold decN; omega
  have HSW := Lib.hid hsw
  have h8 := Lib.hid (fun W' (k : Kept W W' []) => take32_q W' (.slice (some ⟨b, off + 8, none⟩) 4 (cc - 8)) b (off + 8) ((l.drop 8).take 4) ((HSW.out.kept k (.inr (by simp))).part 8 4 (cc - 8) (by have := HLN.out; omega) (by omega) (by unfold maxLen; omega) (by omega)) ((HBT.out.drop _).take _) (by simp; omega))
  have h12 := Lib.hid (fun W' (k : Kept W W' []) => take64_q W' (.slice (some ⟨b, off + 12, none⟩) 8 (cc - 12)) b (off + 12) ((l.drop 12).take 8) ((HSW.out.kept k (.inr (by simp))).part 12 8 (cc - 12) (by have := HLN.out; omega) (by omega) (by unfold maxLen; omega) (by omega)) ((HBT.out.drop _).take _) (by simp; omega))
  have h20 := Lib.hid (fun W' (k : Kept W W' []) => take32_q W' (.slice (some ⟨b, off + 20, none⟩) 4 (cc - 20)) b (off + 20) ((l.drop 20).take 4) ((HSW.out.kept k (.inr (by simp))).part 20 4 (cc - 20) (by have := HLN.out; omega) (by omega) (by unfold maxLen; omega) (by omega)) ((HBT.out.drop _).take _) (by simp; omega))
  rw [show takeM ((l.drop 8).take 4) = decN l 8 4 from rfl] at h8
  rw [show takeM ((l.drop 12).take 8) = decN l 12 8 from rfl] at h12
  rw [show takeM ((l.drop 20).take 4) = decN l 20 4 from rfl] at h20
  have HZW := Lib.hid hzw
  have KW := Lib.hid kw
  generalize decN l 8 4 = N8 at *
  generalize decN l 12 8 = N12 at *
  generalize decN l 20 4 = N20 at *
  clear hzw kw hsw kcv d4 d5 d6 d7 HSUM HTK HZ KZ HS1 HM hmt v5' v6' v7' m0 m1
  have z8 : (cc = 8) = False := by simp; omega
  have z12 : (cc = 12) = False := by simp; omega
  have z20 : (cc = 20) = False := by simp; omega
  have g5 : (5 : Int) < l.length := by omega
  have g6 : (6 : Int) < l.length := by omega
  have g7 : (7 : Int) < l.length := by omega
  have g8 : (12 : Int) ≤ cc := by omega
  have g9 : (20 : Int) ≤ cc := by omega
  have g10 : (24 : Int) ≤ cc := by omega
  have ka : Kept W W.drew [] := (Kept.refl W []).drew
  have kb : Kept W (W.alloc (.cells #[.int .i64 0, .int .i64 0, .int .i64 0, .int .i64 0, .int .u64 0, .int .u32 0] 108)).drew [] := ((Kept.refl W []).alloc _).drew
  have ea5 := kb.cell d5' (by simp)
  have ea6 := kb.cell d6' (by simp)
  have ea7 := kb.cell d7' (by simp)
  have kc : Kept W (W.alloc (.cells #[.int .i64 x5, .int .i64 x6, .int .i64 x7, .int .i64 N8, .int .u64 N12, .int .u32 N20] 108)).drew [] := ((Kept.refl W []).alloc _).drew
  have ec5 := kc.cell d5' (by simp)
  have ec6 := kc.cell d6' (by simp)
  have ec7 := kc.cell d7' (by simp)
  have KC := Lib.hid kc
  have KA := Lib.hid ka
  have KB := Lib.hid kb
  clear ka kb kc
  go_region_held3 (fun V => V.cell? ⟨b, off + 5, none⟩ = some (.int .u8 x5) ∧ V.cell? ⟨b, off + 6, none⟩ = some (.int .u8 x6) ∧ V.cell? ⟨b, off + 7, none⟩ = some (.int .u8 x7)) (first | (with_reducible exact ⟨d5', d6', d7'⟩) | (with_reducible exact ⟨ea5, ea6, ea7⟩) | (with_reducible exact ⟨ec5, ec6, ec7⟩) | go_keep) (first
    | (go_at_call 116
       first | (with_reducible refine (h12.out _ KA.out).mono ?_) | (with_reducible refine (h12.out _ KB.out).mono ?_)
       rintro _ _ ⟨rfl, rfl⟩)
    | (go_at_call 115
       first | (with_reducible refine (h8.out _ KA.out).mono ?_) | (with_reducible refine (h8.out _ KB.out).mono ?_) | (with_reducible refine (h20.out _ KA.out).mono ?_) | (with_reducible refine (h20.out _ KB.out).mono ?_)
       rintro _ _ ⟨rfl, rfl⟩))
  all_goals (
    have hbw := Blk.new W 108 [.int .i64 x5, .int .i64 x6, .int .i64 x7, .int .i64 N8, .int .u64 N12, .int .u32 N20]
    go_upto_region 10 with fail
    refine open_world (fun V => Blk V w.heap.size 108 [.int .i64 0, .int .i64 0, .int .i64 0, .int .i64 0, .int .u64 0, .int .u32 0] ∧ Blk V W.heap.size 108 [.int .i64 x5, .int .i64 x6, .int .i64 x7, .int .i64 N8, .int .u64 N12, .int .u32 N20] ∧ Kept W V []) ⟨HZW.out.kept KC.out (by simp), hbw.drew, KC.out⟩ ?_
    rintro V ⟨hv1, hv2, hv3⟩
    have HV1 := Lib.hid hv1
    have HV2 := Lib.hid hv2
    have KV := Lib.hid (KW.out.trans hv3 (by simp))
    have hR := hright_any V (HGL.out.kept KV.out (by simp)) x5 x6 x7 N8 N12 N20
    rw [← EO.out.1] at hR
    replace hR := Lib.hid hR
    have s0 := hv2.cell 0 rfl
    have s1 := hv2.cell 1 rfl
    have s2 := hv2.cell 2 rfl
    have s3 := hv2.cell 3 rfl
    have s4 := hv2.cell 4 rfl
    have s5 := hv2.cell 5 rfl
    clear hv1 hv2 hv3 hbw ea5 ea6 ea7 ec5 ec6 ec7 d5' d6' d7'
    go_wp2_with fail
    refine hR.out.mono ?_
    rintro _ V2 ⟨_, rfl, rfl, kv2⟩
    have hb1 := HV1.out.kept kv2 (by simp)
    have hb2 := HV2.out.kept kv2 (by simp)
    have r0 := hb2.cell 0 rfl
    have r1 := hb2.cell 1 rfl
    have r2 := hb2.cell 2 rfl
    have r3 := hb2.cell 3 rfl
    have r4 := hb2.cell 4 rfl
    have r5 := hb2.cell 5 rfl
    have u0 := hb1.cell 0 rfl
    have u1 := hb1.cell 1 rfl
    have u2 := hb1.cell 2 rfl
    have u3 := hb1.cell 3 rfl
    have u4 := hb1.cell 4 rfl
    have u5 := hb1.cell 5 rfl
    have f0 := hb1.free 0
    have f1 := hb1.free 1
    have f2 := hb1.free 2
    have f3 := hb1.free 3
    have f4 := hb1.free 4
    have f5 := hb1.free 5
    have HB1 := Lib.hid hb1
    have KV2 := Lib.hid (KV.out.trans kv2 (by simp))
    clear hb1 hb2 kv2 hR
    cases hd : decOk l
    · have w1 : decWhy l = 9 := by rw [E1.out.1, hd]; rfl
      have w2 : decV l = headV 0 0 0 0 0 0 := by rw [E2.out.1, w1]; rfl
      have WW := Lib.hid (And.intro w1 w2)
      clear w1 w2
      go_wp2_with fail
      refine bodyPost_ret (results_pair_row Tryz.results85 _ _ _ _ _ _ _ _ (by simp [go_sem]) (by simp [go_sem]; rfl) (blk6 HB1.out 0 0 0 0 0 0) Tryz.underlying108 rfl rfl) rfl ?_
      exact ⟨_, rfl, by show Value.tuple _ = _; rw [WW.out.1, WW.out.2], kept6 KV2.out (.inr (Nat.le_refl _)) 0 0 0 0 0 0⟩
    · have w1 : decWhy l = 0 := by rw [E1.out.1, hd]; rfl
      have w2 : decV l = headV x5 x6 x7 N8 N12 N20 := by rw [E2.out.1, w1]; rfl
      have WW := Lib.hid (And.intro w1 w2)
      clear w1 w2
      go_wp2_with fail
      refine bodyPost_ret (results_pair_row Tryz.results85 _ _ _ _ _ _ _ _ (by simp [go_sem]) (by simp [go_sem]; rfl) (blk6 HB1.out x5 x6 x7 N8 N12 N20) Tryz.underlying108 rfl rfl) rfl ?_
      exact ⟨_, rfl, by show Value.tuple _ = _; rw [WW.out.1, WW.out.2], kept6 KV2.out (.inr (Nat.le_refl _)) x5 x6 x7 N8 N12 N20⟩)
end Go.Proofs.YtcikhnkehglkgaaGreatDoor
