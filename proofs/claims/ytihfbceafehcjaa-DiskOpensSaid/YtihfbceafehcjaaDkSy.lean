/- PROVED: the walk of DiskSyncs. No conditions beyond those that each theorem states. -/
import Derived.Test.YtihfbceafehcjaaDkO
namespace Go.Proofs.YtihfbceafehcjaaLib
set_option linter.unusedVariables false
/-- what a Read tells of each sector -/
def DiskS.view (s : DiskS) : List (List Int) := s.last.mapIdx fun i x => (s.cach[i]?.join).getD x
def DiskS.ticks (s : DiskS) (k : Nat) : DiskS := { s with ops := s.ops + k }
theorem DiskS.view_length (s : DiskS) : s.view.length = s.last.length := by simp [DiskS.view]
theorem DiskS.view_get (s : DiskS) (i : Nat) : s.view[i]? = s.last[i]?.map fun x => (s.cach[i]?.join).getD x := by unfold DiskS.view; rw [List.getElem?_mapIdx]
theorem DiskS.read_view (s : DiskS) (i : Nat) (hi : i < s.last.length) : (s.read i = ([], 3) ∨ ∃ x, s.view[i]? = some x ∧ s.read i = (x, 0)) := by
  unfold DiskS.read
  split
  · exact .inl rfl
  · rw [if_neg (by omega)]
    right
    rw [DiskS.view_get, List.getElem?_eq_getElem hi]
    simp only [Int.toNat_natCast]
    cases hc : s.cach[i]?.join with
    | some b => exact ⟨b, rfl, rfl⟩
    | none => exact ⟨s.last[i], rfl, by rw [List.getElem?_eq_getElem hi]; rfl⟩
theorem DiskS.Ok.view_sec {s : DiskS} (h : s.Ok) : ∀ l, l ∈ s.view → Sec s.size l := by
  intro l hl
  obtain ⟨i, hi⟩ := List.mem_iff_getElem?.1 hl
  rw [DiskS.view_get] at hi
  cases hx : s.last[i]? with
  | none => rw [hx] at hi; simp at hi
  | some x =>
    rw [hx] at hi
    simp only [Option.map_some, Option.some.injEq] at hi
    cases hc : s.cach[i]?.join with
    | none => rw [hc] at hi; simp at hi; subst hi; exact h.ls _ (List.mem_of_getElem? hx)
    | some y => rw [hc] at hi; simp at hi; subst hi; exact h.cs _ (mem_join hc)
theorem DiskS.swept_last_new (s : DiskS) : (s.swept fun _ => newT).last = s.view := by
  show partLast s.last s.cach (fun _ => newT) s.last.length = s.view
  apply List.ext_getElem?
  intro i
  rw [partLast_get, DiskS.view_get]
  cases hx : s.last[i]? with
  | none => rfl
  | some x =>
    have hi : i < s.last.length := (List.getElem?_eq_some_iff.1 hx).1
    simp only [Option.map_some, if_pos hi]
    cases hc : s.cach[i]?.join with
    | none => rfl
    | some y => simp [left, newT]
theorem DiskS.swept_cach (s : DiskS) (hn : s.cach.length = s.last.length) (g : Nat → Int × List Int) (i : Nat) : (s.swept g).cach[i]?.join = none := by
  show (partCach s.cach s.last.length)[i]?.join = none
  rw [partCach_get]
  cases hx : s.cach[i]? with
  | none => rfl
  | some o =>
    have hi : i < s.cach.length := (List.getElem?_eq_some_iff.1 hx).1
    simp [show i < s.last.length by omega]
theorem DiskS.unsynced_nil (s : DiskS) (h : ∀ i : Nat, s.cach[i]?.join = none) : s.unsynced = [] := by
  unfold DiskS.unsynced
  rw [List.filter_eq_nil_iff.2 (by intro i _; rw [h i]; simp)]
  rfl
theorem DiskS.crash_last (s : DiskS) (h : ∀ i : Nat, s.cach[i]?.join = none) (ts : List (Int × List Int)) : (s.crash ts).last = s.last := by
  have e : (s.crash ts).last = partLast s.last s.cach (fun k => ts[k]?.getD oldT) s.last.length := rfl
  rw [e]
  apply List.ext_getElem?
  intro i
  rw [partLast_get, h i]
  cases s.last[i]? <;> simp
theorem DiskS.swept_shape (s : DiskS) (g : Nat → Int × List Int) : (s.swept g).last.length = s.last.length ∧ (s.swept g).size = s.size ∧ (s.swept g).cach.length = s.cach.length := ⟨length_partLast _ _ _ _, rfl, length_partCach _ _⟩
theorem DiskS.step_shape (s : DiskS) (hn : s.cach.length = s.last.length) (o : DkOp) : (s.step o).1.last.length = s.last.length ∧ (s.step o).1.size = s.size ∧ (s.step o).1.cach.length = s.cach.length := by
  unfold DiskS.step
  split
  · unfold DiskS.write
    split
    · exact ⟨rfl, rfl, rfl⟩
    split
    · exact ⟨rfl, rfl, rfl⟩
    split
    · exact ⟨rfl, rfl, rfl⟩
    split
    · exact ⟨rfl, rfl, rfl⟩
    · exact ⟨rfl, rfl, by simp⟩
  split
  · exact ⟨rfl, rfl, rfl⟩
  split
  · unfold DiskS.sync
    split
    · exact ⟨rfl, rfl, rfl⟩
    · exact s.tick.swept_shape _
  split
  · exact s.swept_shape _
  split
  · dsimp only
    split <;> exact ⟨rfl, rfl, rfl⟩
  · exact ⟨rfl, rfl, rfl⟩
theorem DiskS.run_shape (s : DiskS) (l : List DkOp) (hn : s.cach.length = s.last.length) : (s.run l).last.length = s.last.length ∧ (s.run l).size = s.size ∧ (s.run l).cach.length = s.cach.length := by
  induction l generalizing s with
  | nil => exact ⟨rfl, rfl, rfl⟩
  | cons o l ih =>
    have h1 := s.step_shape hn o
    have h2 := ih (s.step o).1 (by rw [h1.2.2, h1.1, hn])
    exact ⟨h2.1.trans h1.1, h2.2.1.trans h1.2.1, h2.2.2.trans h1.2.2⟩
theorem DiskS.view_take {s : DiskS} (h : s.Ok) (k : Nat) (x : List Int) (hx : s.view[k]? = some x) : (s.view.take (k + 1)).flatten = (s.view.take k).flatten ++ x := by
  rw [List.take_add_one, hx]
  simp
end Go.Proofs.YtihfbceafehcjaaLib
namespace Go.Proofs.Ytihfbceafehcjaa
open Go.RowKit Go.Proofs.YtihfbceafehcjaaLib Go.WideElems Go.Maps
set_option linter.unusedSimpArgs false
set_option linter.unusedVariables false

theorem K_ops {B : Nat} {w w1 : World} {v : Value} {l : List DkOp} (h : SliceAt (OpK B) 4 w B v l) (hk : Kept w w1 []) (hB : B ≤ w.heap.size) : SliceAt (OpK B) 4 w1 B v l := h.kept hk hB (by simp) (fun cs x h => h.kept hk hB (by simp))
set_option maxRecDepth 100000 in
set_option maxHeartbeats 8000000 in
theorem DiskSyncs_walk (w : World) (v tv : Value) (l : List DkOp) (ts : List (Int × List Int)) (h : SliceAt (OpK w.heap.size) 4 w w.heap.size v l) (ht : SliceAt (TearK w.heap.size) 2 w w.heap.size tv ts) (hl : l.length * 64 ≤ 140737488351232) :
    Calls Try.prog 5 #[v, tv] w (fun e W => e = .returned (.bool true) ∧ Below w.heap.size w W) := by
  obtain ⟨A, c, rfl, hc1, hc2⟩ := SliceAt.form h
  obtain ⟨At, ct, rfl, ht1, ht2⟩ := SliceAt.form ht
  have H := Lib.hid h
  have HT := Lib.hid ht
  unfold maxLen at hc2 ht2
  have l0 : (0 : Int) ≤ l.length := by omega
  have l1 : (l.length : Int) ≤ 9223372036854775807 := by omega
  clear h hc2 ht ht2
  go_enter Try.func5, Try.ntmps5
  go_wp2_with fail
  (with_reducible refine (awake_any _).mono ?_)
  rintro _ w1 ⟨_, rfl, rfl, k1⟩
  have K1 := Lib.hid k1
  obtain ⟨v2, w2, cells, hr1, ho2, hro2, k2⟩ := ops_append1 w1 w.heap.size w.heap.size _ l (K_ops H.out k1 (Nat.le_refl _)) k1.size k1.size hl
  have k12 := k1.trans k2 (by simp)
  have hop : OpK w.heap.size w2 [.int .u8 0, .int .i64 0, .slice none 0 0, .slice At ts.length ct] ⟨0, 0, [], ts⟩ :=
    ⟨_, _, rfl, ⟨none, 0, rfl, Nat.le_refl _, Nat.zero_le _, .inl rfl⟩, HT.out.kept k12 (Nat.le_refl _) (by simp) (fun cs x h => h.kept k12 (Nat.le_refl _) (by simp)), ⟨by dsimp only; decide, by dsimp only; decide⟩, by dsimp only; decide, by dsimp only; decide⟩
  obtain ⟨v3, w3, hr2, hs3, k3⟩ := ops_append2 w2 w.heap.size w1.heap.size v2 l cells ho2 hro2 k12.size k1.size k2.size (by omega) _ _ hop rfl
  have k13 : Kept w w3 [] := k12.trans k3 (fun g hg => by
    simp only [Option.mem_toList] at hg
    exact .inr (Nat.le_trans k1.size (ho2.lt g hg).1))
  have HS3 := Lib.hid hs3
  have K3 := Lib.hid k13
  have HR1 := Lib.hid hr1
  have HR2 := Lib.hid hr2
  clear k1 k2 k3 k12 k13 hs3 ho2 hro2 hop hr1 hr2
  go_wp2_with (first | (at_builtin; refine wpList_append_run rfl _ _ _ rfl rfl rfl HR1.out ?_) | (at_builtin; refine wpList_append_run rfl _ _ _ rfl rfl rfl HR2.out ?_))
  (with_reducible refine (few_any _ _ _ _ _ HS3.out).mono ?_)
  rintro _ w4 ⟨_, rfl, ⟨x, rfl, hx⟩, k4⟩
  have K4 := Lib.hid (K3.out.trans k4 (by simp))
  clear k4 HR1 HR2
  cases x with
  | false =>
    clear hx
    go_wp2_with fail
    go_ret
    exact ⟨rfl, K4.out.below _ (Nat.le_refl _) (by simp)⟩
  | true =>
  have hl40 : l.length ≤ 40 := by have := hx rfl; simp at this; omega
  have HL40 := Lib.hid hl40
  clear hx hl40
  go_wp2_with fail
  (with_reducible refine (made_any _ w.heap.size _ l (K_ops H.out K4.out (Nat.le_refl _)) K4.out.size HL40.out).mono ?_)
  rintro _ w5 ⟨_, rfl, ⟨b, F, rfl, hd, hF⟩, k5⟩
  have HF : Hid (∀ g, g ∈ F → w.heap.size ≤ g) := Lib.hid (fun g hg => Nat.le_trans K4.out.size (hF g hg))
  have K5 := Lib.hid (K4.out.trans k5 (by simp))
  have hsh := DiskS.run_shape (DiskS.new 8 4) l rfl
  have hle := DiskS.run_le (DiskS.new 8 4) l
  generalize (DiskS.new 8 4).run l = s at *
  have hl8 : s.last.length = 8 := hsh.1
  have hs4 : s.size = 4 := hsh.2.1
  have hop : s.ops ≤ 40 := by have h1 := hle.1; have h2 : (DiskS.new 8 4).ops = 0 := rfl; have := HL40.out; omega
  have HD := Lib.hid hd
  have HL8 := Lib.hid hl8
  have HS4 := Lib.hid hs4
  have HOP := Lib.hid hop
  have HOK := Lib.hid hd.ok
  clear hsh hle hd hF hl8 hs4 hop k5
  obtain ⟨i0, hi, hz0, hz1, hz2⟩ := info_parts info8
  have HI := Lib.hid hi
  have HZ0 := Lib.hid hz0
  have HZ1 := Lib.hid hz1
  have HZ2 := Lib.hid hz2
  clear hi hz0 hz1 hz2
  go_wp2_with fail
  go_loopg [8, 9] 8 (fun g vv i wr => ∃ k : Nat, k + g = 8 ∧ i = .int .i64 k ∧ DiskAt wr b F (s.ticks k) ∧ Own 5 .u8 wr w5.heap.size vv (s.view.take k).flatten ∧ Kept w5 wr [b])
  case atStart => exact ⟨0, rfl, rfl, HD.out, Own.nil _ _ _ _, Kept.refl _ _⟩
  case round =>
    obtain ⟨k, hk, rfl, hd, hrow, hkept⟩ := hrel
    have HK := Lib.hid hk
    have HKE := Lib.hid hkept
    have HD2 := Lib.hid hd
    obtain ⟨bw, hsl, hb8⟩ := hrow.sl
    obtain ⟨Aw, cw, rfl⟩ := hsl.form
    have HRO := Lib.hid hrow
    clear hk hkept hd hrow hsl hb8
    by_cases hlt : k < 8
    · have k0 : (0 : Int) ≤ k := by omega
      have k1 : (k : Int) < 8 := by omega
      go_wp2_with fail
      refine (read_any _ b F (s.ticks k) HD2.out (by show s.ops + k < _; have := HOP.out; omega) k).mono ?_
      rintro _ w6 ⟨_, rfl, ⟨rv, rfl, hrv, hd6⟩, k6⟩
      have hrd := (s.ticks k).read_view k (by show k < s.last.length; have := HL8.out; omega)
      rcases hrd with hrd | ⟨x, hx, hrd⟩
      · rw [hrd] at hrv ⊢
        clear hrd
        go_wp2_with fail
        go_ret
        exact ⟨rfl, (K5.out.trans (HKE.out.trans k6 (fun g hg => .inl hg)) (fun g hg => .inr (by simp at hg; subst hg; exact HF.out _ HD.out.fb))).below _ (Nat.le_refl _) (by simp)⟩
      · rw [hrd] at hrv ⊢
        dsimp only at hrv ⊢
        clear hrd
        have hxs : Sec 4 x := by have := HOK.out.view_sec x (List.mem_of_getElem? hx); rw [HS4.out] at this; exact this
        have htk : (s.view.take k).flatten.length ≤ 32 := by
          rw [flatten_length (size := 4) (fun y hy => by have := HOK.out.view_sec y (List.mem_of_mem_take hy); rw [HS4.out] at this; exact this), List.length_take]
          omega
        obtain ⟨br, hrs, _⟩ := hrv.sl
        have hbF := HF.out b HD.out.fb
        have hblt := HD.out.lt b HD.out.fb
        have ho6 := HRO.out.kept k6 (by intro g hg hm; simp at hm; subst hm; have := (HRO.out.lt _ hg).1; omega)
        have hsz6 : w5.heap.size ≤ w6.heap.size := Nat.le_trans HKE.out.size k6.size
        obtain ⟨v7, w7, hap, ho7, k7⟩ := own_append (P := Try.prog) Try.underlying22 HI.out HZ0.out HZ1.out HZ2.out ho6 hrs (by have := hxs.1; omega) (by have := hxs.1; unfold maxLen; omega) hsz6 22
        have k67 : Kept w5 w7 [b] := (HKE.out.trans k6 (fun g hg => .inl hg)).trans k7 (fun g hg => by
          simp only [Option.mem_toList] at hg
          exact .inr (HRO.out.lt g hg).1)
        have hd7 := hd6.kept k7 (by
          intro g hg hm
          simp only [Option.mem_toList] at hg
          have h1 := (HRO.out.lt g hg).1
          have h2 := HD.out.lt g hm
          omega)
        rw [← DiskS.view_take HOK.out k x hx] at ho7
        have HAP := Lib.hid hap
        have HO7 := Lib.hid ho7
        have HD7 := Lib.hid hd7
        have K7 := Lib.hid k67
        clear hxs htk hrs hbF hblt ho6 hsz6 hap ho7 hd7 k67 k7 k6 hd6 hrv hx
        go_wp2_with (first | (at_builtin; refine wpList_append_run rfl _ _ _ rfl rfl rfl HAP.out ?_))
        go_roundg (gk - 1)
        case measure => have := HK.out; omega
        case rel => exact ⟨k + 1, by have := HK.out; omega, by go_num, HD7.out, HO7.out, K7.out⟩
    · have hk8 : k = 8 := by have := HK.out; omega
      subst hk8
      have hvt : s.view.take 8 = s.view := List.take_of_length_le (by rw [s.view_length, HL8.out]; exact Nat.le_refl _)
      rw [hvt] at HRO ⊢
      clear hvt hlt
      generalize hV : s.view.flatten = V at *
      have HV := Lib.hid hV
      clear hV
      go_wp2_with fail
      (with_reducible refine (sync_any _ b F (s.ticks 8) HD2.out (by have e : (s.ticks 8).ops = s.ops + 8 := rfl; have := HOP.out; omega)).mono ?_)
      rintro _ w6 ⟨_, rfl, ⟨rfl, hd6⟩, k6⟩
      have hnF : ∀ g, (Value.slice Aw V.length cw).ownBlock = some g → g ∉ F := fun g hg hm => by
        have h1 := (HRO.out.lt g hg).1
        have h2 := HD.out.lt g hm
        omega
      have K6 := Lib.hid ((K5.out.trans HKE.out (fun g hg => .inr (by simp at hg; subst hg; exact HF.out _ HD.out.fb))).trans k6 (fun g hg => .inr (HF.out g hg)))
      by_cases hf : (s.ticks 8).fails = true
      · have e : (s.ticks 8).sync.2 = 3 := by unfold DiskS.sync; rw [if_pos hf]
        rw [e]
        clear e hf hd6 k6
        go_wp2_with fail
        go_ret
        exact ⟨rfl, K6.out.below _ (Nat.le_refl _) (by simp)⟩
      · have e : (s.ticks 8).sync = ((s.ticks 8).tick.swept (fun _ => newT), 0) := by unfold DiskS.sync; rw [if_neg hf]
        rw [e] at hd6 ⊢
        dsimp only at hd6 ⊢
        have hcn : (s.ticks 8).tick.cach.length = (s.ticks 8).tick.last.length := HOK.out.nc
        have hnc := DiskS.swept_cach (s.ticks 8).tick hcn (fun _ => newT)
        have e1 : ((s.ticks 8).tick.swept fun _ => newT).last = s.view := DiskS.swept_last_new _
        have e2 := DiskS.unsynced_nil _ hnc
        have e3 := DiskS.crash_last _ hnc ts
        have e4 : ((s.ticks 8).tick.swept fun _ => newT).bytes = V := by unfold DiskS.bytes; rw [e1, HV.out]
        have e5 : (((s.ticks 8).tick.swept fun _ => newT).crash ts).bytes = V := by unfold DiskS.bytes; rw [e3, e1, HV.out]
        generalize ((s.ticks 8).tick.swept fun _ => newT) = s9 at *
        have E2 := Lib.hid e2
        have E4 := Lib.hid e4
        have E5 := Lib.hid e5
        have HD6 := Lib.hid hd6
        have HR6 := Lib.hid (HRO.out.kept k6 hnF)
        have HNF := Lib.hid hnF
        clear e hf hcn hnc e1 e2 e3 e4 e5 hd6 k6 hnF
        go_wp2_with fail
        (with_reducible refine (unsynced_any _ b F s9 HD6.out).mono ?_)
        rintro _ w7 ⟨v7, rfl, hv7, k7⟩
        rw [E2.out] at hv7
        have HD7 := Lib.hid (HD6.out.kept k7 (by simp))
        have HR7 := Lib.hid (HR6.out.kept k7 (by simp [Apart]))
        have K7 := Lib.hid (K6.out.trans k7 (by simp))
        obtain ⟨A7, c7, rfl⟩ := hv7.sl.choose_spec.1.form
        clear hv7 k7
        go_wp2_with fail
        (with_reducible refine (bytes_any _ b F s9 HD7.out).mono ?_)
        rintro _ w8 ⟨v8, rfl, hv8, k8⟩
        rw [E4.out] at hv8
        obtain ⟨b8, hs8, _⟩ := hv8.sl
        obtain ⟨bw8, hsw, _⟩ := (HR7.out.kept k8 (by simp [Apart])).sl
        have HD8 := Lib.hid (HD7.out.kept k8 (by simp))
        have HR8 := Lib.hid (HR7.out.kept k8 (by simp [Apart]))
        have K8 := Lib.hid (K7.out.trans k8 (by simp))
        have HS8 := Lib.hid hs8
        have HSW := Lib.hid hsw
        clear hv8 k8 hs8 hsw
        go_wp2_with fail
        (with_reducible refine (same_any _ _ _ b8 0 bw8 0 _ _ HS8.out HSW.out).mono ?_)
        rintro _ w9 ⟨_, rfl, rfl, k9⟩
        have HD9 := Lib.hid (HD8.out.kept k9 (by simp))
        have HR9 := Lib.hid (HR8.out.kept k9 (by simp [Apart]))
        have K9 := Lib.hid (K8.out.trans k9 (by simp))
        clear k9
        rw [decide_eq_true rfl]
        go_wp2_with fail
        have hta : TearsAt w9 F (.slice At ts.length ct) ts := TearsAt.of (HT.out.kept K9.out (Nat.le_refl _) (by simp) (fun cs x h => h.kept K9.out (Nat.le_refl _) (by simp))) HF.out
        (with_reducible refine (crash_any _ b F s9 HD9.out _ ts hta).mono ?_)
        rintro _ w10 ⟨_, rfl, ⟨rfl, hd10⟩, k10⟩
        have HD10 := Lib.hid hd10
        have HR10 := Lib.hid (HR9.out.kept k10 HNF.out)
        have K10 := Lib.hid (K9.out.trans k10 (fun g hg => .inr (HF.out g hg)))
        clear hta hd10 k10
        go_wp2_with fail
        (with_reducible refine (bytes_any _ b F _ HD10.out).mono ?_)
        rintro _ w11 ⟨v11, rfl, hv11, k11⟩
        rw [E5.out] at hv11
        obtain ⟨b11, hs11, _⟩ := hv11.sl
        obtain ⟨bw11, hsw11, _⟩ := (HR10.out.kept k11 (by simp [Apart])).sl
        have HS11 := Lib.hid hs11
        have HSW11 := Lib.hid hsw11
        have K11 := Lib.hid (K10.out.trans k11 (by simp))
        clear hv11 k11 hs11 hsw11
        go_wp2_with fail
        (with_reducible refine (same_any _ _ _ b11 0 bw11 0 _ _ HS11.out HSW11.out).mono ?_)
        rintro _ w12 ⟨_, rfl, rfl, k12⟩
        have K12 := Lib.hid (K11.out.trans k12 (by simp))
        clear k12
        rw [decide_eq_true rfl]
        go_wp2_with fail
        go_ret
        exact ⟨rfl, K12.out.below _ (Nat.le_refl _) (by simp)⟩
end Go.Proofs.Ytihfbceafehcjaa
