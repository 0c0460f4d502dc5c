/- PROVED: the contracts of disk.New and disk.Copy. No conditions beyond those that each theorem states. -/
import Derived.Test.YtihfbceafehcjaaDkG
import Derived.Maps.RangeWalk
namespace Go.Proofs.Ytihfbceafehcjaa
open Go.RowKit Go.Proofs.YtihfbceafehcjaaLib Go.WideElems Go.Maps
set_option linter.unusedSimpArgs false
set_option linter.unusedVariables false

def NewOk (k n : Int) : Prop := 0 ≤ k ∧ k ≤ 4096 ∧ 1 ≤ n ∧ n ≤ 4096
instance (k n : Int) : Decidable (NewOk k n) := by unfold NewOk; infer_instance
set_option maxRecDepth 100000 in
set_option maxHeartbeats 4000000 in
theorem new_no (w : World) (k n : Int) (h : ¬ NewOk k n) : Calls Try.prog 20 #[.int .i64 k, .int .i64 n] w (Post w [] fun r W => r = .tuple #[.pointer none, .int .i64 1]) := by
  unfold NewOk at h
  by_cases q1 : k < 0
  · go_enter Try.func20, Try.ntmps20
    go_wp2
    go_ret2
    exact ⟨_, rfl, rfl, Kept.refl _ _⟩
  by_cases q2 : 4096 < k
  · go_enter Try.func20, Try.ntmps20
    go_wp2
    go_ret2
    exact ⟨_, rfl, rfl, Kept.refl _ _⟩
  by_cases q3 : n < 1
  · go_enter Try.func20, Try.ntmps20
    go_wp2
    go_ret2
    exact ⟨_, rfl, rfl, Kept.refl _ _⟩
  have q4 : 4096 < n := by omega
  clear h
  go_enter Try.func20, Try.ntmps20
  go_wp2
  go_ret2
  exact ⟨_, rfl, rfl, Kept.refl _ _⟩
/-- a new disk's sectors are noughts -/
def DiskS.new (k n : Nat) : DiskS := ⟨n, List.replicate k (List.replicate n 0), List.replicate k none, fun _ => false, 0, 0, 0⟩
theorem chop_replicate (n k : Nat) : chop n (List.replicate (k * n) 0) k = List.replicate k (List.replicate n 0) := by
  induction k with
  | zero => rfl
  | succ k ih =>
    rw [chop, List.replicate_succ, List.take_replicate, List.drop_replicate, Nat.succ_mul, Nat.min_eq_left (by omega), show k * n + n - n = k * n by omega, ih]
theorem open_new (k n : Nat) (h : 0 < n) : DiskS.open n (List.replicate (k * n) 0) = DiskS.new k n := by
  unfold DiskS.open DiskS.new
  rw [List.length_replicate, Nat.mul_div_cancel _ h, chop_replicate]
set_option maxRecDepth 100000 in
set_option maxHeartbeats 4000000 in
theorem new_yes (w : World) (k n : Int) (h : NewOk k n) : Calls Try.prog 20 #[.int .i64 k, .int .i64 n] w (Post w [] fun r W => ∃ b F, r = .tuple #[.pointer (some ⟨b, 0, none⟩), .int .i64 0] ∧ DiskAt W b F (DiskS.new k.toNat n.toNat) ∧ ∀ g, g ∈ F → w.heap.size ≤ g) := by
  obtain ⟨h1, h2, h3, h4⟩ := h
  obtain ⟨k, rfl⟩ := Int.eq_ofNat_of_zero_le h1
  obtain ⟨n, rfl⟩ := Int.eq_ofNat_of_zero_le (show 0 ≤ n by omega)
  simp only [Int.toNat_natCast]
  have hmul : k * n ≤ 4096 * 4096 := Nat.mul_le_mul (by omega) (by omega)
  have e1 : ((k : Int) * (n : Int)) = ((k * n : Nat) : Int) := by simp
  have hop := open_new k n (by omega)
  have hoo : OpenOk (n : Int) (List.replicate (k * n) 0) := by
    refine ⟨h3, h4, ?_, ?_⟩
    · rw [List.length_replicate, Int.toNat_natCast]; exact Nat.mul_mod_left _ _
    · rw [List.length_replicate, Int.toNat_natCast, Nat.mul_div_cancel _ (by omega)]; omega
  generalize k * n = m at *
  have HOP := Lib.hid hop
  have HOO := Lib.hid hoo
  have m0 : (0 : Int) ≤ m := by omega
  have m1 : (m : Int) ≤ 16777216 := by omega
  obtain ⟨i0, hi, hz0, hz1, hz2⟩ := info_parts info8
  obtain ⟨w1, hmk, hrow, k1⟩ := make_own (P := Try.prog) (k := .u8) Try.underlying22 hi hz0 hz1 (by omega) m (by omega) w
  have HROW := Lib.hid hrow
  have K1 := Lib.hid k1
  clear hrow k1 hi hz0 hz1 hz2 hop hoo
  go_enter Try.func20, Try.ntmps20
  go_wp2_with fail
  obtain ⟨bq, hsl, _⟩ := HROW.out.sl
  refine (open_yes w1 n _ bq 0 _ hsl (Bts.replicate0 _) HOO.out).mono ?_
  rintro _ w2 ⟨_, rfl, ⟨b, F, rfl, hd, hF⟩, k2⟩
  rw [Int.toNat_natCast, HOP.out] at hd
  have HD := Lib.hid hd
  have HFF := Lib.hid hF
  have K2 := Lib.hid k2
  clear hd hF k2 hsl
  go_wp2_with fail
  go_ret2
  exact ⟨_, rfl, ⟨b, F, rfl, HD.out, fun g hg => Nat.le_trans K1.out.size (HFF.out g hg)⟩, K1.out.trans K2.out (by simp)⟩
theorem next_held {ops : Array Oper} {rest : List Oper} {o : Oper} {a : Act} {Q : Exit → Act → World → Prop} (w : World) (hg : o.guard = none) (it : Operand) (hop : o.op = Op.next it false) (b r n : Nat) (D : DataW Value) (left : Lit → Bool) (cnt : Nat)
    (hit : a.eval it = .pointer (some ⟨r, 0, none⟩)) (h : w.ranges Try.prog 3 heldR b r n D left cnt)
    (hDone : cnt = 0 → (∀ kl, left kl = false) → wpList Try.prog ops Q rest (a.put o.dst (.tuple #[.bool false])) w)
    (hMore : ∀ (x : Int) (c : Value) (w' : World) (cnt' : Nat), left (.int .i64 x) = true → (∀ zd, D.atKey (.int .i64 x) zd = .held c) → w'.ranges Try.prog 3 heldR b r n D (fun z => left z && !z.sameKey (.int .i64 x)) cnt' → cnt' < cnt →
      w.grownBy w' (some r) → w'.heap.size = w.heap.size → (Instr.entry (.pointer (some ⟨r, 0, none⟩))).run Try.prog w' = .ok (.tuple #[.int .i64 x, c]) w' → wpList Try.prog ops Q rest (a.put o.dst (.tuple #[.bool true, .int .i64 x, c])) w') :
    wpList Try.prog ops Q (o :: rest) a w :=
  wpList_next_ranges w hg it hop 3 keyedI heldR (Value.int .i64) (fun v => v) (fun key kl hkey => by obtain ⟨x, rfl, _⟩ := Maps.keyOf_int_inv Try.underlying3 hkey; exact ⟨x, rfl⟩) (fun v y hv => ⟨v, rfl⟩)
    b r n D left cnt hit h hDone (fun x c kl y w' cnt' hkey hlk hv hat hrg hlt hgr hsz hen => by
      obtain ⟨x', ex, rfl, hwx⟩ := Maps.keyOf_int_inv Try.underlying3 hkey
      cases ex
      simp only [heldR, Option.some.injEq] at hv
      subst hv
      exact hMore x c w' cnt' hlk hat hrg hlt hgr hsz hen)
theorem ranges_kept {w w1 : World} {b r n : Nat} {D : DataW Value} {left : Lit → Bool} {cnt : Nat} {S : List Nat} (h : w.ranges Try.prog 3 heldR b r n D left cnt) (hk : Kept w w1 S) (hb : b ∉ S) (hr : r ∉ S) : w1.ranges Try.prog 3 heldR b r n D left cnt := by
  obtain ⟨es, clock, since, seen, c0, h1, h2, h3, h4, h5, h6⟩ := h
  refine ⟨es, clock, since, seen, c0, ?_, h2, h3, h4, ?_, h6⟩
  · rw [hk.block b ((Array.getElem?_eq_some_iff.1 h1).1) hb]; exact h1
  · rw [hk.block r ((Array.getElem?_eq_some_iff.1 h5).1) hr]; exact h5
theorem map_store {w : World} {b n : Nat} {D : DataW Value} (h : w.ownsMap Try.prog 3 heldR b n D) (hn : n ≤ 1000000000) (j : Nat) (hj : j < 4096) (v : Value) :
    ∃ w4, (Instr.mapUpdate 67 (.map (some b)) (.int .i64 j) v).run Try.prog w = .ok () w4 ∧ w4.ownsMap Try.prog 3 heldR b (n + 1) (D.put (.int .i64 j) (.held v)) ∧ Kept w w4 [b] := by
  obtain ⟨w4, hrun, hm4, ht4⟩ := h.store keyedI Try.underlying67 (by unfold maxLen; omega) (keyi (x := j) (by omega) (by omega)) (val := v) (d := .held v) (ps := []) rfl
  exact ⟨w4, hrun, hm4, kept_turned (Kept.refl w [b]) ht4 (.inl (by simp))⟩
theorem Own.ne_iter {w : World} {base : Nat} {v : Value} {l : List Int} {T : TypeId} {k : IntKind} (h : Own T k w base v l) {b r n : Nat} {D : DataW Value} {left : Lit → Bool} {cnt : Nat} (hr : w.ranges Try.prog 3 heldR b r n D left cnt) : v.ownBlock ≠ some r := by
  intro e
  obtain ⟨h1, ⟨rfl, _⟩ | ⟨g, cap, cur, rfl, hg, hc, _⟩⟩ := h
  · simp [Value.ownBlock] at e
  · simp [Value.ownBlock] at e
    subst e
    obtain ⟨es, clock, since, seen, c0, _, _, _, _, h5, _⟩ := hr
    rw [h5] at hc
    cases hc
/-- what a copy's map has so far: of the entries that are no more to come, each its own bytes -/
def CopyOf (w : World) (lo : Nat) (vl' : Value) (D D' : DataW Value) (left : Lit → Bool) (c : List (Option (List Int))) : Prop :=
  (∀ kl, Maps.has D' kl = true → Maps.has D kl = true) ∧
  ∀ (i : Nat) (l : List Int), c[i]?.join = some l → left (.int .i64 i) = false → ∃ v, Maps.has D' (.int .i64 i) = true ∧ (∀ z, D'.atKey (.int .i64 i) z = .held v) ∧ Own 5 .u8 w lo v l ∧ (∀ g, v.ownBlock = some g → vl'.ownBlock ≠ some g)
theorem CopyOf.step {wr w4 : World} {lo bc' nout : Nat} {vl' : Value} {D D' : DataW Value} {left : Lit → Bool} {c : List (Option (List Int))} {bc r n cnt : Nat} (h : CopyOf wr lo vl' D D' left c) (hm : wr.ownsMap Try.prog 3 heldR bc' nout D') (hr : wr.ranges Try.prog 3 heldR bc r n D left cnt)
    {i : Nat} {l : List Int} {v : Value} (hl : c[i]?.join = some l) (hh : Maps.has D (.int .i64 i) = true) (hk : Kept wr w4 [r, bc']) (hv : Own 5 .u8 w4 lo v l) (hg : ∀ g, v.ownBlock = some g → vl'.ownBlock ≠ some g) :
    CopyOf w4 lo vl' D (D'.put (.int .i64 i) (.held v)) (fun z => left z && !z.sameKey (.int .i64 i)) c := by
  have hne : ∀ j : Nat, j ≠ i → (Lit.int .i64 (j : Int)) ≠ .int .i64 (i : Int) := fun j hj e => hj (by injection e with _ e; omega)
  have hIs := hm.isMap
  refine ⟨fun kl hkl => ?_, fun j lj hj hf => ?_⟩
  · by_cases e : kl = .int .i64 (i : Int)
    · rw [e]; exact hh
    · rw [Maps.has_put_other e] at hkl
      exact h.1 kl hkl
  · by_cases e : j = i
    · subst e
      rw [hl] at hj
      simp only [Option.some.injEq] at hj
      subst hj
      exact ⟨v, Maps.has_put_same hIs (by simp [WideAt.IsKeyLit]) _, fun z => Maps.atKey_put_same hIs (by simp [WideAt.IsKeyLit]) _ z, hv, hg⟩
    · have hf' : left (.int .i64 j) = false := by
        have : (Lit.int .i64 (j : Int)).sameKey (.int .i64 (i : Int)) = false := Maps.sameKey_ne (hne j e)
        dsimp only at hf
        rw [this] at hf
        simpa using hf
      obtain ⟨v', q1, q2, q3, q4⟩ := h.2 j lj hj hf'
      refine ⟨v', by rw [Maps.has_put_other (hne j e)]; exact q1, fun z => by rw [Maps.atKey_put_other (hne j e)]; exact q2 z, q3.kept hk (fun g hgv hm' => ?_), q4⟩
      simp at hm'
      rcases hm' with rfl | rfl
      · exact Own.ne_iter q3 hr hgv
      · exact Own.ne_map q3 hm hgv
/-- maps.Clone of what is planned -/
theorem mclone_any (w : World) (b n : Nat) (D : DataW Value) (h : w.ownsMap Try.prog 3 Go.unitElem b n D) :
    Calls Try.prog 46 #[.map (some b)] w (Post w [] fun r W => r = .map (some w.heap.size) ∧ W.ownsMap Try.prog 3 Go.unitElem w.heap.size n D) :=
  (AnyW.maps_Clone_owns Try.cloneA 3 Go.unitElem b n D w h).mono fun e W ⟨he, h1, _, hb⟩ => ⟨_, he, ⟨rfl, h1⟩, Kept.of_below hb⟩
set_option maxRecDepth 100000 in
set_option maxHeartbeats 8000000 in
theorem copy_any (w : World) (b : Nat) (F : List Nat) (s : DiskS) (h : DiskAt w b F s) :
    Calls Try.prog 34 #[.pointer (some ⟨b, 0, none⟩)] w (Post w [] fun r W => ∃ b' F', r = .pointer (some ⟨b', 0, none⟩) ∧ DiskAt W b' F' s ∧ ∀ g, g ∈ F' → w.heap.size ≤ g) := by
  obtain ⟨vl, bc, bp, nc, Dc, np, Dp, hx⟩ := h
  have c0 := hx.blk.cell 0 rfl
  have c1 := hx.blk.cell 1 rfl
  have c2 := hx.blk.cell 2 rfl
  have c3 := hx.blk.cell 3 rfl
  have c4 := hx.blk.cell 4 rfl
  have c5 := hx.blk.cell 5 rfl
  have hblt := hx.blk.lt
  obtain ⟨bl, hsl, _⟩ := hx.las.sl
  obtain ⟨Al, cl, rfl⟩ := hsl.form
  have hmm := @run_makeMap Try.prog
  have hbd := bytes_bd hx.ok
  have HX := Lib.hid hx
  have HSL := Lib.hid hsl
  have HBD := Lib.hid hbd
  clear hx hsl hbd
  go_enter Try.func34, Try.ntmps34
  go_upto_region 2 with fail
  generalize hw1 : w.alloc (.cells #[.int .i64 s.size, .slice Al s.bytes.length cl, .map (some bc), .map (some bp), .int .i64 s.ops, .int .i64 s.writes] 70) = w1
  have k1 : Kept w w1 [] := by rw [← hw1]; exact (Kept.refl _ _).alloc _
  have hbn : Blk w1 w.heap.size 70 [.int .i64 s.size, .slice Al s.bytes.length cl, .map (some bc), .map (some bp), .int .i64 s.ops, .int .i64 s.writes] := by rw [← hw1]; exact Blk.new _ _ _
  have hz1 : w.heap.size < w1.heap.size := by rw [← hw1]; simp
  have K0 := Lib.hid k1
  clear hw1
  have d1 := k1.cell c1 (by simp)
  have d3 := k1.cell c3 (by simp)
  go_cut [3] from 9 to 22 (fun v wx => v = .pointer (some ⟨w.heap.size, 0, none⟩) ∧ ∃ vl' bc' bp', Blk wx w.heap.size 70 [.int .i64 s.size, vl', .map (some bc'), .map (some bp'), .int .i64 s.ops, .int .i64 s.writes] ∧ Own 5 .u8 wx w1.heap.size vl' s.bytes ∧
    wx.ownsMap Try.prog 3 heldR bc' 0 (.map []) ∧ wx.ownsMap Try.prog 3 Go.unitElem bp' np Dp ∧ w1.heap.size ≤ bc' ∧ w1.heap.size ≤ bp' ∧ bc' ≠ bp' ∧ Kept w1 wx [w.heap.size])
  case first =>
    have d1m := (((Kept.refl w1 []).alloc (.map #[] 0)).drew).cell d1 (by simp)
    have d3m := (((Kept.refl w1 []).alloc (.map #[] 0)).drew).cell d3 (by simp)
    have hbb : b ≠ w.heap.size := by omega
    have hblt1 : b < w1.heap.size := by omega
    go_region_held3 (fun W => W.cell? ⟨b, 1, none⟩ = some (.slice Al s.bytes.length cl) ∧ W.cell? ⟨b, 3, none⟩ = some (.map (some bp))) (first
      | (with_reducible exact ⟨d1, d3⟩) | (with_reducible exact ⟨d1m, d3m⟩) | (with_reducible exact ⟨d1a, d3a⟩) | (with_reducible exact ⟨d1c, d3c⟩) | (with_reducible exact ⟨d1am, d3am⟩) | (with_reducible exact ⟨d1cm, d3cm⟩) | (simp (disch := (show (_ : Nat) ≠ _; dsimp only; omega)) only [World.cell?_setCell_far]; first | with_reducible exact ⟨d1a, d3a⟩ | with_reducible exact ⟨d1c, d3c⟩ | with_reducible exact ⟨d1am, d3am⟩ | with_reducible exact ⟨d1cm, d3cm⟩ | (constructor <;> go_keep)) | (constructor <;> (refine Lib.cell?_alloc_some _ ?_) <;> (try simp (disch := (show (_ : Nat) ≠ _; dsimp only; omega)) only [World.cell?_setCell_far]) <;> (first | with_reducible exact d1a | with_reducible exact d3a | with_reducible exact d1c | with_reducible exact d3c)) | go_keep) (first
      | (go_at_call 37
         refine (clone_any _ _ bl 0 s.bytes ((HSL.out.kept k1 (by simp)).kept (by (first | with_reducible exact (Kept.refl w1 []).drew | with_reducible exact (Kept.refl w1 []).drew.alloc _ | with_reducible exact ((Kept.refl w1 []).alloc _).drew | with_reducible exact kC | with_reducible exact Kept.alloc kC _)) (by simp)) (by have := HBD.out; omega)).mono ?_
         rintro _ wa ⟨va, rfl, hva, ka⟩
         have kA : Kept w1 wa [] := Kept.trans (by (first | with_reducible exact (Kept.refl w1 []).drew | with_reducible exact (Kept.refl w1 []).drew.alloc _ | with_reducible exact ((Kept.refl w1 []).alloc _).drew | with_reducible exact kC | with_reducible exact Kept.alloc kC _)) ka (by simp)
         have hba := hbn.kept kA (by simp)
         have d1a := kA.cell d1 (by simp)
         have d3a := kA.cell d3 (by simp)
         have y1 := hba.cell 1 rfl
         have y2 := hba.cell 2 rfl
         have y3 := hba.cell 3 rfl
         have hbal := hba.lt
         have hbam := hba.alloc (.map #[] 0)
         have ma1 := hbam.cell 1 rfl
         have ma2 := hbam.cell 2 rfl
         have ma3 := hbam.cell 3 rfl
         have na1 := hbam.free 1
         have na2 := hbam.free 2
         have na3 := hbam.free 3
         have d1am := (Kept.alloc kA (.map #[] 0)).cell d1 (by simp)
         have d3am := (Kept.alloc kA (.map #[] 0)).cell d3 (by simp)
         have x1 := hba.free 1
         have x2 := hba.free 2
         have x3 := hba.free 3
         obtain ⟨Av, cv, rfl⟩ := hva.sl.choose_spec.1.form
         have hva' := Lib.hid hva)
      | (go_at_call 46
         refine (mclone_any _ bp np Dp (map_kept (map_kept HX.out.pla k1 (by simp)) (by (first | with_reducible exact (Kept.refl w1 []).drew | with_reducible exact (Kept.refl w1 []).drew.alloc _ | with_reducible exact ((Kept.refl w1 []).alloc _).drew | with_reducible exact kA | with_reducible exact Kept.alloc kA _)) (by simp))).mono ?_
         rintro _ wc ⟨_, rfl, ⟨rfl, hvc⟩, kc⟩
         have kC : Kept w1 wc [] := Kept.trans (by (first | with_reducible exact (Kept.refl w1 []).drew | with_reducible exact (Kept.refl w1 []).drew.alloc _ | with_reducible exact ((Kept.refl w1 []).alloc _).drew | with_reducible exact kA | with_reducible exact Kept.alloc kA _)) kc (by simp)
         have hbc := hbn.kept kC (by simp)
         have d1c := kC.cell d1 (by simp)
         have d3c := kC.cell d3 (by simp)
         have y1' := hbc.cell 1 rfl
         have y2' := hbc.cell 2 rfl
         have y3' := hbc.cell 3 rfl
         have hbcl := hbc.lt
         have hbcm := hbc.alloc (.map #[] 0)
         have mc1 := hbcm.cell 1 rfl
         have mc2 := hbcm.cell 2 rfl
         have mc3 := hbcm.cell 3 rfl
         have nc1 := hbcm.free 1
         have nc2 := hbcm.free 2
         have nc3 := hbcm.free 3
         have d1cm := (Kept.alloc kC (.map #[] 0)).cell d1 (by simp)
         have d3cm := (Kept.alloc kC (.map #[] 0)).cell d3 (by simp)
         have x1' := hbc.free 1
         have x2' := hbc.free 2
         have x3' := hbc.free 3
         have hvc' := Lib.hid hvc))
    all_goals (
      simp only [Exit.then]
      go_step
      go_meet
      case rel =>
        have kac : Kept wa wc [] := by first | with_reducible exact kc | exact ((Kept.refl wa []).alloc _).trans kc (by simp)
        have ho := Own.mono (base' := w1.heap.size) (hva'.out.kept kac (by simp [Apart])) (by simp)
        have hol : ∀ g, (Value.slice Av s.bytes.length cv).ownBlock = some g → w1.heap.size ≤ g := fun g hg => (ho.lt g hg).1
        have hsa := kA.size
        have hsc := kC.size
        have hop := hvc'.out
        try rw [show (wa.alloc (Obj.map #[] 0)).heap.size = wa.heap.size + 1 by simp] at hop
        first
        | (have g : Kept (wa.alloc (Obj.map #[] 0)) wc [] := by with_reducible exact kc
           have hm1 := map_kept (map_none wa heldR) g (by simp)
           refine ⟨rfl, _, _, _, (((hbc.set 1 _).set 2 _).set 3 _).to rfl, ((ho.far ?_ _).far ?_ _).far ?_ _, ((hm1.setCell ?_ _).setCell ?_ _).setCell ?_ _, ((hop.setCell ?_ _).setCell ?_ _).setCell ?_ _, ?_, ?_, ?_, (((kC.mono (by simp)).setCell (.inl ?_) _).setCell (.inl ?_) _).setCell (.inl ?_) _⟩
           all_goals first | (intro hg; have := hol _ hg; dsimp only at this; omega) | (simp; done) | (simp; omega) | omega)
        | (have g : Kept w1.drew wa [] := by with_reducible exact ka
           refine ⟨rfl, _, wc.heap.size, wa.heap.size, ((((hbc.set 1 _).set 2 _).set 3 _).alloc _).to rfl, (((ho.far ?_ _).far ?_ _).far ?_ _).alloc _, by simpa using map_none (((wc.setCell ⟨w.heap.size, 1, none⟩ (Value.slice Av s.bytes.length cv)).setCell ⟨w.heap.size, 2, none⟩ (.map (some wc.heap.size))).setCell ⟨w.heap.size, 3, none⟩ (.map (some wa.heap.size))) heldR, (((hop.setCell ?_ _).setCell ?_ _).setCell ?_ _).alloc _, ?_, ?_, ?_, ((((kC.mono (by simp)).setCell (.inl ?_) _).setCell (.inl ?_) _).setCell (.inl ?_) _).alloc _⟩
           all_goals first | (intro hg; have := hol _ hg; dsimp only at this; omega) | (simp; done) | (simp; omega) | (have := hvc'.out.lt; omega))
        | (have hm1 := map_kept (map_kept ((map_none w1 heldR).drew) ka (by simp)) kc (by simp)
           have hs3 := ka.size
           simp at hs3
           refine ⟨rfl, _, _, _, (((hbc.set 1 _).set 2 _).set 3 _).to rfl, ((ho.far ?_ _).far ?_ _).far ?_ _, ((hm1.setCell ?_ _).setCell ?_ _).setCell ?_ _, ((hop.setCell ?_ _).setCell ?_ _).setCell ?_ _, ?_, ?_, ?_, (((kC.mono (by simp)).setCell (.inl ?_) _).setCell (.inl ?_) _).setCell (.inl ?_) _⟩
           all_goals first | (intro hg; have := hol _ hg; dsimp only at this; omega) | (simp; done) | (simp; omega) | omega))
  case rest =>
    obtain ⟨rfl, vl', bc', bp', hbn', hvl', hmc, hmp, hb1, hb2, hb3, kx⟩ := hcut
    have hx := HX.out
    have hbbn : b ≠ w.heap.size := by omega
    have hcF := hx.lt bc hx.fc
    have e2 : wc.cell? ⟨b, 2, none⟩ = some (.map (some bc)) := kx.cell (k1.cell c2 (by simp)) (by simpa using hbbn)
    have hcc : wc.ownsMap Try.prog 3 heldR bc nc Dc := map_kept (map_kept hx.cac k1 (by simp)) kx (by simp; omega)
    have hrows : ∀ (i : Nat) (l : List Int), s.cach[i]?.join = some l → ∀ v, (∀ z, Dc.atKey (.int .i64 i) z = .held v) → Own 5 .u8 wc 0 v l ∧ ∀ g, v.ownBlock = some g → g < w.heap.size := by
      intro i l hl v hv
      obtain ⟨v', _, q2, q3, q4⟩ := hx.cof.yes i l hl
      have e := (hv (.held v)).symm.trans (q2 (.held v))
      injection e with e
      subst e
      refine ⟨(q3.kept k1 (by simp [Apart])).kept kx ?_, fun g hg => hx.lt g (q4 g hg).1⟩
      intro g hg hm
      have := hx.lt g (q4 g hg).1
      simp at hm
      omega
    have hhas : ∀ x : Int, Maps.has Dc (.int .i64 x) = true → ∃ (i : Nat) (l : List Int), x = i ∧ i < 4096 ∧ s.cach[i]?.join = some l := by
      intro x hh
      obtain ⟨i, hi, e⟩ := hx.cof.key _ hh
      injection e with _ e
      subst e
      cases hc : s.cach[i]?.join with
      | some l => exact ⟨i, l, rfl, by have := hx.ok.nc; have := hx.ok.n1; omega, hc⟩
      | none => rw [hx.cof.no i hi hc] at hh; cases hh
    have hszD := hcc.size_le
    have hkey := hx.cof.key
    have HROWS := Lib.hid hrows
    have HYES : Hid (∀ (i : Nat) (l : List Int), s.cach[i]?.join = some l → Maps.has Dc (.int .i64 i) = true) := Lib.hid (fun i l hl => let ⟨_, q, _⟩ := hx.cof.yes i l hl; q)
    have HHAS := Lib.hid hhas
    have HNO := Lib.hid hx.cof.no
    have HPO := Lib.hid hx.pof
    have HNP := Lib.hid hx.npl
    have HOK := Lib.hid hx.ok
    have HKEY := Lib.hid hkey
    have HBN := Lib.hid hbn'
    have HVL := Lib.hid hvl'
    have HMP := Lib.hid hmp
    have HMC := Lib.hid hmc
    have KX := Lib.hid kx
    have HWS := Lib.hid k1.size
    have hncl := hx.ncl
    have hwr := hx.ok.wr
    have hopn := hx.ok.op
    have hcsec := Lib.hid hx.ok.cs
    have hs2 := hx.ok.s2
    clear hrows hhas hkey hbn' hvl' hmp hmc hx kx k1
    go_wp2_with (first
      | (at_range; refine wpList_range_own _ rfl _ 67 rfl 3 22 keyedI Try.underlying67 heldR bc nc Dc rfl hcc ?_; intro w0 hrg0 hg0 hs0)
      | go_in)
    go_frame
    have kc0 : Kept wc w0 [bc'] := (Kept.grown hg0 [] (by simp)).mono (by simp)
    have hm0 := map_kept HMC.out (Kept.grown hg0 [] (by simp)) (by simp)
    have HG0 := Lib.hid hg0
    clear hg0
    go_loopg [4] (Maps.size Dc) (fun g _ wr => ∃ (left : Lit → Bool) (Dout : DataW Value) (nout : Nat), wr.ranges Try.prog 3 heldR bc wc.heap.size nc Dc left g ∧ nout + g ≤ nc ∧ wr.ownsMap Try.prog 3 heldR bc' nout Dout ∧ CopyOf wr w1.heap.size vl' Dc Dout left s.cach ∧ Kept wc wr [bc'])
    case atStart =>
      refine ⟨_, .map [], 0, hrg0, by omega, hm0, ⟨fun kl h => (by cases h), fun i l hl hf => ?_⟩, kc0⟩
      rw [HYES.out i l hl] at hf
      cases hf
    case round =>
      obtain ⟨left, Dout, nout, hrg, hno, hout, hcp, hkr⟩ := hrel
      have HOUT := Lib.hid hout
      have HCP := Lib.hid hcp
      have HKR := Lib.hid hkr
      clear hout hcp hkr
      go_wp2_with (first
        | (at_next; refine next_held _ rfl _ rfl bc wc.heap.size nc Dc left gk rfl hrg ?_ ?_)
        | go_in)
      · intro hc0 hl0
        go_wp2
        go_ret
        have hk := HKR.out
        have hwz := hk.size
        have hwz1 := KX.out.size
        have hws := HWS.out
        have hvl := HVL.out
        have hvb : ∀ g, vl'.ownBlock = some g → w1.heap.size ≤ g ∧ g < wc.heap.size := hvl.lt
        have hF : ∀ g, g ∈ List.range' w.heap.size (wr.heap.size - w.heap.size) ↔ w.heap.size ≤ g ∧ g < wr.heap.size := by
          intro g
          rw [List.mem_range'_1]
          omega
        refine ⟨_, rfl, ⟨w.heap.size, List.range' w.heap.size (wr.heap.size - w.heap.size), rfl, ⟨vl', bc', bp', nout, Dout, np, Dp, ?_⟩, fun g hg => ((hF g).1 hg).1⟩, ?_⟩
        · refine ⟨HOK.out, HBN.out.kept hk (by simp; omega), Own.mono (hvl.kept hk (fun g hg hm => by simp at hm; subst hm; exact Own.ne_map hvl HMC.out hg)) (Nat.zero_le _), HOUT.out, by omega, ⟨?_, ?_, ?_⟩, map_kept HMP.out hk (by simp; exact fun e => hb3 e.symm), HNP.out, HPO.out, hb3, (hF _).2 ?_, (hF _).2 ?_, (hF _).2 ?_, fun g hg => (hF g).2 ?_, fun g hg => ((hF g).1 hg).2⟩
          · intro i hi hn
            cases hh : Maps.has Dout (.int .i64 i) with
            | false => rfl
            | true =>
              have := HCP.out.1 _ hh
              rw [HNO.out i hi hn] at this
              cases this
          · intro i l hl
            obtain ⟨v, q1, q2, q3, q4⟩ := HCP.out.2 i l hl (hl0 _)
            refine ⟨v, q1, q2, Own.mono q3 (Nat.zero_le _), fun g hg => ⟨(hF g).2 ?_, q4 g hg⟩⟩
            have := q3.lt g hg
            omega
          · intro kl hkl
            exact HKEY.out kl (HCP.out.1 kl hkl)
          · have := HBN.out.lt; omega
          · have := HOUT.out.lt; omega
          · have := HMP.out.lt; omega
          · have := hvb g hg; omega
        · refine ⟨hk.os.trans (KX.out.os.trans K0.out.os), hk.tape.trans (KX.out.tape.trans K0.out.tape), hk.output.trans (KX.out.output.trans K0.out.output), by omega, fun g hg _ => ?_⟩
          rw [hk.block g (by omega) (by simp; omega), KX.out.block g (by omega) (by simp; omega), K0.out.block g hg (by simp)]
      · intro x c w2 cnt1 hlx hat hrg1 hlt hg1 hs1 hen
        obtain ⟨i, l, rfl, hi, hl⟩ := HHAS.out x (Maps.has_true_of_atKey hat)
        obtain ⟨hrow, hlo⟩ := HROWS.out i l hl c hat
        have k2 : Kept wr w2 [wc.heap.size] := Kept.grown hg1 _ (by simp)
        have hk := HKR.out
        have hwz := hk.size
        have hwz1 := KX.out.size
        have hws := HWS.out
        have hrow2 : Own 5 .u8 w2 0 c l := (hrow.kept hk (fun g hg hm => by have := hlo g hg; simp at hm; omega)).kept k2 (fun g hg hm => by have := hlo g hg; simp at hm; omega)
        obtain ⟨bcv, hsl, _⟩ := hrow2.sl
        obtain ⟨Ac, cc, rfl⟩ := hsl.form
        have hout2 := map_kept HOUT.out k2 (by have := HMC.out.lt; simp; omega)
        have hlsec := hcsec.out l (mem_join hl)
        have z2 : w2.cell? ⟨w.heap.size, 2, none⟩ = some (.map (some bc')) := ((HBN.out.kept hk (by simp; omega)).kept k2 (by have := HBN.out.lt; simp; omega)).cell 2 rfl
        have z2d : w2.drew.cell? ⟨w.heap.size, 2, none⟩ = some (.map (some bc')) := z2
        have K2 := Lib.hid k2
        have HSL2 := Lib.hid hsl
        have HOUT2 := Lib.hid hout2
        have HLS := Lib.hid hlsec
        have HRG := Lib.hid hrg
        have HRG1 := Lib.hid hrg1
        have HHX := Lib.hid (Maps.has_true_of_atKey hat)
        have HL := Lib.hid hl
        have HS1 := Lib.hid hs1
        clear k2 hsl hout2 hlsec hrg hrg1 hrow hrow2 hlo hat hlx hg1 hl hs1
        go_wp2_with fail
        go_region_held3 (fun W => W.cell? ⟨w.heap.size, 2, none⟩ = some (.map (some bc'))) (first | (with_reducible exact z2d) | (with_reducible exact z3) | (with_reducible exact z4) | go_keep) (first | (
          go_at_call 37
          refine (clone_any _ _ bcv 0 l HSL2.out.drew (by have := HLS.out.1; omega)).mono ?_
          rintro _ w3 ⟨v, rfl, hv, k3⟩
          have z3 := k3.cell (w := w2.drew) z2 (by simp)
          obtain ⟨w4, hrun, hm4, k4⟩ := map_store (map_kept (w := w2.drew) HOUT2.out k3 (by simp)) (by omega) i hi v
          have z4 := k4.cell z3 (by simp; omega)
          have hm4' := Lib.hid hm4
          clear hm4))
        all_goals (
          have k24 : Kept w2 w4 [bc'] := ((Kept.refl w2 [bc']).drew.trans k3 (by simp)).trans k4 (fun g hg => .inl hg)
          have kr4 : Kept wr w4 [wc.heap.size, bc'] := (K2.out.mono (S2 := [wc.heap.size, bc']) (by simp)).trans k24 (by simp)
          have hv4 : Own 5 .u8 w4 w2.heap.size v l := hv.kept k4 (fun g hg hm => by
            simp at hm; subst hm
            have h1 := (hv.lt _ hg).1
            have h2 := HOUT2.out.lt
            have h3 : w2.drew.heap.size = w2.heap.size := rfl
            omega)
          have K24 := Lib.hid k24
          have KR4 := Lib.hid kr4
          have HV4 := Lib.hid hv4
          clear k24 kr4 hv4 k3 k4 z2 z2d z3 z4 hrun hv
          go_wp2_with fail
          go_roundg cnt1
          case measure => exact hlt
          case rel =>
            have hw2 := HS1.out
            refine ⟨_, _, nout + 1, ranges_kept HRG1.out K24.out ?_ ?_, by omega, hm4'.out, CopyOf.step HCP.out HOUT.out HRG.out HL.out HHX.out KR4.out (Own.mono HV4.out (by omega)) ?_, HKR.out.trans KR4.out (by simp)⟩
            · have := HRG.out.owns.lt; simp; intro e; omega
            · have := HMC.out.lt; simp; omega
            · intro g hg e
              have h1 := (HV4.out.lt g hg).1
              have h2 := (HVL.out.lt g e).2
              omega)
end Go.Proofs.Ytihfbceafehcjaa
