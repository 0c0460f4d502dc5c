/- PROVED: the walk of DiskFails. No conditions beyond those that each theorem states. -/
import Derived.Test.YtihfbceafehcjaaDkCp
import Derived.Test.YtihfbceafehcjaaDkCo
namespace Go.Proofs.Ytihfbceafehcjaa
open Go.RowKit Go.Proofs.YtihfbceafehcjaaLib Go.WideElems Go.Maps
set_option linter.unusedSimpArgs false
set_option linter.unusedVariables false

/-- an append in a region that draws, its run known -/
theorem step_append_at {P : Program} {ops : Array Oper} {o : Oper} {a : Act} {w w' W0 : World} {K : Act → World → Prop} {Q : Exit → Act → World → Prop} {E : Prop} {v1 v2 v' : Value} (t ty : TypeId) (hr : (Builtin.append_ #[t, t] ty #[v1, v2]).run P W0 = .ok v' w') (s x : Operand) (hW : w = W0) (hgd : o.guard = none)
    (ho : o.op = .call { callee := .builtin .append, args := #[s, x], argTypes := #[t, t] }) (hty : o.type = ty) (hs : a.eval s = v1) (hx : a.eval x = v2)
    (h : K (a.put o.dst v') w') : if Region.wanted o (yielded ops a.tmps) = true then Oper.wp P o a w K Q else E := by
  subst hW
  subst hty
  have hw : Region.wanted o (yielded ops a.tmps) = true := by simp [Region.wanted, hgd]
  rw [if_pos hw]
  unfold Oper.wp
  simp [execOp, ho, resolve, invoke, builtin, hs, hx, hr, Result.andThen]
  exact h
/-- append(d, l...), d empty and the call's own -/
theorem ops_append0 (W : World) (B B1 base : Nat) (d v : Value) (l : List DkOp) (h : SliceAt (OpK B) 4 W B1 v l) (ho : W.ownsRow base 47 4 d 0 []) (hB : B ≤ W.heap.size) (hbase : base ≤ W.heap.size) (hBb : B ≤ base) (hl : l.length * 64 ≤ 140737488351232) :
    ∃ v' w' cells, (Builtin.append_ #[40, 40] 40 #[d, v]).run Try.prog W = .ok v' w' ∧
      w'.ownsRow base 47 4 v' l.length cells ∧ RowOf (OpK B) 4 w' cells l ∧ Kept W w' d.ownBlock.toList := by
  obtain ⟨i0, hi, hz0, hz1, hz2⟩ := info_parts infoOp
  obtain ⟨cells, hr, h1, hc⟩ := SliceAt.row h (by decide) (fun cs x => OpK.one)
  obtain ⟨A, c, rfl, q1, q2⟩ := SliceAt.form h
  have hBk : ∀ g, g ∈ d.ownBlock.toList → B ≤ g := fun g hg => by simp only [Option.mem_toList] at hg; exact Nat.le_trans hBb (ho.lt g hg).1
  cases A with
  | none =>
    have hl0 : l = [] := by
      obtain ⟨A, c', e, _, _, h3⟩ := h
      rcases h3 with h3 | ⟨b, off, rfl, _⟩
      · exact h3
      · simp at e
    subst hl0
    refine ⟨_, _, [], ?_, ho, RowOf.nil _ _ _, Kept.refl _ _⟩
    obtain ⟨_, ⟨rfl, _⟩ | ⟨g, cap, cur, rfl, _, _, hnc, _⟩⟩ := ho
    · simp [Builtin.append_, run_underlying Try.underlying40, sizeOf, typeInfo, hi, Builtin.lenOf, Builtin.firstCells]
    · simp [Builtin.append_, run_underlying Try.underlying40, sizeOf, typeInfo, hi, Builtin.lenOf, Builtin.firstCells, hnc, storeCells]
  | some a =>
    obtain ⟨v', w', hrun, hown, hg, hn⟩ := run_append_own (P := Try.prog) W base 40 40 47 i0 _ 4 64 Try.underlying40 hi hz0 hz1 hz2 rfl (by decide) _ 0 [] ho a l.length c cells hr.1 (fun j u hj => hc a _ _ rfl j u hj) h1 (by unfold maxLen; omega) (by omega) hbase
    rw [Nat.zero_add, List.nil_append] at hown
    have hk2 : Kept W w' d.ownBlock.toList := Kept.grown hg _ (by intro g hg; simp [hg])
    exact ⟨v', w', cells, hrun, hown, hr.mono (fun cs x hx => hx.kept hk2 hB hBk), hk2⟩
/-- append(that, o): o's cells lie in a block of their own -/
theorem ops_append3 (W : World) (B base : Nat) (v : Value) (l : List DkOp) (cells : List Value) (h : W.ownsRow base 47 4 v l.length cells) (hr : RowOf (OpK B) 4 W cells l) (hB : B ≤ W.heap.size) (hBb : B ≤ base) (hbase : base ≤ W.heap.size) (hl : (l.length + 1) * 64 ≤ 140737488355328)
    (cs : List Value) (o : DkOp) (ho : OpK B W cs o) (hn : cs.length = 4) (q T : Nat) (hq : Blk W q T cs) :
    ∃ v' w', (Builtin.append_ #[40, 40] 40 #[v, .slice (some ⟨q, 0, none⟩) 1 1]).run Try.prog W = .ok v' w' ∧
      SliceAt (OpK B) 4 w' w'.heap.size v' (l ++ [o]) ∧ Kept W w' v.ownBlock.toList := by
  obtain ⟨i0, hi, hz0, hz1, hz2⟩ := info_parts infoOp
  obtain ⟨v', w', hrun, hown, hg, hn'⟩ := run_append_own (P := Try.prog) W base 40 40 47 i0 _ 4 64 Try.underlying40 hi hz0 hz1 hz2 rfl (by decide) v l.length cells h ⟨q, 0, none⟩ 1 1 cs (by omega)
    (fun j u hj => by rw [Addr.add_lit]; exact hq.cell (0 + j) (by rw [Nat.zero_add]; exact hj)) ho.one (by unfold maxLen; omega) hl hbase
  have hk2 : Kept W w' v.ownBlock.toList := Kept.grown hg v.ownBlock.toList (by intro g hg; simp [hg])
  have hBk : ∀ g, g ∈ v.ownBlock.toList → B ≤ g := by
    intro g hg
    simp only [Option.mem_toList] at hg
    exact Nat.le_trans hBb (h.lt g hg).1
  refine ⟨v', w', hrun, ?_, hk2⟩
  exact SliceAt.of_row (K := OpK B) (l := l ++ [o]) (by simpa using hown) ((hr.append (RowOf.one hn ho)).mono (fun cs x hx => hx.kept hk2 hB hBk))
theorem tears8 (W : World) (F : List Nat) (hF : ∀ g, g ∈ F → g < W.heap.size) : TearsAt (W.alloc (.cells #[.int .i64 1, .slice none 0 0, .int .i64 1, .slice none 0 0, .int .i64 1, .slice none 0 0, .int .i64 1, .slice none 0 0, .int .i64 1, .slice none 0 0, .int .i64 1, .slice none 0 0, .int .i64 1, .slice none 0 0, .int .i64 1, .slice none 0 0] 62)) F (.slice (some ⟨W.heap.size, 0, none⟩) 8 8) (List.replicate 8 (1, [])) := by
  have hb := Blk.new W 62 [.int .i64 1, .slice none 0 0, .int .i64 1, .slice none 0 0, .int .i64 1, .slice none 0 0, .int .i64 1, .slice none 0 0, .int .i64 1, .slice none 0 0, .int .i64 1, .slice none 0 0, .int .i64 1, .slice none 0 0, .int .i64 1, .slice none 0 0]
  refine ⟨_, 8, rfl, Nat.le_refl _, by unfold maxLen; omega, fun i t hi => ?_⟩
  have hlt : i < 8 := by have := (List.getElem?_eq_some_iff.1 hi).1; simpa using this
  have ht : t = (1, []) := by
    have := List.mem_of_getElem? hi
    rw [List.mem_replicate] at this
    exact this.2
  subst ht
  have hn : W.heap.size ∉ F := fun hm => by have := hF _ hm; omega
  have hv : BtsAt (W.alloc (.cells #[.int .i64 1, .slice none 0 0, .int .i64 1, .slice none 0 0, .int .i64 1, .slice none 0 0, .int .i64 1, .slice none 0 0, .int .i64 1, .slice none 0 0, .int .i64 1, .slice none 0 0, .int .i64 1, .slice none 0 0, .int .i64 1, .slice none 0 0] 62)) F (.slice none 0 0) [] := ⟨0, 0, Sl.nil _ _ _ _, Bts.nil, .inl rfl⟩
  refine ⟨W.heap.size, 0, .slice none 0 0, rfl, hn, ?_, ?_, hv⟩
  · apply hb.cell
    rcases (by omega : i = 0 ∨ i = 1 ∨ i = 2 ∨ i = 3 ∨ i = 4 ∨ i = 5 ∨ i = 6 ∨ i = 7) with rfl | rfl | rfl | rfl | rfl | rfl | rfl | rfl <;> rfl
  · apply hb.cell
    rcases (by omega : i = 0 ∨ i = 1 ∨ i = 2 ∨ i = 3 ∨ i = 4 ∨ i = 5 ∨ i = 6 ∨ i = 7) with rfl | rfl | rfl | rfl | rfl | rfl | rfl | rfl <;> rfl
theorem fail_step (s : DiskS) (o : DkOp) (h0 : 0 ≤ o.kind) (h2 : o.kind ≤ 2) : (s.fail ((s.ops : Int) + 1)).step o = ((s.fail ((s.ops : Int) + 1)).tick, ([], 3)) := by
  have hf : (s.fail ((s.ops : Int) + 1)).fails = true := by
    show (s.plan ((s.ops : Int) + 1) || ((s.ops : Int) + 1 == (s.ops : Int) + 1)) = true
    simp
  rcases (s.fail ((s.ops : Int) + 1)).step_kind o with ⟨q, e⟩ | ⟨q, e⟩ | ⟨q, e⟩ | ⟨q, e⟩ | ⟨q, _, _, e⟩ | ⟨q0, q1, q2, q3, e⟩
  · rw [e]; unfold DiskS.write; rw [if_pos hf]
  · rw [e]; unfold DiskS.read; rw [if_pos hf]
  · rw [e]; unfold DiskS.sync; rw [if_pos hf]
  · omega
  · omega
  · omega
theorem blk4 {W : World} {b T : Nat} {a0 a1 a2 a3 : Value} (h : Blk W b T [a0, a1, a2, a3]) : W.cell? ⟨b, 0, none⟩ = some a0 ∧ W.cell? ⟨b, 1, none⟩ = some a1 ∧ W.cell? ⟨b, 2, none⟩ = some a2 ∧ W.cell? ⟨b, 3, none⟩ = some a3 := ⟨h.cell 0 rfl, h.cell 1 rfl, h.cell 2 rfl, h.cell 3 rfl⟩
theorem empty_own (W : World) : (W.alloc (.cells #[] 47)).ownsRow W.heap.size 47 4 (.slice (some ⟨W.heap.size, 0, none⟩) 0 0) 0 [] := World.ownsRow_made W #[] 0 (Nat.le_refl _) (Nat.zero_le _) rfl
set_option maxRecDepth 100000 in
set_option maxHeartbeats 4000000 in
theorem DiskFails_walk (w : World) (v ov : Value) (l : List DkOp) (o : DkOp) (h : SliceAt (OpK w.heap.size) 4 w w.heap.size v l) (ho : ∃ cs : List Value, ov = .agg cs.toArray ∧ cs.length = 4 ∧ OpK w.heap.size w cs o) (hl : l.length * 64 ≤ 140737488351232) :
    Calls Try.prog 9 #[v, ov] w (fun e W => e = .returned (.bool true) ∧ Below w.heap.size w W) := by
  obtain ⟨A, c, rfl, hc1, hc2⟩ := SliceAt.form h
  obtain ⟨cs, rfl, _, hok⟩ := ho
  obtain ⟨bv, tv, rfl, hob, hot, hoi, hkd, _⟩ := id hok
  obtain ⟨Ab, cb, rfl, _⟩ := SliceAt.form hob
  obtain ⟨At, ct, rfl, _⟩ := SliceAt.form hot
  have H := Lib.hid h
  have HO := Lib.hid hok
  have HOB := Lib.hid hob
  have HOT := Lib.hid hot
  unfold maxLen at hc2
  have l0 : (0 : Int) ≤ l.length := by omega
  have l1 : (l.length : Int) ≤ 9223372036854775807 := by omega
  have HKD := Lib.hid hkd
  have HOI := Lib.hid hoi
  clear h hc2 hok hob hot hkd hoi
  go_enter Try.func9, Try.ntmps9
  go_wp2_with fail
  generalize hwb : w.alloc (.cells #[.int .u8 o.kind, .int .i64 o.i, .slice Ab o.b.length cb, .slice At o.t.length ct] 47) = wb
  have kb : Kept w wb [] := by rw [← hwb]; exact (Kept.refl _ _).alloc _
  have hbx : Blk wb w.heap.size 47 [.int .u8 o.kind, .int .i64 o.i, .slice Ab o.b.length cb, .slice At o.t.length ct] := by rw [← hwb]; exact Blk.new _ _ _
  have HBX := Lib.hid hbx
  have KB := Lib.hid kb
  clear hwb hbx kb
  (with_reducible refine (awake_any _).mono ?_)
  rintro _ w1 ⟨_, rfl, rfl, k1⟩
  have hb1 := HBX.out.kept k1 (by simp)
  have K1 := Lib.hid (KB.out.trans k1 (by simp))
  have HB1 := Lib.hid hb1
  clear k1
  have d0 := hb1.cell 0 rfl
  have d1 := hb1.cell 1 rfl
  have d2 := hb1.cell 2 rfl
  have d3 := hb1.cell 3 rfl
  clear hb1
  go_upto_region 2 with fail
  go_cut [6] from 13 to 19 (fun v6 wx => ∃ x : Bool, v6 = .bool x ∧ (x = true → l.length ≤ 40) ∧ Kept w1 wx [])
  case first =>
    obtain ⟨cO, hcO⟩ : ∃ cO : List Value, cO = [.int .u8 o.kind, .int .i64 o.i, .slice Ab o.b.length cb, .slice At o.t.length ct] := ⟨_, rfl⟩
    have hk1 : Kept w1 ((w1.alloc (.cells #[] 47)).drew) [] := ((Kept.refl _ _).alloc _).drew
    have hk2 : Kept w1 (((w1.alloc (.cells #[] 47)).alloc (.cells cO.toArray 47)).drew) [] := (((Kept.refl _ _).alloc _).alloc _).drew
    have hk3 : Kept w1 (((w1.alloc (.cells cO.toArray 47)).alloc (.cells #[] 47)).drew) [] := (((Kept.refl _ _).alloc _).alloc _).drew
    have hs1 := K1.out.size
    have hz : ∀ W, Kept w1 W [] → Kept w W [] ∧ w.heap.size ≤ W.heap.size := fun W hW => ⟨K1.out.trans hW (by simp), (K1.out.trans hW (S := []) (by simp)).size⟩
    have hOK : ∀ W, Kept w1 W [] → SliceAt (OpK w.heap.size) 4 W w.heap.size (.slice A l.length c) l ∧ OpK w.heap.size W cO o := fun W hW => ⟨K_ops H.out (hz W hW).1 (Nat.le_refl _), by rw [hcO]; exact HO.out.kept (hz W hW).1 (Nat.le_refl _) (by simp)⟩
    obtain ⟨va, wa, ca, ra, oa, ha, ka⟩ := ops_append0 ((w1.alloc (.cells #[] 47)).drew) w.heap.size w.heap.size w1.heap.size _ _ l (hOK _ hk1).1 (empty_own w1) (by simp; omega) (by simp) (by omega) hl
    obtain ⟨vb, wb', cb', rb, ob, hb', kb⟩ := ops_append0 (((w1.alloc (.cells #[] 47)).alloc (.cells cO.toArray 47)).drew) w.heap.size w.heap.size w1.heap.size _ _ l (hOK _ hk2).1 ((empty_own w1).alloc _) (by simp; omega) (by simp; omega) (by omega) hl
    have h03 : ((w1.alloc (.cells cO.toArray 47)).alloc (.cells #[] 47)).ownsRow (w1.heap.size + 1) 47 4 (.slice (some ⟨w1.heap.size + 1, 0, none⟩) 0 0) 0 [] := by simpa using empty_own (w1.alloc (.cells cO.toArray 47))
    obtain ⟨vc, wc, cc, rc, oc, hc', kc⟩ := ops_append0 (((w1.alloc (.cells cO.toArray 47)).alloc (.cells #[] 47)).drew) w.heap.size w.heap.size (w1.heap.size + 1) _ _ l (hOK _ hk3).1 h03 (by simp; omega) (by simp) (by omega) hl
    have kA : Kept w1 wa [] := hk1.trans ka (by simp [Value.ownBlock])
    have kB : Kept w1 wb' [] := hk2.trans kb (by simp [Value.ownBlock])
    have kC : Kept w1 wc [] := hk3.trans kc (by simp [Value.ownBlock])
    have kA' : Kept w1 (wa.alloc (.cells cO.toArray 47)) [] := kA.alloc _
    obtain ⟨va2, wa2, ra2, sa2, ka2⟩ := ops_append3 (wa.alloc (.cells cO.toArray 47)) w.heap.size w1.heap.size va l ca (oa.alloc _) (ha.mono (fun cs x hx => hx.kept ((Kept.refl wa []).alloc _) (hz _ kA).2 (by simp))) (hz _ kA').2 hs1 (kA'.size) (by omega) cO o (hOK _ kA').2 (by rw [hcO]; rfl) wa.heap.size _ (Blk.new _ _ _)
    obtain ⟨vb2, wb2, rb2, sb2, kb2⟩ := ops_append3 wb' w.heap.size w1.heap.size vb l cb' ob hb' (hz _ kB).2 hs1 kB.size (by omega) cO o (hOK _ kB).2 (by rw [hcO]; rfl) (w1.heap.size + 1) 47 (Blk.kept (by simpa using (Blk.new (w1.alloc (.cells #[] 47)) 47 cO).drew) kb (by simp [Value.ownBlock]))
    obtain ⟨vc2, wc2, rc2, sc2, kc2⟩ := ops_append3 wc w.heap.size (w1.heap.size + 1) vc l cc oc hc' (hz _ kC).2 (by omega) (by have := kc.size; simp at this; omega) (by omega) cO o (hOK _ kC).2 (by rw [hcO]; rfl) w1.heap.size 47 (Blk.kept (((Blk.new w1 47 cO).alloc _).drew) kc (by simp [Value.ownBlock]))
    have kA2 : Kept w1 wa2 [] := kA'.trans ka2 (fun g hg => .inr (by simp only [Option.mem_toList] at hg; exact (oa.lt g hg).1))
    have kB2 : Kept w1 wb2 [] := kB.trans kb2 (fun g hg => .inr (by simp only [Option.mem_toList] at hg; exact (ob.lt g hg).1))
    have kC2 : Kept w1 wc2 [] := kC.trans kc2 (fun g hg => .inr (by simp only [Option.mem_toList] at hg; have := (oc.lt g hg).1; omega))
    have hbl := HB1.out
    have e0 := blk4 (hbl.drew)
    have e1 := blk4 (hbl.kept kA (by simp))
    have e2 := blk4 (hbl.kept kB (by simp))
    have e3 := blk4 (hbl.kept kC (by simp))
    have e4 := blk4 (hbl.kept kA2 (by simp))
    have e5 := blk4 (hbl.kept kB2 (by simp))
    have e6 := blk4 (hbl.kept kC2 (by simp))
    have e7 := blk4 (hbl.kept hk1 (by simp))
    have e8 := blk4 (hbl.kept hk2 (by simp))
    have e9 := blk4 (hbl.kept hk3 (by simp))
    have e10 := blk4 (hbl.kept kA' (by simp))
    have hz1 : w.heap.size < w1.heap.size := hbl.lt
    have RA := Lib.hid ra
    have RB := Lib.hid rb
    have RC := Lib.hid rc
    have RA2 := Lib.hid ra2
    have RB2 := Lib.hid rb2
    have RC2 := Lib.hid rc2
    have KA2 := Lib.hid kA2
    have KB2 := Lib.hid kB2
    have KC2 := Lib.hid kC2
    have SA := Lib.hid sa2
    have SB := Lib.hid sb2
    have SC := Lib.hid sc2
    have E0 := Lib.hid e0
    have E1 := Lib.hid e1
    have E2 := Lib.hid e2
    have E3 := Lib.hid e3
    have E4 := Lib.hid e4
    have E5 := Lib.hid e5
    have E6 := Lib.hid e6
    have E7 := Lib.hid e7
    have E8 := Lib.hid e8
    have E9 := Lib.hid e9
    have E10 := Lib.hid e10
    subst hcO
    clear ra rb rc ra2 rb2 rc2 kA2 kB2 kC2 sa2 sb2 sc2 oa ob oc ha hb' hc' ka kb kc ka2 kb2 kc2 kA kB kC kA' hk1 hk2 hk3 hOK hz h03 e0 e1 e2 e3 e4 e5 e6 e7 e8 e9 e10 hbl
    go_region_held3 (fun W => W.cell? ⟨w.heap.size, 0, none⟩ = some (.int .u8 o.kind) ∧ W.cell? ⟨w.heap.size, 1, none⟩ = some (.int .i64 o.i) ∧ W.cell? ⟨w.heap.size, 2, none⟩ = some (.slice Ab o.b.length cb) ∧ W.cell? ⟨w.heap.size, 3, none⟩ = some (.slice At o.t.length ct)) (first
      | (with_reducible exact E0.out) | (with_reducible exact E1.out) | (with_reducible exact E2.out) | (with_reducible exact E3.out) | (with_reducible exact E4.out) | (with_reducible exact E5.out) | (with_reducible exact E6.out) | (with_reducible exact E7.out) | (with_reducible exact E8.out) | (with_reducible exact E9.out) | (with_reducible exact E10.out) | (with_reducible exact e20) | go_keep) (first
      | (refine step_append_at 40 40 RA.out (.tmp 13) (.tmp 14) ?_ ?_ ?_ ?_ ?_ ?_ ?_; rfl; rfl; rfl; rfl; rfl; rfl) | (refine step_append_at 40 40 RB.out (.tmp 13) (.tmp 14) ?_ ?_ ?_ ?_ ?_ ?_ ?_; rfl; rfl; rfl; rfl; rfl; rfl) | (refine step_append_at 40 40 RC.out (.tmp 13) (.tmp 14) ?_ ?_ ?_ ?_ ?_ ?_ ?_; rfl; rfl; rfl; rfl; rfl; rfl)
      | (refine step_append_at 40 40 RA2.out (.tmp 15) (.tmp 17) ?_ ?_ ?_ ?_ ?_ ?_ ?_; rfl; rfl; rfl; rfl; rfl; rfl) | (refine step_append_at 40 40 RB2.out (.tmp 15) (.tmp 17) ?_ ?_ ?_ ?_ ?_ ?_ ?_; rfl; rfl; rfl; rfl; rfl; rfl) | (refine step_append_at 40 40 RC2.out (.tmp 15) (.tmp 17) ?_ ?_ ?_ ?_ ?_ ?_ ?_; rfl; rfl; rfl; rfl; rfl; rfl)
      | (go_at_call 19; (with_reducible refine (few_any _ _ _ _ _ SA.out).mono ?_); rintro _ w20 ⟨_, rfl, ⟨x, rfl, hx⟩, k20⟩; have e20 := blk4 ((HB1.out.kept KA2.out (by simp)).kept k20 (by simp)); have K20 := Lib.hid (KA2.out.trans k20 (by simp)); have HX := Lib.hid hx; clear hx k20)
      | (go_at_call 19; (with_reducible refine (few_any _ _ _ _ _ SB.out).mono ?_); rintro _ w20 ⟨_, rfl, ⟨x, rfl, hx⟩, k20⟩; have e20 := blk4 ((HB1.out.kept KB2.out (by simp)).kept k20 (by simp)); have K20 := Lib.hid (KB2.out.trans k20 (by simp)); have HX := Lib.hid hx; clear hx k20)
      | (go_at_call 19; (with_reducible refine (few_any _ _ _ _ _ SC.out).mono ?_); rintro _ w20 ⟨_, rfl, ⟨x, rfl, hx⟩, k20⟩; have e20 := blk4 ((HB1.out.kept KC2.out (by simp)).kept k20 (by simp)); have K20 := Lib.hid (KC2.out.trans k20 (by simp)); have HX := Lib.hid hx; clear hx k20))
    all_goals (
      simp only [Exit.then]
      go_step
      go_meet
      case rel => exact ⟨x, rfl, fun e => by have := HX.out e; simp at this; omega, K20.out⟩)
  case rest =>
    obtain ⟨x, rfl, hx, kx⟩ := hcut
    have K2 := Lib.hid (K1.out.trans kx (by simp))
    have HB2 := Lib.hid (HB1.out.kept kx (by simp))
    have z0 := HB2.out.cell 0 rfl
    have hz1 : w.heap.size < wc.heap.size := HB2.out.lt
    have HX := Lib.hid hx
    have k0 := HKD.out
    clear hx kx d0 d1 d2 d3
    cases x with
    | false =>
      go_wp2_with fail
      go_ret
      exact ⟨rfl, K2.out.below _ (Nat.le_refl _) (by simp)⟩
    | true =>
    have HL40 := Lib.hid (HX.out rfl)
    clear HX
    by_cases hk2 : 2 < o.kind
    · have t2 : decide (2 < o.kind) = true := by simp [hk2]
      go_wp2_with fail
      go_ret
      exact ⟨rfl, K2.out.below _ (Nat.le_refl _) (by simp)⟩
    have t2 : decide (2 < o.kind) = false := by simp; omega
    have HK2 : Hid (o.kind ≤ 2) := Lib.hid (by omega)
    clear hk2
    go_wp2_with fail
    (with_reducible refine (made_any _ w.heap.size _ l (K_ops H.out K2.out (Nat.le_refl _)) K2.out.size HL40.out).mono ?_)
    rintro _ w3 ⟨_, rfl, ⟨b, F, rfl, hd, hF⟩, k3⟩
    have HF : Hid (∀ g, g ∈ F → wc.heap.size ≤ g) := Lib.hid hF
    have K3 := Lib.hid (K2.out.trans k3 (by simp))
    have HB3 := Lib.hid (HB2.out.kept k3 (by simp))
    have hle := DiskS.run_le (DiskS.new 8 4) l
    generalize (DiskS.new 8 4).run l = s at *
    have HOP : Hid (s.ops ≤ 40) := Lib.hid (by have h1 := hle.1; have h2 : (DiskS.new 8 4).ops = 0 := rfl; have := HL40.out; omega)
    have HMA : Hid (s.marks ≤ 40) := Lib.hid (by have h1 := hle.2; have h2 : (DiskS.new 8 4).marks = 0 := rfl; have := HL40.out; omega)
    have HD := Lib.hid hd
    clear hle hd hF k3 z0
    go_wp2_with fail
    (with_reducible refine (copy_any _ b F s HD.out).mono ?_)
    rintro _ w4 ⟨_, rfl, ⟨bc, Fc, rfl, hdc, hFc⟩, k4⟩
    have HD4 := Lib.hid (HD.out.kept k4 (by simp))
    have K4 := Lib.hid (K3.out.trans k4 (by simp))
    have HB4 := Lib.hid (HB3.out.kept k4 (by simp))
    have HC4 := Lib.hid hdc
    have HFC := Lib.hid hFc
    have HFFC : Hid (∀ g, g ∈ F → g ∉ Fc) := Lib.hid (fun g hg hm => by have h1 := hFc g hm; have h2 := HD.out.lt g hg; omega)
    clear hdc hFc k4
    go_wp2_with fail
    (with_reducible refine (ops_any _ b F s HD4.out).mono ?_)
    rintro _ w5 ⟨_, rfl, rfl, k5⟩
    have HD5 := Lib.hid (HD4.out.kept k5 (by simp))
    have HC5 := Lib.hid (HC4.out.kept k5 (by simp))
    have HB5 := Lib.hid (HB4.out.kept k5 (by simp))
    have K5 := Lib.hid (K4.out.trans k5 (by simp))
    clear k5
    have o0 : (0 : Int) ≤ s.ops := by omega
    have o1 : (s.ops : Int) ≤ 40 := by have := HOP.out; omega
    go_wp2_with fail
    (with_reducible refine (fail_any _ b F s HD5.out (by have := HMA.out; omega) _ (by omega) (by omega)).mono ?_)
    rintro _ w6 ⟨_, rfl, ⟨rfl, hd6⟩, k6⟩
    have hwF : ∀ g, g ∈ F → w.heap.size ≤ g := fun g hg => Nat.le_trans K2.out.size (HF.out g hg)
    have HD6 := Lib.hid hd6
    have HC6 := Lib.hid (HC5.out.kept k6 HFFC.out)
    have hnb : w.heap.size ∉ F := fun hm => by have h1 := HF.out _ hm; omega
    have hb6 := HB5.out.kept k6 hnb
    have K6 := Lib.hid (K5.out.trans k6 (fun g hg => .inr (hwF g hg)))
    have HB6 := Lib.hid hb6
    have z0 := hb6.cell 0 rfl
    have z1 := hb6.cell 1 rfl
    have z2 := hb6.cell 2 rfl
    have z3 := hb6.cell 3 rfl
    have HNB := Lib.hid hnb
    have HWF := Lib.hid hwF
    clear hd6 k6 hb6 hnb hwF
    have hst := fail_step s o HKD.out HK2.out
    have HST := Lib.hid hst
    clear hst
    go_wp2_with fail
    have hoa := OpAt.of (o := o) HWF.out (HOB.out.kept K6.out (Nat.le_refl _) (by simp) (fun _ _ h => h)) (HOT.out.kept K6.out (Nat.le_refl _) (by simp) (fun _ _ h => h.kept K6.out (Nat.le_refl _) (by simp))) HOI.out
    (with_reducible refine (do_any _ b F (s.fail ((s.ops : Int) + 1)) HD6.out ?ho1 ?hm1 _ o hoa).mono ?_)
    case ho1 => have e : (s.fail ((s.ops : Int) + 1)).ops = s.ops := rfl; omega
    case hm1 => have e : (s.fail ((s.ops : Int) + 1)).marks = s.marks + 1 := rfl; have := HMA.out; omega
    rw [HST.out]
    rintro _ w7 ⟨_, rfl, ⟨rv, rfl, hrv, F7, hF7, hd7⟩, k7⟩
    dsimp only at hrv hd7 ⊢
    have HF7 := Lib.hid hF7
    have HD7 := Lib.hid hd7
    have HC7 := Lib.hid (HC6.out.kept k7 HFFC.out)
    have K7 := Lib.hid (K6.out.trans k7 (fun g hg => .inr (HWF.out g hg)))
    obtain ⟨A7, c7, rfl⟩ := hrv.sl.choose_spec.1.form
    have H77 : Hid (∀ g, g ∈ F7 → g ∉ Fc) := Lib.hid (fun g hg hm => by
      rcases hF7 g hg with h | h
      · exact HFFC.out g h hm
      · have := HC6.out.lt g hm; omega)
    clear hF7 hd7 k7 hrv hoa z0 z1 z2 z3
    generalize hs7 : (s.fail ((s.ops : Int) + 1)).tick = s7 at *
    have e1 : s7.ops = s.ops + 1 := by rw [← hs7]; rfl
    have e2 : s7.writes = s.writes := by rw [← hs7]; rfl
    have e3 : s7.bytes = s.bytes := by rw [← hs7]; rfl
    have e4 : s7.unsynced = s.unsynced := by rw [← hs7]; rfl
    have e5 : (s7.crash (List.replicate 8 (1, []))).bytes = (s.crash (List.replicate 8 (1, []))).bytes := by rw [← hs7]; rfl
    have E1 := Lib.hid e1
    have E2 := Lib.hid e2
    have E3 := Lib.hid e3
    have E4 := Lib.hid e4
    have E5 := Lib.hid e5
    clear e1 e2 e3 e4 e5 hs7 HST
    go_wp2_with fail
    (with_reducible refine (ops_any _ b F7 s7 HD7.out).mono ?_)
    rintro _ w8 ⟨_, rfl, rfl, k8⟩
    rw [E1.out]
    have K8 := Lib.hid (K7.out.trans k8 (by simp))
    have HD8 := Lib.hid (HD7.out.kept k8 (by simp))
    have HC8 := Lib.hid (HC7.out.kept k8 (by simp))
    clear k8
    go_wp2_with fail
    (with_reducible refine (writes_any _ b F7 s7 HD8.out).mono ?_)
    rintro _ w9 ⟨_, rfl, rfl, k9⟩
    rw [E2.out]
    have K9 := Lib.hid (K8.out.trans k9 (by simp))
    have HD9 := Lib.hid (HD8.out.kept k9 (by simp))
    have HC9 := Lib.hid (HC8.out.kept k9 (by simp))
    clear k9
    go_wp2_with fail
    (with_reducible refine (writes_any _ bc Fc s HC9.out).mono ?_)
    rintro _ w10 ⟨_, rfl, rfl, k10⟩
    have K10 := Lib.hid (K9.out.trans k10 (by simp))
    have HD10 := Lib.hid (HD9.out.kept k10 (by simp))
    have HC10 := Lib.hid (HC9.out.kept k10 (by simp))
    clear k10
    go_wp2_with fail
    (with_reducible refine (bytes_any _ b F7 s7 HD10.out).mono ?_)
    rintro _ w11 ⟨va, rfl, hva, k11⟩
    rw [E3.out] at hva
    have K11 := Lib.hid (K10.out.trans k11 (by simp))
    have HD11 := Lib.hid (HD10.out.kept k11 (by simp))
    have HC11 := Lib.hid (HC10.out.kept k11 (by simp))
    have Rva11 := Lib.hid hva
    clear k11 hva
    go_wp2_with fail
    (with_reducible refine (bytes_any _ bc Fc s HC11.out).mono ?_)
    rintro _ w12 ⟨vb, rfl, hvb, k12⟩
    have K12 := Lib.hid (K11.out.trans k12 (by simp))
    have HD12 := Lib.hid (HD11.out.kept k12 (by simp))
    have HC12 := Lib.hid (HC11.out.kept k12 (by simp))
    have Rva12 := Lib.hid (Rva11.out.kept k12 (by simp [Apart]))
    obtain ⟨ba, hsa, _⟩ := Rva12.out.sl
    obtain ⟨bb, hsb, _⟩ := hvb.sl
    have HSA := Lib.hid hsa
    have HSB := Lib.hid hsb
    clear k12 hvb hsa hsb
    go_wp2_with fail
    (with_reducible refine (same_any _ _ _ ba 0 bb 0 _ _ HSA.out HSB.out).mono ?_)
    rintro _ w13 ⟨_, rfl, rfl, k13⟩
    rw [decide_eq_true rfl]
    have K13 := Lib.hid (K12.out.trans k13 (by simp))
    have HD13 := Lib.hid (HD12.out.kept k13 (by simp))
    have HC13 := Lib.hid (HC12.out.kept k13 (by simp))
    clear k13
    go_wp2_with fail
    (with_reducible refine (unsynced_any _ b F7 s7 HD13.out).mono ?_)
    rintro _ w14 ⟨vc, rfl, hvc, k14⟩
    rw [E4.out] at hvc
    have K14 := Lib.hid (K13.out.trans k14 (by simp))
    have HD14 := Lib.hid (HD13.out.kept k14 (by simp))
    have HC14 := Lib.hid (HC13.out.kept k14 (by simp))
    have Rvc14 := Lib.hid hvc
    clear k14 hvc
    go_wp2_with fail
    (with_reducible refine (unsynced_any _ bc Fc s HC14.out).mono ?_)
    rintro _ w15 ⟨vd, rfl, hvd, k15⟩
    have K15 := Lib.hid (K14.out.trans k15 (by simp))
    have HD15 := Lib.hid (HD14.out.kept k15 (by simp))
    have HC15 := Lib.hid (HC14.out.kept k15 (by simp))
    have Rvc15 := Lib.hid (Rvc14.out.kept k15 (by simp [Apart]))
    obtain ⟨bcc, hsc, _⟩ := Rvc15.out.sl
    obtain ⟨bdd, hsd, _⟩ := hvd.sl
    have HSC := Lib.hid hsc
    have HSD := Lib.hid hsd
    clear k15 hvd hsc hsd
    go_wp2_with fail
    (with_reducible refine (ints_any _ _ _ bcc 0 bdd 0 _ _ HSC.out HSD.out).mono ?_)
    rintro _ w16 ⟨_, rfl, rfl, k16⟩
    rw [decide_eq_true rfl]
    have K16 := Lib.hid (K15.out.trans k16 (by simp))
    have HD16 := Lib.hid (HD15.out.kept k16 (by simp))
    have HC16 := Lib.hid (HC15.out.kept k16 (by simp))
    clear k16
    go_wp2_with fail
    have ka16 : Kept w16 (w16.alloc (.cells #[.int .i64 1, .slice none 0 0, .int .i64 1, .slice none 0 0, .int .i64 1, .slice none 0 0, .int .i64 1, .slice none 0 0, .int .i64 1, .slice none 0 0, .int .i64 1, .slice none 0 0, .int .i64 1, .slice none 0 0, .int .i64 1, .slice none 0 0] 62)) [] := (Kept.refl _ _).alloc _
    (with_reducible refine (crash_any _ b F7 s7 (HD16.out.kept ka16 (by simp)) _ _ (tears8 w16 F7 HD16.out.lt)).mono ?_)
    rintro _ w17 ⟨_, rfl, ⟨rfl, hd17⟩, k17⟩
    have HD17 := Lib.hid hd17
    have HC17 := Lib.hid ((HC16.out.kept ka16 (by simp)).kept k17 H77.out)
    have K17 := Lib.hid ((K16.out.trans ka16 (by simp)).trans k17 (fun g hg => (HF7.out g hg).elim (fun h => .inr (HWF.out g h)) (fun h => .inr (Nat.le_trans K6.out.size h))))
    clear hd17 k17 ka16
    go_wp2_with fail
    have ka17 : Kept w17 (w17.alloc (.cells #[.int .i64 1, .slice none 0 0, .int .i64 1, .slice none 0 0, .int .i64 1, .slice none 0 0, .int .i64 1, .slice none 0 0, .int .i64 1, .slice none 0 0, .int .i64 1, .slice none 0 0, .int .i64 1, .slice none 0 0, .int .i64 1, .slice none 0 0] 62)) [] := (Kept.refl _ _).alloc _
    (with_reducible refine (crash_any _ bc Fc s (HC17.out.kept ka17 (by simp)) _ _ (tears8 w17 Fc HC17.out.lt)).mono ?_)
    rintro _ w18 ⟨_, rfl, ⟨rfl, hd18⟩, k18⟩
    have HC18 := Lib.hid hd18
    have HD18 := Lib.hid ((HD17.out.kept ka17 (by simp)).kept k18 (fun g hg hm => H77.out g hm hg))
    have K18 := Lib.hid ((K17.out.trans ka17 (by simp)).trans k18 (fun g hg => .inr (Nat.le_trans K3.out.size (HFC.out g hg))))
    clear hd18 k18 ka17
    go_wp2_with fail
    (with_reducible refine (bytes_any _ b F7 _ HD18.out).mono ?_)
    rintro _ w19 ⟨ve, rfl, hve, k19⟩
    rw [E5.out] at hve
    have K19 := Lib.hid (K18.out.trans k19 (by simp))
    have HD19 := Lib.hid (HD18.out.kept k19 (by simp))
    have HC19 := Lib.hid (HC18.out.kept k19 (by simp))
    have Rve19 := Lib.hid hve
    clear k19 hve
    go_wp2_with fail
    (with_reducible refine (bytes_any _ bc Fc _ HC19.out).mono ?_)
    rintro _ w20 ⟨vf, rfl, hvf, k20⟩
    have K20 := Lib.hid (K19.out.trans k20 (by simp))
    have HD20 := Lib.hid (HD19.out.kept k20 (by simp))
    have HC20 := Lib.hid (HC19.out.kept k20 (by simp))
    have Rve20 := Lib.hid (Rve19.out.kept k20 (by simp [Apart]))
    obtain ⟨bee, hse, _⟩ := Rve20.out.sl
    obtain ⟨bff, hsf, _⟩ := hvf.sl
    have HSE := Lib.hid hse
    have HSF := Lib.hid hsf
    clear k20 hvf hse hsf
    go_wp2_with fail
    (with_reducible refine (same_any _ _ _ bee 0 bff 0 _ _ HSE.out HSF.out).mono ?_)
    rintro _ w21 ⟨_, rfl, rfl, k21⟩
    rw [decide_eq_true rfl]
    have K21 := Lib.hid (K20.out.trans k21 (by simp))
    have HD21 := Lib.hid (HD20.out.kept k21 (by simp))
    have HC21 := Lib.hid (HC20.out.kept k21 (by simp))
    clear k21
    go_wp2_with fail
    go_ret
    exact ⟨rfl, K21.out.below _ (Nat.le_refl _) (by simp)⟩
end Go.Proofs.Ytihfbceafehcjaa
