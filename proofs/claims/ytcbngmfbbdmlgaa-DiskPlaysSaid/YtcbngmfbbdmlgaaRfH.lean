/- PROVED: the document's disk: one operation, as it is told. No conditions beyond those that each theorem states. -/
import Derived.Test.YtcbngmfbbdmlgaaRfG
import Derived.Test.YtcbngmfbbdmlgaaDkK
namespace Go.Proofs.Ytcbngmfbbdmlgaa
open Go.RowKit Go.Proofs.YtcbngmfbbdmlgaaLib Go.WideElems Go.Maps
set_option linter.unusedSimpArgs false
set_option linter.unusedVariables false

def RDiskOn (w : World) (n b : Nat) (F X : List Nat) (s : DiskS) : Prop := ∃ F' X', (∀ g, g ∈ F' → g ∈ F ∨ n ≤ g) ∧ (∀ g, g ∈ X → g ∈ X') ∧ (∀ g, g ∈ X' → g ∈ X ∨ n ≤ g) ∧ RDisk w b F' X' s
theorem RDisk.on {w : World} {n b : Nat} {F X : List Nat} {s : DiskS} (h : RDisk w b F X s) : RDiskOn w n b F X s := ⟨F, X, fun _ hg => .inl hg, fun _ hg => hg, fun _ hg => .inl hg, h⟩
/-- beside it: what lies outside its own blocks and is known to it is turned; new blocks Y are to be avoided from now on -/
theorem RDisk.beside {w W : World} {b : Nat} {F X : List Nat} {s : DiskS} (h : RDisk w b F X s) {S Y : List Nat} (hk : Kept w W S) (hX : ∀ g, g ∈ S → g ∈ X) (hF : ∀ g, g ∈ S → g ∉ F) (hY : ∀ g, g ∈ Y → (g ∈ X ∨ w.heap.size ≤ g) ∧ g < W.heap.size) : RDisk W b F (X ++ Y) s := by
  obtain ⟨vl, vc, vp, Ls, Cs, P, h⟩ := h
  have hap : ∀ v : Value, (∀ g, v.ownBlock = some g → g ∈ F) → Apart v S := fun v hv g hg hm => hF g hm (hv g hg)
  have hcel : ∀ u o, (∀ l, o = some l → Sec s.size l) → Cel w X u o → Cel W (X ++ Y) u o := by
    intro u o hsec hc
    cases o with
    | none => exact hc
    | some l =>
      obtain ⟨b0, c0, e0, s0, nb0⟩ := hc
      refine ⟨b0, c0, e0, s0.kept hk (.inr (fun hm => nb0 (hX _ hm))), fun hm => ?_⟩
      rcases List.mem_append.1 hm with hm | hm
      · exact nb0 hm
      · have hl0 : l ≠ [] := by intro e; have h1 := (hsec l rfl).1; have h2 := h.ok.s1; rw [e] at h1; simp at h1; omega
        have hlt := s0.lt hl0
        rcases (hY _ hm).1 with e | e
        · exact nb0 e
        · omega
  exact ⟨vl, vc, vp, Ls, Cs, P, h.ok, h.blk.kept hk (fun hm => hF _ hm h.fb), rows_kept h.las hk (hap _ h.fl), rows_kept h.cac hk (hap _ h.fc), h.ll, h.lc,
    fun i l hl => let ⟨u, a, c⟩ := h.lel i l hl; ⟨u, a, hcel _ _ (fun l' e => by cases e; exact h.ok.ls l (List.mem_of_getElem? hl)) c⟩, fun i l hl => let ⟨u, a, c⟩ := h.cel i l hl; ⟨u, a, hcel _ _ (fun l' e => by subst e; exact h.ok.cs l' (List.mem_of_getElem? hl)) c⟩,
    h.pla.kept hk (hap _ h.fp), h.pof, h.pln, h.pbd, h.fb, h.fl, h.fc, h.fp, h.ne, fun g hg => List.mem_append.2 (.inl (h.fx g hg)), fun g hg => (List.mem_append.1 hg).elim (fun h1 => Nat.lt_of_lt_of_le (h.xlt g h1) hk.size) (fun h1 => (hY g h1).2)⟩
/-- a number appended to a row of them -/
theorem ints_append {W : World} {v : Value} {P : List Int} (h : Own 3 .i64 W 0 v P) {q T : Nat} {x : Int} (hq : Blk W q T [.int .i64 x]) (hn : P.length ≤ 1000000000) :
    ∃ v' w', (Builtin.append_ #[41, 41] 41 #[v, .slice (some ⟨q, 0, none⟩) 1 1]).run Try.prog W = .ok v' w' ∧ Own 3 .i64 w' 0 v' (P ++ [x]) ∧ Kept W w' v.ownBlock.toList ∧ ∀ g, v'.ownBlock = some g → v.ownBlock = some g ∨ g = W.heap.size := by
  obtain ⟨i0, hi, hz0, hz1, hz2⟩ := info_parts infoI
  obtain ⟨v', w', hrun, hown, hg, hn', hloc⟩ := run_append_own_at (P := Try.prog) W 0 41 41 3 i0 _ 1 8 Try.underlying41 hi hz0 hz1 hz2 rfl (by decide) v P.length (P.map (Value.int .i64)) h ⟨q, 0, none⟩ 1 1 [.int .i64 x] rfl
    (fun j y hj => by rw [Addr.add_lit]; exact hq.cell (0 + j) (by rw [Nat.zero_add]; exact hj)) (by intro y hy; simp at hy; subst hy; rfl) (by unfold maxLen; omega) (by omega) (Nat.zero_le _)
  refine ⟨v', w', hrun, by unfold Own; rw [List.length_append, List.map_append]; exact hown, Kept.grown hg _ (fun g hg => by simp [hg]), fun g hg => ?_⟩
  rcases hloc with e | e
  · exact .inl (by rw [← e]; exact hg)
  · rw [e] at hg; simp at hg; exact .inr hg.symm
/-- one more that is to fail -/
theorem RDiskX.planned0 {w : World} {b : Nat} {F X : List Nat} {s : DiskS} {vl vc vp : Value} {Ls Cs : List Value} {P : List Int} (h : RDiskX w b F X s vl vc vp Ls Cs P) (hm : s.marks < 1000000000) {n : Int} (h0 : -9223372036854775808 ≤ n) (h1 : n ≤ 9223372036854775807) :
    ∃ v' w7 w8, (Builtin.append_ #[41, 41] 41 #[vp, .slice (some ⟨w.heap.size, 0, none⟩) 1 1]).run Try.prog ((w.alloc (.cells #[.int .i64 n] 3)).drew) = .ok v' w7 ∧ w7.setCell ⟨b, 3, none⟩ v' = w8 ∧ w7.cell? ⟨b, 4, none⟩ = some (.int .i64 s.ops) ∧ (∃ u, w7.cell? ⟨b, 3, none⟩ = some u) ∧ w7.frozen? ⟨b, 3, none⟩ = false ∧
      RDiskOn w8 w.heap.size b F X (s.fail n) ∧ Kept w w8 F ∧ ∃ A' c', v' = .slice A' (P ++ [n]).length c' := by
  have hkm := h.pln
  have k1 : Kept w ((w.alloc (.cells #[.int .i64 n] 3)).drew) [] := ((Kept.refl _ _).alloc _).drew
  have hbn : Blk ((w.alloc (.cells #[.int .i64 n] 3)).drew) w.heap.size 3 [.int .i64 n] := Blk.new w 3 [.int .i64 n]
  obtain ⟨v', w7, hap, ho7, k7, hloc⟩ := ints_append (h.pla.kept k1 (by simp [Apart])) hbn (by omega)
  have k17 : Kept w w7 vp.ownBlock.toList := (k1.mono (by simp)).trans k7 (fun g hg => .inl hg)
  have nb : b ∉ vp.ownBlock.toList := by simp only [Option.mem_toList]; exact Own.ne_cells h.pla h.blk (by decide)
  have hS : ∀ g, g ∈ vp.ownBlock.toList → g ∈ F := fun g hg => by simp only [Option.mem_toList] at hg; exact h.fp g hg
  have hb7 := h.blk.kept k17 nb
  have n1 : ∀ g, vl.ownBlock = some g → g ∉ vp.ownBlock.toList := fun g hg hm => by simp only [Option.mem_toList] at hm; exact h.las.ne_own h.pla (by decide) g hg hm
  have n2 : ∀ g, vc.ownBlock = some g → g ∉ vp.ownBlock.toList := fun g hg hm => by simp only [Option.mem_toList] at hm; exact h.cac.ne_own h.pla (by decide) g hg hm
  have k8 : Kept w7 (w7.setCell ⟨b, 3, none⟩ v') [b] := (Kept.refl _ _).setCell (by simp) _
  have q1 := h.las.ne_cells h.blk (by decide)
  have q2 := h.cac.ne_cells h.blk (by decide)
  have q3 := Own.ne_cells ho7 hb7 (by decide)
  have hbS : ∀ g, g ∈ [b] → g ∈ F := fun g hg => by simp at hg; subst hg; exact h.fb
  have h17 := k17.size
  refine ⟨v', w7, _, hap, rfl, hb7.cell 4 rfl, ⟨_, hb7.cell 3 rfl⟩, hb7.free 3, ⟨F ++ v'.ownBlock.toList, X ++ v'.ownBlock.toList, ?_, fun g hg => List.mem_append.2 (.inl hg), ?_, vl, vc, v', Ls, Cs, P ++ [n], ?_⟩, (k17.mono (fun g hg => .inl (hS g hg))).trans k8 (fun g hg => .inl (hbS g hg)), ho7.sl.choose_spec.1.form⟩
  · intro g hg
    simp only [List.mem_append, Option.mem_toList] at hg
    rcases hg with hg | hg
    · exact .inl hg
    · rcases hloc g hg with e | e
      · exact .inl (h.fp g e)
      · right
        have : ((w.alloc (.cells #[.int .i64 n] 3)).drew).heap.size = w.heap.size + 1 := by simp
        omega
  · intro g hg
    simp only [List.mem_append, Option.mem_toList] at hg
    rcases hg with hg | hg
    · exact .inl hg
    · rcases hloc g hg with e | e
      · exact .inl (h.fx _ (h.fp g e))
      · right
        have : ((w.alloc (.cells #[.int .i64 n] 3)).drew).heap.size = w.heap.size + 1 := by simp
        omega
  have hinF : ∀ {g}, g ∈ F → g ∈ F ++ v'.ownBlock.toList := fun hg => List.mem_append.2 (.inl hg)
  have hcel : ∀ u o, (∀ l, o = some l → Sec s.size l) → Cel w X u o → Cel (w7.setCell ⟨b, 3, none⟩ v') (X ++ v'.ownBlock.toList) u o := by
    intro u o hsec hc
    have hc2 := (hc.kept k17 (fun g hg => h.fx _ (hS g hg))).kept k8 (fun g hg => h.fx _ (hbS g hg))
    cases o with
    | none => exact hc2
    | some l =>
      obtain ⟨b0, c0, e0, s0, nb0⟩ := hc
      obtain ⟨b1, c1, e1, s1, n1⟩ := hc2
      obtain rfl : b0 = b1 := by rw [e0] at e1; simp at e1; exact e1.1
      refine ⟨b0, c1, e1, s1, fun hm => ?_⟩
      simp only [List.mem_append, Option.mem_toList] at hm
      rcases hm with hm | hm
      · exact n1 hm
      · have hl0 : l ≠ [] := by intro e; have h1 := (hsec l rfl).1; have h2 := h.ok.s1; rw [e] at h1; simp at h1; omega
        have hlt := s0.lt hl0
        rcases hloc _ hm with e | e
        · exact nb0 (h.fx _ (h.fp _ e))
        · have : ((w.alloc (.cells #[.int .i64 n] 3)).drew).heap.size = w.heap.size + 1 := by simp
          omega
  refine ⟨⟨h.ok.s1, h.ok.s2, h.ok.n1, h.ok.nc, h.ok.ls, h.ok.cs, h.ok.op, h.ok.wr, by show s.marks + 1 ≤ _; omega⟩, (hb7.set 3 v').to rfl, rows_kept (rows_kept h.las k17 n1) k8 (fun g hg hm => by simp at hm; subst hm; exact q1 hg), rows_kept (rows_kept h.cac k17 n2) k8 (fun g hg hm => by simp at hm; subst hm; exact q2 hg), h.ll, h.lc,
    fun i l hl => let ⟨u, a, c⟩ := h.lel i l hl; ⟨u, a, hcel _ _ (fun l' e => by cases e; exact h.ok.ls l (List.mem_of_getElem? hl)) c⟩, fun i l hl => let ⟨u, a, c⟩ := h.cel i l hl; ⟨u, a, hcel _ _ (fun l' e => by subst e; exact h.ok.cs l' (List.mem_of_getElem? hl)) c⟩, ho7.kept k8 (fun g hg hm => by simp at hm; subst hm; exact q3 hg), ?_, ?_, ?_, hinF h.fb, fun g hg => hinF (h.fl g hg), fun g hg => hinF (h.fc g hg), fun g hg => List.mem_append.2 (.inr (by simp only [Option.mem_toList]; exact hg)), h.ne, fun g hg => (List.mem_append.1 hg).elim (fun h1 => List.mem_append.2 (.inl (h.fx g h1))) (fun h1 => List.mem_append.2 (.inr h1)), ?_⟩
  · intro m
    show (s.plan m || m == n) = (P ++ [n]).contains m
    rw [h.pof]
    simp
    by_cases e : m = n <;> simp [e]
  · show (P ++ [n]).length ≤ s.marks + 1
    simp; omega
  · intro x hx
    rcases List.mem_append.1 hx with hx | hx
    · exact h.pbd x hx
    · simp at hx; subst hx; exact ⟨h0, h1⟩
  · intro g hg
    have hs8 : (w7.setCell ⟨b, 3, none⟩ v').heap.size = w7.heap.size := by simp [World.setCell]
    rw [hs8]
    rcases List.mem_append.1 hg with hg | hg
    · exact Nat.lt_of_lt_of_le (h.xlt g hg) h17
    · simp only [Option.mem_toList] at hg; exact (ho7.lt g hg).2
theorem RDiskX.planned {w : World} {b : Nat} {F X : List Nat} {s : DiskS} {vl vc vp : Value} {Ls Cs : List Value} {P : List Int} (h : RDiskX w b F X s vl vc vp Ls Cs P) (hm : s.marks < 1000000000) {n : Int} (h0 : -9223372036854775808 ≤ n) (h1 : n ≤ 9223372036854775807) :
    ∃ A' n' c' w7 w8, (Builtin.append_ #[41, 41] 41 #[vp, .slice (some ⟨w.heap.size, 0, none⟩) 1 1]).run Try.prog ((w.alloc (.cells #[.int .i64 n] 3)).drew) = .ok (.slice A' n' c') w7 ∧ w7.setCell ⟨b, 3, none⟩ (.slice A' n' c') = w8 ∧ w7.cell? ⟨b, 4, none⟩ = some (.int .i64 s.ops) ∧ (∃ u, w7.cell? ⟨b, 3, none⟩ = some u) ∧ w7.frozen? ⟨b, 3, none⟩ = false ∧
      RDiskOn w8 w.heap.size b F X (s.fail n) ∧ Kept w w8 F := by
  obtain ⟨v', w7, w8, hap, hw8, y3, z3, f3, hfin, hk, A', c', e⟩ := h.planned0 hm h0 h1
  subst e
  exact ⟨A', _, c', w7, w8, hap, hw8, y3, z3, f3, hfin, hk⟩
set_option maxRecDepth 100000 in
set_option maxHeartbeats 3000000 in
theorem told_any (w : World) (b : Nat) (F X : List Nat) (s : DiskS) (h : RDisk w b F X s) (ho : s.ops < 1000000000) (hm : s.marks < 1000000000) (v : Value) (o : DkOp) (hv : OpAt w F v o) :
    Calls Try.prog 9 #[.pointer (some ⟨b, 0, none⟩), v] w (Post w F fun r W => ∃ rv, r = .tuple #[rv, .int .i64 (s.step o).2.2] ∧ Own 5 .u8 W w.heap.size rv (s.step o).2.1 ∧ RDiskOn W w.heap.size b F X (s.step o).1) := by
  obtain ⟨bv, tv, rfl, hb, ht, hi0, hi1⟩ := hv
  obtain ⟨Ab, cb, rfl⟩ := hb.choose_spec.choose_spec.1.form
  obtain ⟨At, ct, rfl, _⟩ := id ht
  have k1 : Kept w (w.alloc (.cells #[.int .u8 o.kind, .int .i64 o.i, .slice Ab o.b.length cb, .slice At o.t.length ct] 36)) [] := (Kept.refl _ _).alloc _
  have HD := Lib.hid (h.kept k1)
  have HB := Lib.hid (hb.kept k1 (by simp))
  have HT := Lib.hid (ht.kept k1 (by simp))
  have K1 := Lib.hid k1
  clear hb ht k1 h
  by_cases q0 : o.kind = 0
  · have t0 : (o.kind == 0) = true := by simp [q0]
    have e : s.step o = ((s.write o.i o.b).1, ([], (s.write o.i o.b).2)) := by unfold DiskS.step; rw [if_pos q0]
    have E := Lib.hid e
    clear e q0
    go_enter Try.func9, Try.ntmps9
    go_wp2_with fail
    obtain ⟨bb, bo, hs, hB, hq⟩ := HB.out
    (with_reducible refine (rwrite_any _ b F X s HD.out ho o.i _ bb bo o.b hs hq hB).mono ?_)
    rintro _ w2 ⟨_, rfl, ⟨rfl, h2⟩, k2⟩
    have H2 := Lib.hid h2
    have K2 := Lib.hid k2
    clear h2 k2 hs hB hq
    go_wp2_with fail
    go_ret2
    refine ⟨_, rfl, ⟨_, by rw [E.out]; rfl, by rw [E.out]; exact Own.nil _ _ _ _, ?_⟩, (K1.out.mono (by simp)).trans K2.out (fun g hg => .inl hg)⟩
    rw [E.out]
    exact RDisk.on H2.out
  have t0 : (o.kind == 0) = false := by simp [q0]
  by_cases q1 : o.kind = 1
  · have t1 : (o.kind == 1) = true := by simp [q1]
    have e : s.step o = (s.tick, s.read o.i) := by unfold DiskS.step; rw [if_neg q0, if_pos q1]
    have E := Lib.hid e
    clear e q0 q1
    go_enter Try.func9, Try.ntmps9
    go_wp2_with fail
    (with_reducible refine (rread_any _ b F X s HD.out ho o.i).mono ?_)
    rintro _ w2 ⟨_, rfl, ⟨r, rfl, hr, h2⟩, k2⟩
    have HR := Lib.hid hr
    have H2 := Lib.hid h2
    have K2 := Lib.hid k2
    have HFB := Lib.hid HD.out.fb
    clear h2 k2 hr
    go_wp2_with fail
    go_ret2
    refine ⟨_, rfl, ⟨r, by rw [E.out]; rfl, by rw [E.out]; exact Own.mono HR.out (by simp), ?_⟩, (K1.out.mono (by simp)).trans (K2.out.mono (S2 := F) (fun g hg => by simp at hg; subst hg; exact .inl HFB.out)) (fun g hg => .inl hg)⟩
    rw [E.out]
    exact RDisk.on H2.out
  have t1 : (o.kind == 1) = false := by simp [q1]
  by_cases q2 : o.kind = 2
  · have t2 : (o.kind == 2) = true := by simp [q2]
    have e : s.step o = (s.sync.1, ([], s.sync.2)) := by unfold DiskS.step; rw [if_neg q0, if_neg q1, if_pos q2]
    have E := Lib.hid e
    clear e q0 q1 q2
    go_enter Try.func9, Try.ntmps9
    go_wp2_with fail
    (with_reducible refine (rsync_any _ b F X s HD.out ho).mono ?_)
    rintro _ w2 ⟨_, rfl, ⟨rfl, h2⟩, k2⟩
    have H2 := Lib.hid h2
    have K2 := Lib.hid k2
    clear h2 k2
    go_wp2_with fail
    go_ret2
    refine ⟨_, rfl, ⟨_, by rw [E.out]; rfl, by rw [E.out]; exact Own.nil _ _ _ _, ?_⟩, (K1.out.mono (by simp)).trans K2.out (fun g hg => .inl hg)⟩
    rw [E.out]
    exact RDisk.on H2.out
  have t2 : (o.kind == 2) = false := by simp [q2]
  by_cases q3 : o.kind = 3
  · have t3 : (o.kind == 3) = true := by simp [q3]
    have e : s.step o = (s.crash o.t, ([], 0)) := by unfold DiskS.step; rw [if_neg q0, if_neg q1, if_neg q2, if_pos q3]
    have E := Lib.hid e
    clear e q0 q1 q2 q3
    go_enter Try.func9, Try.ntmps9
    go_wp2_with fail
    (with_reducible refine (rcrash_any _ b F X s HD.out _ o.t HT.out).mono ?_)
    rintro _ w2 ⟨_, rfl, ⟨rfl, h2⟩, k2⟩
    have H2 := Lib.hid h2
    have K2 := Lib.hid k2
    clear h2 k2
    go_wp2_with fail
    go_ret2
    refine ⟨_, rfl, ⟨_, by rw [E.out]; rfl, by rw [E.out]; exact Own.nil _ _ _ _, ?_⟩, (K1.out.mono (by simp)).trans K2.out (fun g hg => .inl hg)⟩
    rw [E.out]
    exact RDisk.on H2.out
  have t3 : (o.kind == 3) = false := by simp [q3]
  by_cases q4 : o.kind ≠ 4
  · have t4 : (o.kind == 4) = false := by simp [q4]
    have e : s.step o = (s, ([], 0)) := by unfold DiskS.step; rw [if_neg q0, if_neg q1, if_neg q2, if_neg q3, if_neg q4]
    have E := Lib.hid e
    clear e q0 q1 q2 q3 q4
    go_enter Try.func9, Try.ntmps9
    go_wp2_with fail
    go_ret2
    refine ⟨_, rfl, ⟨_, by rw [E.out]; rfl, by rw [E.out]; exact Own.nil _ _ _ _, ?_⟩, K1.out.mono (by simp)⟩
    rw [E.out]
    exact RDisk.on HD.out
  replace q4 : o.kind = 4 := by omega
  have t4 : (o.kind == 4) = true := by simp [q4]
  have e : s.step o = (if 0 < o.i ∧ o.i < 1000 then s.fail (s.ops + o.i) else s, ([], 0)) := by unfold DiskS.step; rw [if_neg q0, if_neg q1, if_neg q2, if_neg q3, if_pos q4]
  clear q0 q1 q2 q3 q4
  have o0 : (0 : Int) ≤ s.ops := by omega
  have o1 : (s.ops : Int) < 1000000000 := by omega
  by_cases q5 : 0 < o.i ∧ o.i < 1000
  · obtain ⟨q5, q6⟩ := q5
    rw [if_pos ⟨q5, q6⟩] at e
    have E := Lib.hid e
    obtain ⟨vl, vc, vp, Ls, Cs, P, hx⟩ := HD.out
    have kb : Kept (w.alloc (.cells #[.int .u8 o.kind, .int .i64 o.i, .slice Ab o.b.length cb, .slice At o.t.length ct] 36)) (((w.alloc (.cells #[.int .u8 o.kind, .int .i64 o.i, .slice Ab o.b.length cb, .slice At o.t.length ct] 36)).alloc (.cells #[.int .i64 ((s.ops : Int) + o.i)] 3)).drew) [] := ((Kept.refl _ _).alloc _).drew
    have g0 := (Blk.new w 36 [.int .u8 o.kind, .int .i64 o.i, .slice Ab o.b.length cb, .slice At o.t.length ct]).cell 1 rfl
    have x3 := hx.blk.cell 3 rfl
    have x4 := hx.blk.cell 4 rfl
    generalize hwa : w.alloc (.cells #[.int .u8 o.kind, .int .i64 o.i, .slice Ab o.b.length cb, .slice At o.t.length ct] 36) = wa at *
    obtain ⟨A', n', c', w7, w8, hap, hw8, y3, ⟨u3, z3⟩, f3, hfin, hk⟩ := hx.planned hm (n := (s.ops : Int) + o.i) (by omega) (by omega)
    have HWA := Lib.hid hwa
    clear hwa
    have HAP := Lib.hid hap
    have HW8 := Lib.hid hw8
    have HFIN := Lib.hid hfin
    have HK := Lib.hid hk
    have g0a := kb.cell g0 (by simp)
    have x3a := kb.cell x3 (by simp)
    have x4a := kb.cell x4 (by simp)
    have x3d : wa.drew.cell? ⟨b, 3, none⟩ = _ := x3
    have x4d : wa.drew.cell? ⟨b, 4, none⟩ = _ := x4
    have g0d : wa.drew.cell? ⟨w.heap.size, 1, none⟩ = _ := g0
    have X1 := Lib.hid x3d
    have X2 := Lib.hid x4d
    have X3 := Lib.hid g0d
    have X4 := Lib.hid x3a
    have X5 := Lib.hid x4a
    have X6 := Lib.hid g0a
    clear e hx hap hw8 hfin hk kb hi0 hi1 x3d x4d g0d x3a x4a g0a
    go_enter Try.func9, Try.ntmps9
    go_wp2_with fail
    rw [HWA.out]
    have x3d := X1.out
    have x4d := X2.out
    have g0d := X3.out
    have x3a := X4.out
    have x4a := X5.out
    have g0a := X6.out
    have hwr : IntKind.i64.wrap ((s.ops : Int) + o.i) = (s.ops : Int) + o.i := IntWalk.i64_in _ (by omega)
    go_region_law (first
      | (refine step_append_at 41 41 HAP.out (.tmp 48) (.tmp 56) ?_ ?_ ?_ ?_ ?_ ?_ ?_; rfl; rfl; rfl; rfl; rfl; rfl))
    all_goals (
      rw [HW8.out]
      clear g0a x3a x4a x3d x4d g0d g0 x3 x4 y3 z3 f3
      go_wp2_with fail
      go_ret2
      refine ⟨_, rfl, ⟨_, by rw [E.out]; rfl, by rw [E.out]; exact Own.nil _ _ _ _, ?_⟩, (K1.out.mono (by simp)).trans HK.out (fun g hg => .inl hg)⟩
      rw [E.out]
      obtain ⟨F', X', hF', hX, hX', hd⟩ := HFIN.out
      exact ⟨F', X', fun g hg => (hF' g hg).imp id (fun h => Nat.le_trans K1.out.size h), hX, fun g hg => (hX' g hg).imp id (fun h => Nat.le_trans K1.out.size h), hd⟩)
  · rw [if_neg q5] at e
    have E := Lib.hid e
    clear e
    by_cases q6 : 0 < o.i
    · have q7 : decide (o.i < 1000) = false := by simp; omega
      clear q5 hi0 hi1
      go_enter Try.func9, Try.ntmps9
      go_wp2_with fail
      go_ret2
      refine ⟨_, rfl, ⟨.slice none 0 0, by rw [E.out]; rfl, by rw [E.out]; exact Own.nil _ _ _ _, ?_⟩, (K1.out.mono (by simp))⟩
      exact (congrArg Prod.fst E.out : (s.step o).1 = s) ▸ RDisk.on HD.out
    · have q7 : decide (0 < o.i) = false := by simp; omega
      clear q5 hi0 hi1
      go_enter Try.func9, Try.ntmps9
      go_wp2_with fail
      go_ret2
      refine ⟨_, rfl, ⟨.slice none 0 0, by rw [E.out]; rfl, by rw [E.out]; exact Own.nil _ _ _ _, ?_⟩, (K1.out.mono (by simp))⟩
      exact (congrArg Prod.fst E.out : (s.step o).1 = s) ▸ RDisk.on HD.out
end Go.Proofs.Ytcbngmfbbdmlgaa
