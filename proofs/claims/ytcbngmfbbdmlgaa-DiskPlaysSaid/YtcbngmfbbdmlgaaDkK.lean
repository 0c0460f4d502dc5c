/- PROVED: how operations on a disk lie in memory, and what one of them does. No conditions beyond those that each theorem states. -/
import Derived.Test.YtcbngmfbbdmlgaaDkHn
import Derived.Test.YtcbngmfbbdmlgaaTea
namespace Go.Proofs.YtcbngmfbbdmlgaaLib
/-- an operation: what is done, the sector, or how many on, the bytes, the tears -/
structure DkOp where
  kind : Int
  i : Int
  b : List Int
  t : List (Int × List Int)
/-- what it does, and what it answers -/
def DiskS.step (s : DiskS) (o : DkOp) : DiskS × (List Int × Int) :=
  if o.kind = 0 then ((s.write o.i o.b).1, ([], (s.write o.i o.b).2)) else if o.kind = 1 then (s.tick, s.read o.i) else if o.kind = 2 then (s.sync.1, ([], s.sync.2)) else
  if o.kind = 3 then (s.crash o.t, ([], 0)) else if o.kind = 4 then (if 0 < o.i ∧ o.i < 1000 then s.fail (s.ops + o.i) else s, ([], 0)) else (s, ([], 0))
end Go.Proofs.YtcbngmfbbdmlgaaLib
namespace Go.Proofs.Ytcbngmfbbdmlgaa
open Go.RowKit Go.Proofs.YtcbngmfbbdmlgaaLib Go.WideElems Go.Maps
set_option linter.unusedSimpArgs false
set_option linter.unusedVariables false

/-- the cells of an operation -/
def OpK (B : Nat) (w : World) (cs : List Value) (o : DkOp) : Prop := ∃ bv tv, cs = [.int .u8 o.kind, .int .i64 o.i, bv, tv] ∧ SliceAt Byte1 1 w B bv o.b ∧ SliceAt (TearK B) 2 w B tv o.t ∧ (-9223372036854775808 ≤ o.i ∧ o.i ≤ 9223372036854775807) ∧ 0 ≤ o.kind ∧ o.kind ≤ 255
theorem OpK.kept {B : Nat} {w w1 : World} {cs : List Value} {o : DkOp} {S : List Nat} (h : OpK B w cs o) (hk : Kept w w1 S) (hB : B ≤ w.heap.size) (hS : ∀ b, b ∈ S → B ≤ b) : OpK B w1 cs o := by
  obtain ⟨bv, tv, rfl, h1, h2, h3⟩ := h
  exact ⟨bv, tv, rfl, h1.kept hk hB hS (fun _ _ h => h), h2.kept hk hB hS (fun _ _ h => h.kept hk hB hS), h3⟩
/-- an operation's value: its bytes and tears outside F -/
def OpAt (w : World) (F : List Nat) (v : Value) (o : DkOp) : Prop := ∃ bv tv, v = .agg #[.int .u8 o.kind, .int .i64 o.i, bv, tv] ∧ BtsAt w F bv o.b ∧ TearsAt w F tv o.t ∧ (-9223372036854775808 ≤ o.i ∧ o.i ≤ 9223372036854775807)
theorem OpAt.kept {w w1 : World} {F S : List Nat} {v : Value} {o : DkOp} (h : OpAt w F v o) (hk : Kept w w1 S) (hS : ∀ g, g ∈ S → g ∈ F) : OpAt w1 F v o := by
  obtain ⟨bv, tv, rfl, h1, h2, h3⟩ := h
  exact ⟨bv, tv, rfl, h1.kept hk hS, h2.kept hk hS, h3⟩
theorem DiskAt.on {w : World} {n b : Nat} {F : List Nat} {s : DiskS} (h : DiskAt w b F s) : DiskOn w n b F s := ⟨F, fun _ hg => .inl hg, h⟩
set_option maxRecDepth 100000 in
set_option maxHeartbeats 8000000 in
theorem do_any (w : World) (b : Nat) (F : List Nat) (s : DiskS) (h : DiskAt w b F s) (ho : s.ops < 1000000000) (hm : s.marks < 1000000000) (v : Value) (o : DkOp) (hv : OpAt w F v o) :
    Calls Try.prog 8 #[.pointer (some ⟨b, 0, none⟩), v] w (Post w F fun r W => ∃ rv, r = .tuple #[rv, .int .i64 (s.step o).2.2] ∧ Own 5 .u8 W w.heap.size rv (s.step o).2.1 ∧ DiskOn W w.heap.size b F (s.step o).1) := by
  obtain ⟨bv, tv, rfl, hb, ht, hi0, hi1⟩ := hv
  obtain ⟨Ab, cb, rfl⟩ := hb.choose_spec.choose_spec.1.form
  obtain ⟨At, ct, rfl, _⟩ := id ht
  have k1 : Kept w (w.alloc (.cells #[.int .u8 o.kind, .int .i64 o.i, .slice Ab o.b.length cb, .slice At o.t.length ct] 36)) [] := (Kept.refl _ _).alloc _
  have HD := Lib.hid (h.kept k1 (by simp))
  have HB := Lib.hid (hb.kept k1 (by simp))
  have HT := Lib.hid (ht.kept k1 (by simp))
  have K1 := Lib.hid k1
  clear hb ht k1 h
  by_cases q0 : o.kind = 0
  · have t0 : (o.kind == 0) = true := by simp [q0]
    have e : s.step o = ((s.write o.i o.b).1, ([], (s.write o.i o.b).2)) := by unfold DiskS.step; rw [if_pos q0]
    have E := Lib.hid e
    clear e q0
    go_enter Try.func8, Try.ntmps8
    go_wp2_with fail
    obtain ⟨bb, bo, hs, hB, hq⟩ := HB.out
    refine (write_any _ b F s HD.out ho o.i _ bb bo o.b hs hq hB).mono ?_
    rintro _ w2 ⟨_, rfl, ⟨rfl, h2⟩, k2⟩
    have H2 := Lib.hid h2
    have K2 := Lib.hid k2
    clear h2 k2 hs hB hq
    go_wp2_with fail
    go_ret2
    refine ⟨_, rfl, ⟨_, by rw [E.out]; rfl, by rw [E.out]; exact Own.nil _ _ _ _, ?_⟩, (K1.out.mono (by simp)).trans K2.out (fun g hg => .inl hg)⟩
    rw [E.out]
    obtain ⟨F', hF', hd⟩ := H2.out
    exact ⟨F', fun g hg => (hF' g hg).imp id (fun h => by simp at h; omega), hd⟩
  have t0 : (o.kind == 0) = false := by simp [q0]
  by_cases q1 : o.kind = 1
  · have t1 : (o.kind == 1) = true := by simp [q1]
    have e : s.step o = (s.tick, s.read o.i) := by unfold DiskS.step; rw [if_neg q0, if_pos q1]
    have E := Lib.hid e
    clear e q0 q1
    go_enter Try.func8, Try.ntmps8
    go_wp2_with fail
    refine (read_any _ b F s HD.out ho o.i).mono ?_
    rintro _ w2 ⟨_, rfl, ⟨r, rfl, hr, h2⟩, k2⟩
    have HR := Lib.hid hr
    have H2 := Lib.hid h2
    have K2 := Lib.hid k2
    have HFB := Lib.hid HD.out.fb
    clear h2 k2 hr
    go_wp2_with fail
    go_ret2
    refine ⟨_, rfl, ⟨r, by rw [E.out]; rfl, by rw [E.out]; exact Own.mono HR.out (by simp), ?_⟩, (K1.out.mono (by simp)).trans (K2.out.mono (S2 := F) (fun g hg => by simp at hg; subst hg; exact .inl HFB.out)) (fun g hg => .inl hg)⟩
    rw [E.out]
    exact DiskAt.on H2.out
  have t1 : (o.kind == 1) = false := by simp [q1]
  by_cases q2 : o.kind = 2
  · have t2 : (o.kind == 2) = true := by simp [q2]
    have e : s.step o = (s.sync.1, ([], s.sync.2)) := by unfold DiskS.step; rw [if_neg q0, if_neg q1, if_pos q2]
    have E := Lib.hid e
    clear e q0 q1 q2
    go_enter Try.func8, Try.ntmps8
    go_wp2_with fail
    refine (sync_any _ b F s HD.out ho).mono ?_
    rintro _ w2 ⟨_, rfl, ⟨rfl, h2⟩, k2⟩
    have H2 := Lib.hid h2
    have K2 := Lib.hid k2
    clear h2 k2
    go_wp2_with fail
    go_ret2
    refine ⟨_, rfl, ⟨_, by rw [E.out]; rfl, by rw [E.out]; exact Own.nil _ _ _ _, ?_⟩, (K1.out.mono (by simp)).trans K2.out (fun g hg => .inl hg)⟩
    rw [E.out]
    exact DiskAt.on H2.out
  have t2 : (o.kind == 2) = false := by simp [q2]
  by_cases q3 : o.kind = 3
  · have t3 : (o.kind == 3) = true := by simp [q3]
    have e : s.step o = (s.crash o.t, ([], 0)) := by unfold DiskS.step; rw [if_neg q0, if_neg q1, if_neg q2, if_pos q3]
    have E := Lib.hid e
    clear e q0 q1 q2 q3
    go_enter Try.func8, Try.ntmps8
    go_wp2_with fail
    refine (crash_any _ b F s HD.out _ o.t HT.out).mono ?_
    rintro _ w2 ⟨_, rfl, ⟨rfl, h2⟩, k2⟩
    have H2 := Lib.hid h2
    have K2 := Lib.hid k2
    clear h2 k2
    go_wp2_with fail
    go_ret2
    refine ⟨_, rfl, ⟨_, by rw [E.out]; rfl, by rw [E.out]; exact Own.nil _ _ _ _, ?_⟩, (K1.out.mono (by simp)).trans K2.out (fun g hg => .inl hg)⟩
    rw [E.out]
    exact DiskAt.on H2.out
  have t3 : (o.kind == 3) = false := by simp [q3]
  by_cases q4 : o.kind ≠ 4
  · have t4 : (o.kind == 4) = false := by simp [q4]
    have e : s.step o = (s, ([], 0)) := by unfold DiskS.step; rw [if_neg q0, if_neg q1, if_neg q2, if_neg q3, if_neg q4]
    have E := Lib.hid e
    clear e q0 q1 q2 q3 q4
    go_enter Try.func8, Try.ntmps8
    go_wp2_with fail
    go_ret2
    refine ⟨_, rfl, ⟨_, by rw [E.out]; rfl, by rw [E.out]; exact Own.nil _ _ _ _, ?_⟩, K1.out.mono (by simp)⟩
    rw [E.out]
    exact DiskAt.on HD.out
  replace q4 : o.kind = 4 := by omega
  have t4 : (o.kind == 4) = true := by simp [q4]
  have e : s.step o = (if 0 < o.i ∧ o.i < 1000 then s.fail (s.ops + o.i) else s, ([], 0)) := by unfold DiskS.step; rw [if_neg q0, if_neg q1, if_neg q2, if_neg q3, if_pos q4]
  clear q0 q1 q2 q3 q4
  have o0 : (0 : Int) ≤ s.ops := by omega
  have o1 : (s.ops : Int) < 1000000000 := by omega
  by_cases q5 : 0 < o.i ∧ o.i < 1000
  · obtain ⟨q5, q6⟩ := q5
    rw [if_pos ⟨q5, q6⟩] at e
    have E := Lib.hid e
    clear e
    go_enter Try.func8, Try.ntmps8
    go_wp2_with fail
    refine (ops_any _ b F s HD.out).mono ?_
    rintro _ w2 ⟨_, rfl, rfl, k2⟩
    have H2 := Lib.hid (HD.out.kept k2 (by simp))
    have K2 := Lib.hid (K1.out.trans k2 (by simp))
    have g0 : w2.cell? ⟨w.heap.size, 1, none⟩ = some (.int .i64 o.i) := ((Blk.new w 36 [.int .u8 o.kind, .int .i64 o.i, .slice Ab o.b.length cb, .slice At o.t.length ct]).kept k2 (by simp)).cell 1 rfl
    clear k2
    go_wp2_with fail
    refine (fail_any _ b F s H2.out hm _ (by omega) (by omega)).mono ?_
    rintro _ w3 ⟨_, rfl, ⟨rfl, h3⟩, k3⟩
    have H3 := Lib.hid h3
    have K3 := Lib.hid k3
    clear h3 k3
    go_wp2_with fail
    go_ret2
    refine ⟨_, rfl, ⟨_, by rw [E.out]; rfl, by rw [E.out]; exact Own.nil _ _ _ _, ?_⟩, (K2.out.mono (by simp)).trans K3.out (fun g hg => .inl hg)⟩
    rw [E.out]
    exact DiskAt.on H3.out
  · rw [if_neg q5] at e
    have E := Lib.hid e
    clear e
    by_cases q6 : 0 < o.i
    · have q7 : decide (o.i < 1000) = false := by simp; omega
      clear q5 hi0 hi1
      go_enter Try.func8, Try.ntmps8
      go_wp2_with fail
      refine (ops_any _ b F s HD.out).mono ?_
      rintro _ w2 ⟨_, rfl, rfl, k2⟩
      have H2 := Lib.hid (HD.out.kept k2 (by simp))
      have K2 := Lib.hid (K1.out.trans k2 (by simp))
      have g0 : w2.cell? ⟨w.heap.size, 1, none⟩ = some (.int .i64 o.i) := ((Blk.new w 36 [.int .u8 o.kind, .int .i64 o.i, .slice Ab o.b.length cb, .slice At o.t.length ct]).kept k2 (by simp)).cell 1 rfl
      clear k2
      go_wp2_with fail
      go_ret2
      refine ⟨_, rfl, ⟨.slice none 0 0, by rw [E.out]; rfl, by rw [E.out]; exact Own.nil _ _ _ _, ?_⟩, (K2.out.mono (by simp))⟩
      exact (congrArg Prod.fst E.out : (s.step o).1 = s) ▸ DiskAt.on H2.out
    · have q7 : decide (0 < o.i) = false := by simp; omega
      clear q5 hi0 hi1
      go_enter Try.func8, Try.ntmps8
      go_wp2_with fail
      refine (ops_any _ b F s HD.out).mono ?_
      rintro _ w2 ⟨_, rfl, rfl, k2⟩
      have H2 := Lib.hid (HD.out.kept k2 (by simp))
      have K2 := Lib.hid (K1.out.trans k2 (by simp))
      have g0 : w2.cell? ⟨w.heap.size, 1, none⟩ = some (.int .i64 o.i) := ((Blk.new w 36 [.int .u8 o.kind, .int .i64 o.i, .slice Ab o.b.length cb, .slice At o.t.length ct]).kept k2 (by simp)).cell 1 rfl
      clear k2
      go_wp2_with fail
      go_ret2
      refine ⟨_, rfl, ⟨.slice none 0 0, by rw [E.out]; rfl, by rw [E.out]; exact Own.nil _ _ _ _, ?_⟩, (K2.out.mono (by simp))⟩
      exact (congrArg Prod.fst E.out : (s.step o).1 = s) ▸ DiskAt.on H2.out
end Go.Proofs.Ytcbngmfbbdmlgaa
