/- PROVED: the contract of what the chip does at a Stop. No conditions beyond those that each theorem states. -/
import Derived.Test.YtdpiaibjpaalhaaDoorEpJ
namespace Go.Proofs.YtdpiaibjpaalhaaDoor
open Go.RowKit Go.Proofs.YtdpiaibjpaalhaaDoorLib Go.WideElems Go.Maps Go.ChangeMaps
set_option linter.unusedSimpArgs false
set_option linter.unusedVariables false

theorem MapV.fresh {w W : World} {b : Nat} {F : List Nat} (h : W = w.alloc (.map #[] 0)) (hs : w.heap.size = b) : MapV W (b :: F) (.map (some b)) [] := MapV.made _ _ _ _ h hs (List.mem_cons_self ..)
theorem ChipX.col_old {w : World} {b : Nat} {F : List Nat} {s : EpS} {bw : Nat} {vd vn vc vw : Value} (h : ChipX w b F s bw vd vn vc vw) (m : Nat) (hm : w.heap.size ≤ m) : vc ≠ .map (some m) := by
  intro e
  rcases h.col with ⟨h1, _⟩ | ⟨m1, n, D, h1, h2, h3, h4, h5⟩
  · rw [h1] at e; cases e
  · rw [h1] at e; cases e
    have := h.lt _ h5
    omega
/-- a new map to collect in -/
theorem ChipX.anew {w W : World} {b : Nat} {F : List Nat} {s : EpS} {bw : Nat} {vd vn vc vw : Value} (h : ChipX w b F s bw vd vn vc vw) (hk : Kept w W [b]) (hW : ∃ w1 : World, W = w1.alloc (.map #[] 0) ∧ w1.heap.size = w.heap.size) (hb : Blk W b 71 (EpS.cells s b bw vd vn (.map (some w.heap.size)) vw)) :
    ChipAt W b (w.heap.size :: F) { s with hasMap := true, coll := [] } := by
  obtain ⟨w1, rfl, hs⟩ := hW
  refine h.gen _ _ _ _ h.ok.fresh hk hb rfl rfl rfl rfl (MapV.fresh rfl hs) (fun _ e => by cases e) (h.wai.kept hk (fun g hg => by simp at hg; subst hg; exact h.wai.ne_blk h.blk) (fun g hg => List.mem_cons_of_mem _ hg)) (fun m hm => ?_) (fun g hg => List.mem_cons_of_mem _ hg) (Grows.cons (Nat.le_refl _)) (fun g hg => ?_)
  · cases hm; exact h.wai_old _ (Nat.le_refl _)
  · rcases List.mem_cons.1 hg with rfl | hg
    · rw [World.size_alloc]; omega
    · exact Nat.lt_of_lt_of_le (h.lt g hg) hk.size
/-- what was collected waits -/
theorem ChipX.stops {w W : World} {b : Nat} {F : List Nat} {s : EpS} {bw : Nat} {vd vn vc vw : Value} (h : ChipX w b F s bw vd vn vc vw) (hc : s.coll ≠ []) (hk : Kept w W [b]) (hW : ∃ w1 : World, W = w1.alloc (.map #[] 0) ∧ w1.heap.size = w.heap.size) (hb : Blk W b 71 (EpS.cells { s with left := 50 } b bw vd vn (.map (some w.heap.size)) vc)) :
    ChipAt W b (w.heap.size :: F) { s with waits := s.coll, left := 50, hasMap := true, coll := [] } := by
  obtain ⟨w1, rfl, hs⟩ := hW
  have ho := h.ok
  have h1 : ({ s with waits := s.coll, left := 50 } : EpS).Ok :=
    ⟨ho.k1, ho.k2, ho.len, ho.bts, ho.hj, ho.tn, ho.tb, ho.js, ho.ns, ho.cm, ho.bi, ho.vl, ho.bl, ho.hi, ho.po, ho.cl, ho.cb, ho.cl, ho.cb, Nat.le_refl _, ⟨fun e => (by cases e), fun e => absurd e hc⟩, ho.ck⟩
  refine h.gen _ _ _ _ h1.fresh hk hb rfl rfl rfl rfl (MapV.fresh rfl hs) (fun _ e => by cases e) (h.col.kept hk (fun g hg => by simp at hg; subst hg; exact h.col.ne_blk h.blk) (fun g hg => List.mem_cons_of_mem _ hg)) (fun m hm => ?_) (fun g hg => List.mem_cons_of_mem _ hg) (Grows.cons (Nat.le_refl _)) (fun g hg => ?_)
  · cases hm; exact h.col_old _ (Nat.le_refl _)
  · rcases List.mem_cons.1 hg with rfl | hg
    · rw [World.size_alloc]; omega
    · exact Nat.lt_of_lt_of_le (h.lt g hg) hk.size
set_option maxHeartbeats 2000000 in
theorem stop_any (w : World) (b : Nat) (F : List Nat) (s : EpS) (wp : Bool) (h : ChipAt w b F s) :
    Calls Tryd.prog 45 #[.pointer (some ⟨b, 0, none⟩), .bool wp] w (Post w F fun r W => r = .tuple #[] ∧ Leaves w b F (s.stop wp) W) := by
  obtain ⟨bw, vd, vn, vc, vw, hx⟩ := h
  have c3 := hx.blk.cell 3 rfl
  have c7 := hx.blk.cell 7 rfl
  have c12 := hx.blk.cell 12 rfl
  have c13 := hx.blk.cell 13 rfl
  have c14 := hx.blk.cell 14 rfl
  have f12 := hx.blk.free 12
  have f13 := hx.blk.free 13
  have f14 := hx.blk.free 14
  have lt := hx.blk.lt
  have hlen : ∃ n0 : Nat, (0 < n0 ↔ s.coll ≠ []) ∧ n0 ≤ 1000000000 ∧ (∀ ty, (Builtin.len_ #[69] ty #[vc]).run Tryd.prog w = .ok (.int .i64 n0) w) ∧ ∃ r, vc = .map r := by
    rcases hx.col with ⟨rfl, e⟩ | ⟨m, n, D, rfl, hm1, hn1, hmt, hmF⟩
    · exact ⟨0, by simp [e], Nat.zero_le _, fun ty => len_nil w ty, _, rfl⟩
    · have h1 := hm1.size_le
      have h2 := hx.ok.cl
      have h3 := hx.ok.ck
      exact ⟨Maps.size D, hmt.size (hm1.canon keyedI), by omega, fun ty => hm1.len Tryd.underlying69 ty, _, rfl⟩
  obtain ⟨n0, hn0, hn1, hl, r0, rfl⟩ := hlen
  have H := Lib.hid hx
  have HN := Lib.hid hn0
  have n00 : (0 : Int) ≤ n0 := by omega
  have n01 : (n0 : Int) ≤ 1000000000 := by omega
  have hmf := mkf
  have hmm := @run_makeMap Tryd.prog
  have HST : Hid (s.stopped wp = (!s.coll.isEmpty && !s.pulls && s.bits == 1 && !wp)) := Lib.hid rfl
  have HSP : Hid (s.stop wp = EpS.rest (if s.stopped wp = true then { s with waits := s.coll, left := 50, hasMap := true, coll := [] } else { s with hasMap := true, coll := [] })) := Lib.hid rfl
  clear hx hn0
  by_cases hA : s.coll = []
  · have a1 : n0 = 0 := by
      have := HN.out
      by_cases z : n0 = 0
      · exact z
      · exact absurd hA (this.1 (by omega))
    subst a1
    have AH := Lib.hid hA
    clear hA
    have e : s.stopped wp = false := by rw [HST.out]; simp [AH.out]
    have E : s.stop wp = EpS.rest { s with hasMap := true, coll := [] } := by rw [HSP.out, e]; rfl
    rw [E]
    clear e E HSP HST
    skip
    go_enter Tryd.func45, Tryd.ntmps45
    go_wp2_with fail
    refine (rest_any _ b (w.heap.size :: F) { s with hasMap := true, coll := [] } ?hc).mono ?_
    case hc => exact H.out.anew (((Kept.refl w [b]).setCell (by simp) _).alloc _) ⟨_, rfl, by simp⟩ (((H.out.blk.set 12 _).alloc _).to (by simp [EpS.cells]))
    rintro _ w1 ⟨_, rfl, ⟨rfl, h1⟩, k1⟩
    have H1 := Lib.hid h1
    have K1 := Lib.hid k1
    clear h1 k1
    go_wp2_with fail
    go_end0
    exact ⟨_, rfl, ⟨rfl, _, Grows.cons (Nat.le_refl _), H1.out⟩, Kept.grows (F1 := w.heap.size :: F) (H.out.one (((Kept.refl w [b]).setCell (by simp) _).alloc _)) (Grows.cons (Nat.le_refl _)) K1.out⟩
  have a1 : 0 < n0 := HN.out.2 hA
  have a2 : (0 : Int) < n0 := by omega
  have a3 : decide (0 < n0) = true := by rw [decide_eq_true_iff]; exact a1
  have a4 : s.coll.isEmpty = false := by simpa using hA
  have AH := Lib.hid a4
  have AN := Lib.hid hA
  clear a4 hA
  by_cases hB : s.pulls = true
  · have BH := Lib.hid hB
    have e : s.stopped wp = false := by rw [HST.out]; simp [BH.out]
    have E : s.stop wp = EpS.rest { s with hasMap := true, coll := [] } := by rw [HSP.out, e]; rfl
    rw [E]
    clear e E HSP HST
    skip
    go_enter Tryd.func45, Tryd.ntmps45
    go_wp2_with fail
    refine (rest_any _ b (w.heap.size :: F) { s with hasMap := true, coll := [] } ?hc).mono ?_
    case hc => exact H.out.anew (((Kept.refl w [b]).setCell (by simp) _).alloc _) ⟨_, rfl, by simp⟩ (((H.out.blk.set 12 _).alloc _).to (by simp [EpS.cells]))
    rintro _ w1 ⟨_, rfl, ⟨rfl, h1⟩, k1⟩
    have H1 := Lib.hid h1
    have K1 := Lib.hid k1
    clear h1 k1
    go_wp2_with fail
    go_end0
    exact ⟨_, rfl, ⟨rfl, _, Grows.cons (Nat.le_refl _), H1.out⟩, Kept.grows (F1 := w.heap.size :: F) (H.out.one (((Kept.refl w [b]).setCell (by simp) _).alloc _)) (Grows.cons (Nat.le_refl _)) K1.out⟩
  replace hB : s.pulls = false := by simpa using hB
  have BH := Lib.hid hB
  by_cases hC : s.bits = 1
  · have c1 : ((s.bits : Int) == 1) = true := by rw [beq_iff_eq]; omega
    have CH := Lib.hid hC
    clear hC
    cases wp with
    | true =>
      have e : s.stopped true = false := by rw [HST.out]; simp
      have E : s.stop true = EpS.rest { s with hasMap := true, coll := [] } := by rw [HSP.out, e]; rfl
      rw [E]
      clear e E HSP HST
      skip
      go_enter Tryd.func45, Tryd.ntmps45
      go_wp2_with fail
      refine (rest_any _ b (w.heap.size :: F) { s with hasMap := true, coll := [] } ?hc).mono ?_
      case hc => exact H.out.anew (((Kept.refl w [b]).setCell (by simp) _).alloc _) ⟨_, rfl, by simp⟩ (((H.out.blk.set 12 _).alloc _).to (by simp [EpS.cells]))
      rintro _ w1 ⟨_, rfl, ⟨rfl, h1⟩, k1⟩
      have H1 := Lib.hid h1
      have K1 := Lib.hid k1
      clear h1 k1
      go_wp2_with fail
      go_end0
      exact ⟨_, rfl, ⟨rfl, _, Grows.cons (Nat.le_refl _), H1.out⟩, Kept.grows (F1 := w.heap.size :: F) (H.out.one (((Kept.refl w [b]).setCell (by simp) _).alloc _)) (Grows.cons (Nat.le_refl _)) K1.out⟩
    | false =>
      have e : s.stopped false = true := by rw [HST.out, AH.out, BH.out, CH.out]; rfl
      have E : s.stop false = EpS.rest { s with waits := s.coll, left := 50, hasMap := true, coll := [] } := by rw [HSP.out, e]; rfl
      rw [E]
      clear e E HSP HST
      go_enter Tryd.func45, Tryd.ntmps45
      go_wp2_with fail
      refine (rest_any _ b (w.heap.size :: F) { s with waits := s.coll, left := 50, hasMap := true, coll := [] } ?hc).mono ?_
      case hc => exact H.out.stops AN.out (((((Kept.refl w [b]).setCell (by simp) _).setCell (by simp) _).setCell (by simp) _).alloc _) ⟨_, rfl, by simp⟩ (((((H.out.blk.set 13 _).set 14 _).set 12 _).alloc _).to (by simp [EpS.cells]))
      rintro _ w1 ⟨_, rfl, ⟨rfl, h1⟩, k1⟩
      have H1 := Lib.hid h1
      have K1 := Lib.hid k1
      clear h1 k1
      go_wp2_with fail
      go_end0
      exact ⟨_, rfl, ⟨rfl, _, Grows.cons (Nat.le_refl _), H1.out⟩, Kept.grows (F1 := w.heap.size :: F) (H.out.one (((((Kept.refl w [b]).setCell (by simp) _).setCell (by simp) _).setCell (by simp) _).alloc _)) (Grows.cons (Nat.le_refl _)) K1.out⟩
  · have c1 : ((s.bits : Int) == 1) = false := by rw [beq_eq_false_iff_ne]; omega
    have CH := Lib.hid hC
    clear hC
    have e : s.stopped wp = false := by rw [HST.out]; simp [CH.out]
    have E : s.stop wp = EpS.rest { s with hasMap := true, coll := [] } := by rw [HSP.out, e]; rfl
    rw [E]
    clear e E HSP HST
    skip
    go_enter Tryd.func45, Tryd.ntmps45
    go_wp2_with fail
    refine (rest_any _ b (w.heap.size :: F) { s with hasMap := true, coll := [] } ?hc).mono ?_
    case hc => exact H.out.anew (((Kept.refl w [b]).setCell (by simp) _).alloc _) ⟨_, rfl, by simp⟩ (((H.out.blk.set 12 _).alloc _).to (by simp [EpS.cells]))
    rintro _ w1 ⟨_, rfl, ⟨rfl, h1⟩, k1⟩
    have H1 := Lib.hid h1
    have K1 := Lib.hid k1
    clear h1 k1
    go_wp2_with fail
    go_end0
    exact ⟨_, rfl, ⟨rfl, _, Grows.cons (Nat.le_refl _), H1.out⟩, Kept.grows (F1 := w.heap.size :: F) (H.out.one (((Kept.refl w [b]).setCell (by simp) _).alloc _)) (Grows.cons (Nat.le_refl _)) K1.out⟩
end Go.Proofs.YtdpiaibjpaalhaaDoor
