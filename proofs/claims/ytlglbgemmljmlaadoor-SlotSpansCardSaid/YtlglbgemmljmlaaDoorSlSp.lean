/- PROVED: the walk of SlotSpans. No conditions beyond those that each theorem states. -/
import Derived.Test.YtlglbgemmljmlaaDoorSlAw
import Derived.Test.YtlglbgemmljmlaaDoorSlGr
namespace Go.Proofs.YtlglbgemmljmlaaDoor
open Go.RowKit Go.Proofs.YtlglbgemmljmlaaDoorLib
set_option linter.unusedSimpArgs false
set_option linter.unusedVariables false

set_option maxRecDepth 100000 in
set_option maxHeartbeats 4000000 in
theorem SlotSpans_post (w : World) (hg : GeoLaid w) (size e f s : Int) :
    Calls Tryd.prog 3 #[.int .i64 size, .agg #[.int .i64 e, .int .i64 f, .int .i64 s]] w (Post w [] fun v W => v = .bool true) := by
  have hb0 := Blk.new w 23 [.int .i64 e, .int .i64 f, .int .i64 s]
  have hbd := spanN_le size e f s
  have HAW := Lib.hid (awake_any (w.alloc (.cells #[.int .i64 e, .int .i64 f, .int .i64 s] 23)) (hg.alloc _))
  have HG := Lib.hid hg
  have HSP := Lib.hid (fun W (k : Kept w W []) => span_any W (HG.out.kept k (by simp)) size e f s)
  have HRM := Lib.hid (fun W (k : Kept w W []) => room_any W (HG.out.kept k (by simp)) size e f s)
  have HRS := Lib.hid (fun W (k : Kept w W []) => rspan_any W size e f s)
  generalize spanN size e f s = q at *
  have d0 : (0 : Int) ≤ q := by omega
  have d1 : (q : Int) ≤ 100001 := by omega
  have HB0 := Lib.hid hb0
  clear hg hb0 hbd
  go_enter Tryd.func3, Tryd.ntmps3
  go_wp2_with fail
  refine HAW.out.mono ?_
  rintro _ w1 ⟨_, rfl, rfl, k1⟩
  have k0 : Kept w w1.drew [] := (((Kept.refl w []).alloc _).trans k1 (by simp)).drew
  have hb1 := HB0.out.kept k1 (by simp)
  have x0 : w1.drew.cell? ⟨w.heap.size, 0, none⟩ = some (.int .i64 e) := hb1.cell 0 rfl
  have x1 : w1.drew.cell? ⟨w.heap.size, 1, none⟩ = some (.int .i64 f) := hb1.cell 1 rfl
  have x2 : w1.drew.cell? ⟨w.heap.size, 2, none⟩ = some (.int .i64 s) := hb1.cell 2 rfl
  have HB1 : Hid (Blk w1.drew w.heap.size 23 [.int .i64 e, .int .i64 f, .int .i64 s]) := Lib.hid hb1
  have kk0 : Kept w1.drew w1.drew [] := Kept.refl _ _
  have KZ := Lib.hid k0
  clear hb1 k1 k0
  have HSP2 := Lib.hid (fun W (k : Kept w1.drew W []) => HSP.out W (KZ.out.trans k (by simp)))
  have HRM2 := Lib.hid (fun W (k : Kept w1.drew W []) => HRM.out W (KZ.out.trans k (by simp)))
  have HRS2 := Lib.hid (fun W (k : Kept w1.drew W []) => HRS.out W (KZ.out.trans k (by simp)))
  clear HSP HRM HRS HAW HG
  go_wp2_with fail
  go_region_held3 (fun W => W.cell? ⟨w.heap.size, 0, none⟩ = some (.int .i64 e) ∧ W.cell? ⟨w.heap.size, 1, none⟩ = some (.int .i64 f) ∧ W.cell? ⟨w.heap.size, 2, none⟩ = some (.int .i64 s)) (first | (with_reducible exact ⟨x0, x1, x2⟩) | (with_reducible exact ⟨y0, y1, y2⟩) | go_keep) (first
    | (go_at_call 9
       refine callK HSP2.out (by with_reducible assumption) ?_
       rintro _ wn rfl kn
       have y0 := kn.cell x0 (by simp)
       have y1 := kn.cell x1 (by simp)
       have y2 := kn.cell x2 (by simp))
    | (go_at_call 10
       refine callK HRS2.out (by with_reducible assumption) ?_
       rintro _ wn rfl kn
       have y0 := kn.cell x0 (by simp)
       have y1 := kn.cell x1 (by simp)
       have y2 := kn.cell x2 (by simp))
    | (go_at_call 11
       refine callK HRM2.out (by with_reducible assumption) ?_
       rintro _ wn rfl kn
       have y0 := kn.cell x0 (by simp)
       have y1 := kn.cell x1 (by simp)
       have y2 := kn.cell x2 (by simp)))
  all_goals (
    have KN := Lib.hid kn
    clear x0 x1 x2 y0 y1 y2 kn
    go_wp2_with fail
    go_ret
    exact ⟨_, rfl, by show Value.bool _ = Value.bool _; simp; rw [IntKind.wrap_i64]; omega, KZ.out.trans KN.out (by simp)⟩)
theorem SlotSpans_walk (w : World) (hg : GeoLaid w) (size e f s : Int) :
    Calls Tryd.prog 3 #[.int .i64 size, .agg #[.int .i64 e, .int .i64 f, .int .i64 s]] w (fun e W => e = .returned (.bool true) ∧ Below w.heap.size w W) :=
  (SlotSpans_post w hg size e f s).mono fun _ _ ⟨_, h1, h2, h3⟩ => ⟨by rw [h1, h2], h3.below _ (Nat.le_refl _) (by simp)⟩
end Go.Proofs.YtlglbgemmljmlaaDoor
