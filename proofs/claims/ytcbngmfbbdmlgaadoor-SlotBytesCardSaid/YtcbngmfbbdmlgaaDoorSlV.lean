/- PROVED: the contract of keepsakelaw06.fresh, and of Sync beside what is held. No conditions beyond those that each theorem states. -/
import Derived.Test.YtcbngmfbbdmlgaaDoorSlU
import Derived.Test.YtcbngmfbbdmlgaaDoorSlGr
import Derived.Test.YtcbngmfbbdmlgaaDoorSlAw
import Derived.Test.YtcbngmfbbdmlgaaDoorSame
namespace Go.Proofs.YtcbngmfbbdmlgaaDoor
open Go.RowKit Go.Proofs.YtcbngmfbbdmlgaaDoorLib
set_option linter.unusedSimpArgs false
set_option linter.unusedVariables false

theorem St.alloc_hold {A : Nat → Prop} {W : World} {b : Nat} {s : DiskS} (h : St A W b s) (o : Obj) : St (fun x => A x ∧ x ≠ W.heap.size) (W.alloc o) b s := by
  obtain ⟨⟨F, h1, h2⟩, h3⟩ := h
  exact ⟨⟨F, h1.kept ((Kept.refl W []).alloc o) (by simp), fun x hx => ⟨h2 x hx, by have := h1.lt x hx; omega⟩⟩, fun x hx => ⟨h3 x (by simp at hx; omega), by simp at hx; omega⟩⟩
theorem sync_st {A : Nat → Prop} {W : World} {b : Nat} {s : DiskS} (h : St A W b s) (ho : s.ops < 700000000) :
    Calls Tryd.prog 29 #[pt b] W (After A W b s.sync) := by
  obtain ⟨⟨F, h1, h2⟩, h3⟩ := h
  refine (sync_any W b F s h1 (by omega)).mono ?_
  rintro _ V ⟨_, rfl, ⟨rfl, hd⟩, k⟩
  exact ⟨rfl, ⟨⟨F, hd, h2⟩, fun x hx => h3 x (Nat.le_trans k.size hx)⟩, KeptA.of k h2⟩
def freshM (sz : Int) : Nat := (32 + sz % 100).toNat
theorem freshM_bd (sz : Int) : 32 ≤ freshM sz ∧ freshM sz ≤ 131 ∧ (freshM sz : Int) = 32 + sz % 100 := by unfold freshM; omega
theorem span_few {e f g : Int} (hr : gRight e f g = true) (ht : gTotal e f g ≤ 500) (m : Nat) (h1 : 32 ≤ m) (h2 : m ≤ 4096) : spanN m e f g ≤ 17 ∧ 1 ≤ spanN m e f g := by
  rw [spanN_eq hr h1 h2]
  have h3 : secs (gTotal e f g) m ≤ 16 := by
    unfold secs
    apply Nat.le_of_lt_succ
    rw [Nat.div_lt_iff_lt_mul (by omega)]
    omega
  omega
set_option maxRecDepth 100000 in
set_option maxHeartbeats 1000000 in
theorem fresh_any (w : World) (hg : GeoLaid w) (sz e f g : Int) (z0 : 0 ≤ sz) (z1 : sz ≤ 255) (hr : gRight e f g = true) (ht : gTotal e f g ≤ 500) :
    Calls Tryd.prog 28 #[.int .u8 sz, .agg #[.int .i64 e, .int .i64 f, .int .i64 g]] w (Post w [] fun r W => ∃ b F, r = pt b ∧ DiskAt W b F (DiskS.new (2 * spanN (freshM sz) e f g) (freshM sz)) ∧ ∀ x, x ∈ F → w.heap.size ≤ x) := by
  obtain ⟨b1, b2, b3⟩ := freshM_bd sz
  obtain ⟨sp1, sp2⟩ := span_few hr ht (freshM sz) b1 (by omega)
  have HR := Lib.hid (room_any (w.alloc (.cells #[.int .i64 e, .int .i64 f, .int .i64 g] 23)) (hg.alloc _) (freshM sz) e f g)
  generalize hk : spanN (freshM sz) e f g = k at *
  have HN := Lib.hid (fun W => new_yes W (2 * k : Nat) (freshM sz) ⟨by omega, by omega, by omega, by omega⟩)
  rw [show (((2 * k : Nat) : Int)).toNat = 2 * k from rfl, show ((freshM sz : Int)).toNat = freshM sz from rfl] at HN
  have y1 : sz.tmod 100 = sz % 100 := Int.tmod_eq_emod_of_nonneg z0
  have y2 : IntKind.i64.wrap (sz % 100) = sz % 100 := by rw [IntKind.wrap_i64]; omega
  have y3 : (0 : Int) ≤ sz % 100 := by omega
  have y4 : sz % 100 ≤ 99 := by omega
  have y5 : IntKind.u8.wrap (sz % 100) = sz % 100 := by rw [IntKind.wrap_u8]; omega
  have HB3 := Lib.hid (And.intro b3 trivial)
  generalize freshM sz = m at *
  clear b1 b2 sp1 sp2 hg hr ht hk b3
  go_enter Tryd.func28, Tryd.ntmps28
  go_wp2_with fail
  rw [← HB3.out.1]
  refine HR.out.mono ?_
  rintro _ w1 ⟨_, rfl, rfl, k1⟩
  have K1 := Lib.hid (((Kept.refl w []).alloc (.cells #[.int .i64 e, .int .i64 f, .int .i64 g] 23)).trans k1 (by simp))
  have HN1 := Lib.hid (HN.out w1)
  clear k1 HR
  go_wp2_with fail
  refine HN1.out.mono ?_
  rintro _ w2 ⟨_, rfl, ⟨b, F, rfl, hd, hF⟩, k2⟩
  have H := Lib.hid (And.intro hd (And.intro hF k2))
  clear hd hF k2 HN1
  go_wp2_with fail
  go_ret
  exact ⟨_, rfl, ⟨b, F, rfl, H.out.1, fun x hx => Nat.le_trans K1.out.size (H.out.2.1 x hx)⟩, K1.out.trans H.out.2.2 (by simp)⟩
end Go.Proofs.YtcbngmfbbdmlgaaDoor
