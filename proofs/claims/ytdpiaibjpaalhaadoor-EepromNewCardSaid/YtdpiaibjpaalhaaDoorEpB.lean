/- PROVED: the contracts of the chip's small methods. No conditions beyond those that each theorem states. -/
import Derived.Test.YtdpiaibjpaalhaaDoorEpA
import Derived.Test.YtdpiaibjpaalhaaDoorAluPlain
namespace Go.Proofs.YtdpiaibjpaalhaaDoor
open Go.RowKit Go.Proofs.YtdpiaibjpaalhaaDoorLib Go.WideElems Go.Maps
set_option linter.unusedSimpArgs false
set_option linter.unusedVariables false

theorem ChipX.fin {w W : World} {b : Nat} {F : List Nat} {s : EpS} {bw : Nat} {vd vn vc vw : Value} (h : ChipX w b F s bw vd vn vc vw) (s' : EpS) (v : Value) (hok : s'.Ok) (hk : Kept w W [b]) (hb : Blk W b 71 (EpS.cells s' b bw vd vn vc vw))
    (e1 : s'.data = s.data) (e2 : s'.scl = s.scl) (e3 : s'.sda = s.sda) (e4 : s'.coll = s.coll) (e5 : s'.waits = s.waits) (e6 : s.clock ≤ s'.clock) (e7 : s'.hasMap = s.hasMap) (e8 : s'.nx = s.nx) : Post w F (fun r W => r = v ∧ ChipAt W b F s') (.returned v) W :=
  ⟨_, rfl, ⟨rfl, bw, vd, vn, vc, vw, h.turn0 hk hok hb e1 e2 e3 e4 e5 e6 e7 e8⟩, hk.mono (fun g hg => by simp at hg; subst hg; exact .inl h.fb)⟩
theorem idle_any (w : World) (b : Nat) (e : Int) (l : Bool) : Calls Tryd.prog 40 #[.pointer (some ⟨b, 0, none⟩), .int .i64 e, .bool l] w (fun e W => e = .returned (.tuple #[]) ∧ w = W) := by
  go_enter Tryd.func40, Tryd.ntmps40
  go_wp2
  go_end0
  exact ⟨rfl, rfl⟩
theorem rest_any (w : World) (b : Nat) (F : List Nat) (s : EpS) (h : ChipAt w b F s) :
    Calls Tryd.prog 59 #[.pointer (some ⟨b, 0, none⟩)] w (Post w F fun r W => r = .tuple #[] ∧ ChipAt W b F s.rest) := by
  obtain ⟨bw, vd, vn, vc, vw, hx⟩ := h
  have c3 := hx.blk.cell 3 rfl
  have c4 := hx.blk.cell 4 rfl
  have f3 := hx.blk.free 3
  have f4 := hx.blk.free 4
  have lt := hx.blk.lt
  have H := Lib.hid hx
  clear hx
  have hmf := mkf
  go_enter Tryd.func59, Tryd.ntmps59
  go_wp2
  go_end0
  exact H.out.fin _ _ H.out.ok.rest (((Kept.refl w [b]).setCell (by simp) _).setCell (by simp) _) ((H.out.blk.set 3 _).set 4 _) rfl rfl rfl rfl rfl (Nat.le_refl _) rfl rfl
theorem listen_any (w : World) (b : Nat) (F : List Nat) (s : EpS) (j : Jd) (hj : j = .store → s.nx = some .store) (h : ChipAt w b F s) :
    Calls Tryd.prog 57 #[.pointer (some ⟨b, 0, none⟩), jdV b (some j)] w (Post w F fun r W => r = .tuple #[] ∧ ChipAt W b F (s.listen j)) := by
  obtain ⟨bw, vd, vn, vc, vw, hx⟩ := h
  have c3 := hx.blk.cell 3 rfl
  have c4 := hx.blk.cell 4 rfl
  have c5 := hx.blk.cell 5 rfl
  have c7 := hx.blk.cell 7 rfl
  have c8 := hx.blk.cell 8 rfl
  have f3 := hx.blk.free 3
  have f4 := hx.blk.free 4
  have f5 := hx.blk.free 5
  have f7 := hx.blk.free 7
  have f8 := hx.blk.free 8
  have lt := hx.blk.lt
  have H := Lib.hid hx
  clear hx
  have hmf := mkf
  have HJ := Lib.hid hj
  clear hj
  cases j <;> unfold jdV
  all_goals (
    go_enter Tryd.func57, Tryd.ntmps57
    go_wp2
    go_end0
    exact H.out.fin _ _ (H.out.ok.listen _ (by first | exact HJ.out | exact (fun _ => HJ.out trivial) | (intro e; cases e))) ((((((Kept.refl w [b]).setCell (by simp) _).setCell (by simp) _).setCell (by simp) _).setCell (by simp) _).setCell (by simp) _) (((((H.out.blk.set 3 _).set 7 _).set 8 _).set 5 _).set 4 _) rfl rfl rfl rfl rfl (Nat.le_refl _) rfl rfl)
theorem bit_of (v : Int) (n : Nat) (h0 : 0 ≤ v) (h1 : v ≤ 255) : (bits .and .u8 (v / 2 ^ n) 1 == 0) = decide (v / 2 ^ n % 2 = 0) := by
  have p : (0 : Int) < 2 ^ n := Int.pow_pos (by decide)
  have q0 : 0 ≤ v / 2 ^ n := Int.ediv_nonneg h0 (Int.le_of_lt p)
  have q1 : v / 2 ^ n ≤ v := Int.ediv_le_self _ h0
  rw [u8_1 _ q0 (by omega)]
  rw [Bool.eq_iff_iff, beq_iff_eq, decide_eq_true_iff]
theorem tell_any (w : World) (b : Nat) (F : List Nat) (s : EpS) (h : ChipAt w b F s) (hb : s.bits < 8) :
    Calls Tryd.prog 85 #[.pointer (some ⟨b, 0, none⟩)] w (Post w F fun r W => r = .tuple #[] ∧ ChipAt W b F s.tell) := by
  have v := h.ok.vl
  obtain ⟨bw, vd, vn, vc, vw, hx⟩ := h
  have c3 := hx.blk.cell 3 rfl
  have c7 := hx.blk.cell 7 rfl
  have c8 := hx.blk.cell 8 rfl
  have f3 := hx.blk.free 3
  have lt := hx.blk.lt
  have H := Lib.hid hx
  clear hx
  have hmf := mkf
  have b0 : (0 : Int) ≤ s.bits := by omega
  have b1 : (s.bits : Int) < 8 := by omega
  obtain ⟨v0, v1⟩ := v
  have HP := Lib.hid (bit_of s.value (7 - s.bits) v0 v1)
  go_enter Tryd.func85, Tryd.ntmps85
  go_wp2
  go_region
  all_goals (
    go_end0
    rw [HP.out]
    exact H.out.fin _ _ H.out.ok.tell ((Kept.refl w [b]).setCell (by simp) _).drew (H.out.blk.set 3 _).drew rfl rfl rfl rfl rfl (Nat.le_refl _) rfl rfl)
end Go.Proofs.YtdpiaibjpaalhaaDoor
