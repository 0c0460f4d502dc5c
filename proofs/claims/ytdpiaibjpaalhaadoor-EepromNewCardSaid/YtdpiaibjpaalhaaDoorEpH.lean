/- PROVED: the contract of the chip's method that hears. No conditions beyond those that each theorem states. -/
import Derived.Test.YtdpiaibjpaalhaaDoorEpF
import Derived.Deep.RegionHeld3
namespace Go.Proofs.YtdpiaibjpaalhaaDoor
open Go.RowKit Go.Proofs.YtdpiaibjpaalhaaDoorLib Go.WideElems Go.Maps Go.ChangeMaps
set_option linter.unusedSimpArgs false
set_option linter.unusedVariables false

theorem judge_same (s : EpS) (y : Int) (j : Jd) : (s.judge y j).1.bits = s.bits ∧ (s.judge y j).1.value = s.value ∧ (s.judge y j).1.jd = s.jd := by
  cases j
  · simp only [EpS.judge, EpS.device]
    split
    · exact ⟨rfl, rfl, rfl⟩
    · split
      · exact ⟨rfl, rfl, rfl⟩
      · split <;> exact ⟨rfl, rfl, rfl⟩
  · exact ⟨rfl, rfl, rfl⟩
  · exact ⟨rfl, rfl, rfl⟩
  · exact ⟨rfl, rfl, rfl⟩
theorem or1 (v : Int) (h0 : 0 ≤ v) (h1 : v ≤ 255) : bits .or .u8 (v * 2 % 256) 1 = v * 2 % 256 + 1 :=
  byte_cases (P := fun v => bits .or .u8 (v * 2 % 256) 1 = v * 2 % 256 + 1) (by decide +kernel) v h0 h1
/-- who judges, with the byte: what comes of it -/
theorem judge_any (w : World) (b : Nat) (F : List Nat) (s : EpS) (j : Jd) (hg : GeoLaid w) (h : ChipAt w b F s) (hj : s.jd = some j) (hgo : s.Go) (f : FuncId) (hf : jdV b (some j) = .func (.func f) #[.pointer (some ⟨b, 0, none⟩)] #[]) :
    Calls Tryd.prog f #[.pointer (some ⟨b, 0, none⟩), .int .u8 s.value] w (Post w F fun r W => r = .bool (s.judge s.value j).2 ∧ Leaves w b F (s.judge s.value j).1 W) := by
  have hv := h.ok.vl
  cases j
  · injection hf with e; injection e with e; subst e; exact device_any w b F s _ hg h hv hj
  · injection hf with e; injection e with e; subst e; exact higher_any w b F s _ h hv hj
  · injection hf with e; injection e with e; subst e; exact lower_any w b F s _ h hv
  · injection hf with e; injection e with e; subst e
    exact (store_any w b F s _ hg h hv (h.ok.ns (h.ok.js hj)) hgo).mono (fun e W ⟨v, e1, ⟨e2, h2⟩, k⟩ => ⟨v, e1, ⟨e2, h2.leaves⟩, k⟩)
set_option maxHeartbeats 4000000 in
theorem hears_rise (w : World) (b : Nat) (F : List Nat) (s : EpS) (l : Bool) (h : ChipAt w b F s) (hgo : s.Go) (hev : s.ev = .hears) :
    Calls Tryd.prog 70 #[.pointer (some ⟨b, 0, none⟩), .int .i64 3, .bool l] w (Post w F fun r W => r = .tuple #[] ∧ ChipAt W b F (s.hears 3 l)) := by
  have hok := h.ok.hears hgo (by rw [hev]; decide) 3 l
  obtain ⟨bw, vd, vn, vc, vw, hx⟩ := h
  have hv := hx.ok.vl
  have hb := hx.ok.bi
  have hck := hx.ok.ck
  have c7 := hx.blk.cell 7 rfl
  have c8 := hx.blk.cell 8 rfl
  have f7 := hx.blk.free 7
  have f8 := hx.blk.free 8
  have lt := hx.blk.lt
  have H := Lib.hid hx
  have HOK := Lib.hid hok
  have b0 : (0 : Int) ≤ s.bits := by omega
  have b1 : (s.bits : Int) ≤ 1000000008 := by omega
  obtain ⟨v0, v1⟩ := hv
  have ho := or1 s.value v0 v1
  clear hx hok hb hck hgo hev
  cases l with
  | true =>
    go_enter Tryd.func70, Tryd.ntmps70
    go_wp2_with fail
    go_end0
    exact H.out.fin _ _ HOK.out ((((Kept.refl w [b]).setCell (by simp) _).setCell (by simp) _).setCell (by simp) _) ((((H.out.blk.set 7 _).set 8 _).set 8 _).to (by simp [EpS.cells, EpS.hears])) rfl rfl rfl rfl rfl (Nat.le_refl _) rfl rfl
  | false =>
    go_enter Tryd.func70, Tryd.ntmps70
    go_wp2_with fail
    go_end0
    exact H.out.fin _ _ HOK.out (((Kept.refl w [b]).setCell (by simp) _).setCell (by simp) _) ((((H.out.blk.set 7 _).set 8 _)).to (by simp [EpS.cells, EpS.hears])) rfl rfl rfl rfl rfl (Nat.le_refl _) rfl rfl
theorem hears_no (w : World) (b : Nat) (F : List Nat) (s : EpS) (e : Int) (l : Bool) (h : ChipAt w b F s) (h3 : e ≠ 3) (h4 : e ≠ 4) :
    Calls Tryd.prog 70 #[.pointer (some ⟨b, 0, none⟩), .int .i64 e, .bool l] w (Post w F fun r W => r = .tuple #[] ∧ ChipAt W b F (s.hears e l)) := by
  have E : s.hears e l = s := by simp [EpS.hears, h3, h4]
  rw [E]
  have H := Lib.hid h
  have e3 : (e == 3) = false := by rw [beq_eq_false_iff_ne]; exact h3
  have e4 : (e == 4) = false := by rw [beq_eq_false_iff_ne]; exact h4
  clear h h3 h4 E
  go_enter Tryd.func70, Tryd.ntmps70
  go_wp2_with fail
  go_quiet (fail)
  go_wp2_with fail
  go_end0
  exact post_id (H.out.kept (S := []) ((Kept.refl w []).drewN _) (by simp)) ((Kept.refl w F).drewN _)
theorem hears_few (w : World) (b : Nat) (F : List Nat) (s : EpS) (l : Bool) (h : ChipAt w b F s) (h8 : s.bits ≠ 8) :
    Calls Tryd.prog 70 #[.pointer (some ⟨b, 0, none⟩), .int .i64 4, .bool l] w (Post w F fun r W => r = .tuple #[] ∧ ChipAt W b F (s.hears 4 l)) := by
  have E : s.hears 4 l = s := by simp [EpS.hears, h8]
  rw [E]
  obtain ⟨bw, vd, vn, vc, vw, hx⟩ := h
  have c7 := hx.blk.cell 7 rfl
  have H := Lib.hid hx
  have e8 : ((s.bits : Int) == 8) = false := by rw [beq_eq_false_iff_ne]; omega
  clear hx h8 E
  go_enter Tryd.func70, Tryd.ntmps70
  go_wp2_with fail
  go_quiet (fail)
  go_wp2_with fail
  go_end0
  exact post_id (H.out.at.kept (S := []) ((Kept.refl w []).drewN _) (by simp)) ((Kept.refl w F).drewN _)
end Go.Proofs.YtdpiaibjpaalhaaDoor
