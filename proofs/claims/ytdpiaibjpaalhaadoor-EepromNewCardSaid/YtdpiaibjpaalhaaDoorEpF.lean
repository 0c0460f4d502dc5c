/- PROVED: the contract of the chip's method that judges the device's byte. No conditions beyond those that each theorem states. -/
import Derived.Test.YtdpiaibjpaalhaaDoorEpE
namespace Go.Proofs.YtdpiaibjpaalhaaDoor
open Go.RowKit Go.Proofs.YtdpiaibjpaalhaaDoorLib Go.WideElems Go.Maps Go.ChangeMaps
set_option linter.unusedSimpArgs false
set_option linter.unusedVariables false

theorem dev_bits (y : Int) (h0 : 0 ≤ y) (h1 : y ≤ 255) : bits .and .i64 (y / 2) 7 = ((devBlock y : Nat) : Int) :=
  byte_cases (P := fun y => bits .and .i64 (y / 2) 7 = ((devBlock y : Nat) : Int)) (by decide +kernel) y h0 h1
theorem odd_of (y : Int) (h0 : 0 ≤ y) (h1 : y ≤ 255) : (bits .and .u8 y 1 == 1) = decide (y % 2 = 1) := by
  rw [u8_1 _ h0 h1, Bool.eq_iff_iff, beq_iff_eq, decide_eq_true_iff]
theorem dev_ptr (k p : Nat) (hk : k ≤ 7) (hp : p < 65536) : bits .or .i64 ((k : Int) * 256) (bits .and .i64 (p : Int) 255) = (k : Int) * 256 + (p : Int) % 256 := by
  rw [i64_and255 _ (by omega) (by omega)]
  have := or_shift8 k (p % 256) (by omega) (by omega)
  rw [Int.natCast_emod] at this
  exact this
theorem ChipX.left0 {w W : World} {b : Nat} {F : List Nat} {s : EpS} {bw : Nat} {vd vn vc vw : Value} (h : ChipX w b F s bw vd vn vc vw) (s' : EpS) (v : Value) (hok : s'.Ok) (hk : Kept w W [b]) (hb : Blk W b 71 (EpS.cells s' b bw vd vn vc vw))
    (e1 : s'.data = s.data) (e2 : s'.scl = s.scl) (e3 : s'.sda = s.sda) (e4 : s'.coll = s.coll) (e5 : s'.waits = s.waits) (e6 : s.clock ≤ s'.clock) (e7 : s'.hasMap = s.hasMap) (e8 : s'.nx = s.nx) : Post w F (fun r W => r = v ∧ Leaves w b F s' W) (.returned v) W :=
  ⟨_, rfl, ⟨rfl, (ChipAt.leaves ⟨bw, vd, vn, vc, vw, h.turn0 hk hok hb e1 e2 e3 e4 e5 e6 e7 e8⟩)⟩, h.one hk⟩
theorem ChipX.left1 {w W : World} {b : Nat} {F : List Nat} {s : EpS} {bw : Nat} {vd vn vc vw : Value} (h : ChipX w b F s bw vd vn vc vw) (s' : EpS) (vn' v : Value) (hok : s'.Ok) (hk : Kept w W [b]) (hb : Blk W b 71 (EpS.cells s' b bw vd vn' vc vw))
    (e1 : s'.data = s.data) (e2 : s'.scl = s.scl) (e3 : s'.sda = s.sda) (e4 : s'.coll = s.coll) (e5 : s'.waits = s.waits) (e6 : s.clock ≤ s'.clock) (e7 : s'.hasMap = s.hasMap) (hn : NxOf W F b vn' s'.nx) : Post w F (fun r W => r = v ∧ Leaves w b F s' W) (.returned v) W :=
  ⟨_, rfl, ⟨rfl, (ChipAt.leaves ⟨bw, vd, vn', vc, vw, h.turn hk hok hb e1 e2 e3 e4 e5 e6 e7 hn (fun _ h => h) (fun g hg => Nat.lt_of_lt_of_le (h.lt g hg) hk.size) h.lo⟩)⟩, h.one hk⟩
set_option maxHeartbeats 4000000 in
theorem device_any (w : World) (b : Nat) (F : List Nat) (s : EpS) (y : Int) (hg : GeoLaid w) (h : ChipAt w b F s) (hy : 0 ≤ y ∧ y ≤ 255) (hj : s.jd = some .device) :
    Calls Tryd.prog 58 #[.pointer (some ⟨b, 0, none⟩), .int .u8 y] w (Post w F fun r W => r = .bool (s.device y).2 ∧ Leaves w b F (s.device y).1 W) := by
  have hok := h.ok.device y hj
  obtain ⟨bw, vd, vn, vc, vw, hx⟩ := h
  have hp := hx.ok.po
  have hl := hx.ok.len
  have hk1 := hx.ok.k1
  have hk2 := hx.ok.k2
  have hle := hx.ok.le
  have hgb := geo_bd hk1 hk2
  have hlo := hx.lo b hx.fb
  have c0 := hx.blk.cell 0 rfl
  have c9 := hx.blk.cell 9 rfl
  have f9 := hx.blk.free 9
  have lt := hx.blk.lt
  obtain ⟨y0, y1⟩ := hy
  have eb := dev_bits y y0 y1
  have hdb := devBlock_le y
  have HPT := Lib.hid (dev_ptr (devBlock y) s.pointer hdb (by omega))
  have HOD := Lib.hid (odd_of y y0 y1)
  have HEV : devBlock y = devBlock y := rfl
  have H := Lib.hid hx
  have HOK := Lib.hid hok
  have HG := Lib.hid hg
  have hmf := mkf
  clear hx hok hg hj HEV
  have hnb := hgb.2.2.2.2.2.2.1
  have hwd := hgb.2.2.2.2.2.1
  have hp2 : ∀ x : Nat, x ≤ 3 → IntKind.i64.wrap (2 ^ x) = (2 ^ x : Int) := by decide
  have ex := hp2 _ hnb
  have HBL := fun w2 hg2 => geoBlocks_any w2 hg2 s.kind hk1 hk2
  have HWI := fun w2 hg2 => geoWide_any w2 hg2 s.kind hk1 hk2
  have HDV : Hid ((s.device y) = (if s.devOk y = false then ({ s with block := devBlock y }, false)
  else if y % 2 = 1 then ({ s with block := devBlock y, pointer := if 0 < geoBlocks s.kind then 256 * devBlock y + s.pointer % 256 else s.pointer, nx := some .send }, true)
  else if 1 < geoWide s.kind then ({ s with block := devBlock y, nx := some .higher }, true)
  else ({ s with block := devBlock y, high := devBlock y, nx := some .lower }, true))) := Lib.hid rfl
  have HDO : Hid (s.devOk y = (y / 16 == 10 && decide (devBlock y < 2 ^ geoBlocks s.kind) && s.left == 0)) := Lib.hid rfl
  generalize geoBlocks s.kind = nb at *
  generalize geoWide s.kind = wd at *
  have n0 : (0 : Int) ≤ nb := by omega
  have n3 : (nb : Int) ≤ 3 := by omega
  have d0 : (0 : Int) ≤ devBlock y := by omega
  have d7 : (devBlock y : Int) ≤ 7 := by omega
  clear hp2 hdb hp hl hgb
  go_enter Tryd.func58, Tryd.ntmps58
  go_wp2_with fail
  refine (HBL _ ?hg2).mono ?_
  case hg2 => exact HG.out.kept (S := [b]) (((Kept.refl w [b]).setCell (by simp) _).alloc _) (by simpa using hlo)
  rintro _ w2 ⟨_, rfl, rfl, k2⟩
  have hb2 := (((H.out.blk.set 9 (.int .i64 (devBlock y))).alloc (.cells #[.pointer (some ⟨b, 0, none⟩)] 27)).kept k2 (by simp)).to (L' := EpS.cells { s with block := devBlock y } b bw vd vn vc vw) (by simp [EpS.cells])
  have hx2 := (Blk.top (w.setCell ⟨b, 9, none⟩ (.int .i64 (devBlock y))) w.heap.size (by simp) 27 [pt b]).kept k2 (by simp)
  have K2 := Lib.hid ((((Kept.refl w [b]).setCell (p := ⟨b, 9, none⟩) (by simp) (.int .i64 (devBlock y))).alloc (.cells #[.pointer (some ⟨b, 0, none⟩)] 27)).trans k2 (by simp))
  clear c0 c9 f9 eb k2
  have c0 : w2.cell? ⟨b, 0, none⟩ = some (.int .i64 s.kind) := hb2.cell 0 rfl
  have c6 : w2.cell? ⟨b, 6, none⟩ = some (vn) := hb2.cell 6 rfl
  have c9 : w2.cell? ⟨b, 9, none⟩ = some (.int .i64 (devBlock y)) := hb2.cell 9 rfl
  have c10 : w2.cell? ⟨b, 10, none⟩ = some (.int .i64 s.high) := hb2.cell 10 rfl
  have c11 : w2.cell? ⟨b, 11, none⟩ = some (.int .i64 s.pointer) := hb2.cell 11 rfl
  have c14 : w2.cell? ⟨b, 14, none⟩ = some (.int .i64 s.left) := hb2.cell 14 rfl
  have f6 := hb2.free 6
  have f10 := hb2.free 10
  have f11 := hb2.free 11
  have cx : w2.cell? ⟨w.heap.size, 0, none⟩ = some (.pointer (some ⟨b, 0, none⟩)) := hx2.cell 0 rfl
  have lt2 := hb2.lt
  have ltx := hx2.lt
  have HB2 := Lib.hid hb2
  have HX2 := Lib.hid hx2
  clear hb2 hx2
  by_cases ha : y / 16 = 10
  · have ha' : (y / 16 != 10) = false := by rw [bne_eq_false_iff_eq]; exact ha
    by_cases hb : devBlock y < 2 ^ nb
    · have hb1 : (devBlock y : Int) < 2 ^ nb := by exact_mod_cast hb
      have hb' : decide ((2 : Int) ^ nb ≤ (devBlock y : Int)) = false := by rw [decide_eq_false_iff_not]; omega
      by_cases hc : s.left = 0
      · have hd : s.devOk y = true := by rw [HDO.out]; simp [ha, hb, hc]
        have hc' : decide ((0 : Int) < (s.left : Int)) = false := by rw [decide_eq_false_iff_not]; omega
        have hc2 : decide (0 < s.left) = false := by rw [decide_eq_false_iff_not]; omega
        have hc3 : ¬ 0 < s.left := by omega
        by_cases ho : y % 2 = 1
        · have ho' : (bits .and .u8 y 1 == 1) = true := by rw [HOD.out]; simp [ho]
          by_cases hn : 0 < nb
          · have e : s.device y = ({ s with block := devBlock y, pointer := 256 * devBlock y + s.pointer % 256, nx := some .send }, true) := by rw [HDV.out, hd]; simp [ho, hn]
            rw [e] at HOK
            have HE := Lib.hid e
            have hn1 : (0 : Int) < nb := by omega
            have hpt := HPT.out
            have hn2 : decide (0 < nb) = true := by rw [decide_eq_true_iff]; exact hn
            clear e ha hb hc ho hd
            go_wp2_with fail
            go_quiet (fail)
            go_wp2_with fail
            go_region
            all_goals (
              go_wp2_with fail
              go_ret
              rw [HE.out]
              refine H.out.left1 _ (.func (.func 72) #[pt b] #[]) _ HOK.out (((K2.out.drewN _).setCell (by simp) _).setCell (by simp) _) ((((HB2.out.drewN _).set 11 _).set 6 _).to ?_) rfl rfl rfl rfl rfl (Nat.le_refl _) rfl rfl
              simp [EpS.cells, Int.mul_comm])
          · have e : s.device y = ({ s with block := devBlock y, nx := some .send }, true) := by rw [HDV.out, hd]; simp [ho, hn]
            rw [e] at HOK
            have HE := Lib.hid e
            have hn1 : ¬ (0 : Int) < nb := by omega
            have hn2 : decide (0 < nb) = false := by rw [decide_eq_false_iff_not]; exact hn
            clear e ha hb hc ho hd
            go_wp2_with fail
            go_quiet (fail)
            go_wp2_with fail
            go_ret
            rw [HE.out]
            exact H.out.left1 _ (.func (.func 72) #[pt b] #[]) _ HOK.out ((K2.out.drewN _).setCell (by simp) _) (((HB2.out.drewN _).set 6 _).to (by simp [EpS.cells])) rfl rfl rfl rfl rfl (Nat.le_refl _) rfl rfl
        · have ho' : (bits .and .u8 y 1 == 1) = false := by rw [HOD.out]; simp [ho]
          by_cases hw : 1 < wd
          · have e : s.device y = ({ s with block := devBlock y, nx := some .higher }, true) := by rw [HDV.out, hd]; simp [ho, hw]
            rw [e] at HOK
            have HE := Lib.hid e
            have hw1 : (1 : Int) < wd := by omega
            have hw2 : decide (1 < wd) = true := by rw [decide_eq_true_iff]; exact hw
            clear e ha hb hc ho hd
            go_wp2_with fail
            go_quiet (fail)
            go_wp2_with fail
            refine (HWI _ ?hg3).mono ?_
            case hg3 => exact HG.out.kept (S := [b]) (K2.out.drewN _) (by simpa using hlo)
            rintro _ w3 ⟨_, rfl, rfl, k3⟩
            have hb3 := (HB2.out.drewN nq).kept k3 (by simp)
            have hx3 := (HX2.out.drewN nq).kept k3 (by simp)
            have K3 := Lib.hid ((K2.out.drewN nq).trans k3 (by simp))
            clear c0 c6 c9 c10 c11 c14 f6 f10 f11 cx lt2 ltx k3
            have c6 : w3.cell? ⟨b, 6, none⟩ = some vn := hb3.cell 6 rfl
            have f6 := hb3.free 6
            have cx : w3.cell? ⟨w.heap.size, 0, none⟩ = some (.pointer (some ⟨b, 0, none⟩)) := hx3.cell 0 rfl
            have lt3 := hb3.lt
            have HB3 := Lib.hid hb3
            have HX3 := Lib.hid hx3
            clear hb3 hx3
            go_wp2_with fail
            go_ret
            rw [HE.out]
            exact H.out.boxed _ (.func (.func 74) #[] #[pt w.heap.size]) _ HOK.out (K3.out.setCell (by simp) _) ((HB3.out.set 6 _).to (by simp [EpS.cells])) rfl rfl rfl rfl rfl (Nat.le_refl _) rfl (HX3.out.far (by simp; omega) _) (fun hb => ⟨_, rfl, hb⟩)
          · have e : s.device y = ({ s with block := devBlock y, high := devBlock y, nx := some .lower }, true) := by rw [HDV.out, hd]; simp [ho, hw]
            rw [e] at HOK
            have HE := Lib.hid e
            have hw1 : ¬ (1 : Int) < wd := by omega
            have hw2 : decide (1 < wd) = false := by rw [decide_eq_false_iff_not]; exact hw
            clear e ha hb hc ho hd
            go_wp2_with fail
            go_quiet (fail)
            go_wp2_with fail
            refine (HWI _ ?hg4).mono ?_
            case hg4 => exact HG.out.kept (S := [b]) (K2.out.drewN _) (by simpa using hlo)
            rintro _ w3 ⟨_, rfl, rfl, k3⟩
            have hb3 := (HB2.out.drewN nq).kept k3 (by simp)
            have hx3 := (HX2.out.drewN nq).kept k3 (by simp)
            have K3 := Lib.hid ((K2.out.drewN nq).trans k3 (by simp))
            clear c0 c6 c9 c10 c11 c14 f6 f10 f11 cx lt2 ltx k3
            have c6 : w3.cell? ⟨b, 6, none⟩ = some vn := hb3.cell 6 rfl
            have c9 : w3.cell? ⟨b, 9, none⟩ = some (.int .i64 (devBlock y)) := hb3.cell 9 rfl
            have c10 : w3.cell? ⟨b, 10, none⟩ = some (.int .i64 s.high) := hb3.cell 10 rfl
            have f6 := hb3.free 6
            have f10 := hb3.free 10
            have cx : w3.cell? ⟨w.heap.size, 0, none⟩ = some (.pointer (some ⟨b, 0, none⟩)) := hx3.cell 0 rfl
            have lt3 := hb3.lt
            have ltx := hx3.lt
            have HB3 := Lib.hid hb3
            have HX3 := Lib.hid hx3
            clear hb3 hx3
            go_wp2_with fail
            go_region
            all_goals (
              go_wp2_with fail
              go_ret
              rw [HE.out]
              exact H.out.boxed _ (.func (.func 76) #[] #[pt w.heap.size]) _ HOK.out (((K3.out.setCell (by simp) _).setCell (by simp) _).drew) ((((HB3.out.set 10 _).set 6 _).drew).to (by simp [EpS.cells])) rfl rfl rfl rfl rfl (Nat.le_refl _) rfl (((HX3.out.far (by simp; omega) _).far (by simp; omega) _).drew) (fun hb => ⟨_, .inl rfl, hb⟩))
      · have e : s.device y = ({ s with block := devBlock y }, false) := by rw [HDV.out, HDO.out]; simp [hc]
        rw [e] at HOK
        have HE := Lib.hid e
        have hc' : decide ((0 : Int) < (s.left : Int)) = true := by rw [decide_eq_true_iff]; omega
        have hc2 : decide (0 < s.left) = true := by rw [decide_eq_true_iff]; omega
        have hc3 : 0 < s.left := by omega
        clear e ha hb hc
        go_wp2_with fail
        go_quiet (fail)
        go_wp2_with fail
        go_ret
        rw [HE.out]
        exact H.out.left0 _ _ HOK.out (K2.out.drewN _) (HB2.out.drewN _) rfl rfl rfl rfl rfl (Nat.le_refl _) rfl rfl
    · have e : s.device y = ({ s with block := devBlock y }, false) := by rw [HDV.out, HDO.out]; simp [hb]
      rw [e] at HOK
      have HE := Lib.hid e
      have hb1 : ¬ (devBlock y : Int) < 2 ^ nb := by intro h; exact hb (by exact_mod_cast h)
      have hb' : decide ((2 : Int) ^ nb ≤ (devBlock y : Int)) = true := by rw [decide_eq_true_iff]; omega
      clear e ha hb
      go_wp2_with fail
      go_quiet (fail)
      go_wp2_with fail
      go_ret
      rw [HE.out]
      exact H.out.left0 _ _ HOK.out (K2.out.drewN _) (HB2.out.drewN _) rfl rfl rfl rfl rfl (Nat.le_refl _) rfl rfl
  · have e : s.device y = ({ s with block := devBlock y }, false) := by rw [HDV.out, HDO.out]; simp [ha]
    rw [e] at HOK
    have HE := Lib.hid e
    have ha' : (y / 16 != 10) = true := by rw [bne_iff_ne]; exact ha
    clear ha e
    go_wp2_with fail
    go_quiet (fail)
    go_wp2_with fail
    go_ret
    rw [HE.out]
    exact H.out.left0 _ _ HOK.out (K2.out.drewN _) (HB2.out.drewN _) rfl rfl rfl rfl rfl (Nat.le_refl _) rfl rfl
end Go.Proofs.YtdpiaibjpaalhaaDoor
