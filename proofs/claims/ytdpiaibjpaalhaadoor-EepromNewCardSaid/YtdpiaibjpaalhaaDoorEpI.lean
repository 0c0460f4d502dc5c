/- PROVED: the contract of the chip's method that hears, at the eighth bit. No conditions beyond those that each theorem states. -/
import Derived.Test.YtdpiaibjpaalhaaDoorEpH
namespace Go.Proofs.YtdpiaibjpaalhaaDoor
open Go.RowKit Go.Proofs.YtdpiaibjpaalhaaDoorLib Go.WideElems Go.Maps Go.ChangeMaps
set_option linter.unusedSimpArgs false
set_option linter.unusedVariables false

set_option maxRecDepth 100000 in
set_option maxHeartbeats 4000000 in
theorem hears_device (w : World) (b : Nat) (F : List Nat) (s : EpS) (l : Bool) (hg : GeoLaid w) (h : ChipAt w b F s) (hgo : s.Go) (hj : s.jd = some .device) (h8 : s.bits = 8) :
    Calls Tryd.prog 70 #[.pointer (some ⟨b, 0, none⟩), .int .i64 4, .bool l] w (Post w F fun r W => r = .tuple #[] ∧ Leaves w b F (s.hears 4 l) W) := by
  have E : s.hears 4 l = s.heard := by simp [EpS.hears, h8]
  rw [E]
  have hok := h.ok.heard hgo
  have hjs := judge_same s s.value .device
  obtain ⟨bw, vd, vn, vc, vw, hx⟩ := h
  have c5 : w.drew.cell? ⟨b, 5, none⟩ = some (.func (.func 58) #[.pointer (some ⟨b, 0, none⟩)] #[]) := (hx.blk.cell 5 rfl).trans (by rw [hj]; rfl)
  have c7 : w.drew.cell? ⟨b, 7, none⟩ = some (.int .i64 8) := (hx.blk.cell 7 rfl).trans (by rw [h8]; rfl)
  have c8 : w.drew.cell? ⟨b, 8, none⟩ = some (.int .u8 s.value) := hx.blk.cell 8 rfl
  have H := Lib.hid hx
  have HOK := Lib.hid hok
  have HJ := Lib.hid (judge_any w.drew b F s .device hg.drew (hx.at.kept (S := []) (Kept.refl w []).drew (by simp)) hj hgo _ rfl)
  have HJS := Lib.hid hjs
  have HJJ := Lib.hid hj
  have H8 := Lib.hid h8
  have HHD : Hid (s.heard = if (s.judge s.value .device).2 = true then { (s.judge s.value .device).1 with pulls := true, ev := .thanks } else (s.judge s.value .device).1.rest) := Lib.hid (by unfold EpS.heard; rw [hj])
  have hmf := mkf
  clear hx hok hjs hg hgo hj h8 E
  generalize hr : (s.judge s.value .device).2 = r at *
  generalize hs1 : (s.judge s.value .device).1 = s1 at *
  have HR := Lib.hid hr
  have HS1 := Lib.hid hs1
  clear hr hs1
  go_enter Tryd.func70, Tryd.ntmps70
  go_wp2_with fail
  go_region_held3 (fun W => W.cell? ⟨b, 5, none⟩ = some (.func (.func 58) #[.pointer (some ⟨b, 0, none⟩)] #[]) ∧ W.cell? ⟨b, 7, none⟩ = some (.int .i64 8) ∧ W.cell? ⟨b, 8, none⟩ = some (.int .u8 s.value)) (first | (with_reducible exact ⟨c5, c7, c8⟩) | (with_reducible exact ⟨d5, d7, d8⟩) | go_keep) (first | (
    go_at_call 58
    refine HJ.out.mono ?_
    rintro _ w2 ⟨_, rfl, ⟨rfl, F1, hgr, bw2, vd2, vn2, vc2, vw2, hx2⟩, k2⟩
    have d5 : w2.cell? ⟨b, 5, none⟩ = some (.func (.func 58) #[.pointer (some ⟨b, 0, none⟩)] #[]) := (hx2.blk.cell 5 rfl).trans (by rw [HJS.out.2.2, HJJ.out]; rfl)
    have d7 : w2.cell? ⟨b, 7, none⟩ = some (.int .i64 8) := (hx2.blk.cell 7 rfl).trans (by rw [HJS.out.1, H8.out]; rfl)
    have d8 : w2.cell? ⟨b, 8, none⟩ = some (.int .u8 s.value) := (hx2.blk.cell 8 rfl).trans (by rw [HJS.out.2.1])))
  all_goals (
    have HX2 := Lib.hid hx2
    have HGR := Lib.hid hgr
    have K2 := Lib.hid k2
    have g3 := hx2.blk.cell 3 rfl
    have g4 := hx2.blk.cell 4 rfl
    have fr3 := hx2.blk.free 3
    have fr4 := hx2.blk.free 4
    have lt2 := hx2.blk.lt
    clear c5 c7 c8 hx2 hgr k2
    cases r with
    | true =>
      have e : s.heard = { s1 with pulls := true, ev := .thanks } := HHD.out.trans (if_pos rfl)
      rw [e] at HOK
      have HE := Lib.hid e
      clear e
      go_wp2_with fail
      go_end0
      rw [HE.out]
      have kk : Kept w ((w2.setCell ⟨b, 3, none⟩ (.bool true)).setCell ⟨b, 4, none⟩ (.func (.func 83) #[.pointer (some ⟨b, 0, none⟩)] #[])) F := Kept.grows (F1 := F1) ((Kept.refl w F).drew.trans K2.out (fun g hg => .inl hg)) HGR.out (HX2.out.one (((Kept.refl w2 [b]).setCell (by simp) _).setCell (by simp) _))
      exact ⟨_, rfl, ⟨rfl, F1, HGR.out, HX2.out.mid _ HOK.out (((Kept.refl w2 [b]).setCell (by simp) _).setCell (by simp) _) (((HX2.out.blk.set 3 _).set 4 _).to (by simp [EpS.cells, evV])) rfl rfl rfl rfl rfl (Nat.le_refl _) rfl rfl⟩, kk⟩
    | false =>
      have e : s.heard = s1.rest := HHD.out.trans (if_neg (by decide))
      have HE := Lib.hid e
      clear e
      go_wp2_with fail
      refine (rest_any _ b F1 s1 HX2.out.at).mono ?_
      rintro _ w3 ⟨_, rfl, ⟨rfl, h3⟩, k3⟩
      have H3 := Lib.hid h3
      have K3 := Lib.hid k3
      clear h3 k3
      go_wp2_with fail
      go_end0
      rw [HE.out]
      exact ⟨_, rfl, ⟨rfl, F1, HGR.out, H3.out⟩, Kept.grows (F1 := F1) ((Kept.refl w F).drew.trans K2.out (fun g hg => .inl hg)) HGR.out K3.out⟩)
set_option maxRecDepth 100000 in
set_option maxHeartbeats 4000000 in
theorem hears_higher (w : World) (b : Nat) (F : List Nat) (s : EpS) (l : Bool) (hg : GeoLaid w) (h : ChipAt w b F s) (hgo : s.Go) (hj : s.jd = some .higher) (h8 : s.bits = 8) :
    Calls Tryd.prog 70 #[.pointer (some ⟨b, 0, none⟩), .int .i64 4, .bool l] w (Post w F fun r W => r = .tuple #[] ∧ Leaves w b F (s.hears 4 l) W) := by
  have E : s.hears 4 l = s.heard := by simp [EpS.hears, h8]
  rw [E]
  have hok := h.ok.heard hgo
  have hjs := judge_same s s.value .higher
  obtain ⟨bw, vd, vn, vc, vw, hx⟩ := h
  have c5 : w.drew.cell? ⟨b, 5, none⟩ = some (.func (.func 75) #[.pointer (some ⟨b, 0, none⟩)] #[]) := (hx.blk.cell 5 rfl).trans (by rw [hj]; rfl)
  have c7 : w.drew.cell? ⟨b, 7, none⟩ = some (.int .i64 8) := (hx.blk.cell 7 rfl).trans (by rw [h8]; rfl)
  have c8 : w.drew.cell? ⟨b, 8, none⟩ = some (.int .u8 s.value) := hx.blk.cell 8 rfl
  have H := Lib.hid hx
  have HOK := Lib.hid hok
  have HJ := Lib.hid (judge_any w.drew b F s .higher hg.drew (hx.at.kept (S := []) (Kept.refl w []).drew (by simp)) hj hgo _ rfl)
  have HJS := Lib.hid hjs
  have HJJ := Lib.hid hj
  have H8 := Lib.hid h8
  have HHD : Hid (s.heard = if (s.judge s.value .higher).2 = true then { (s.judge s.value .higher).1 with pulls := true, ev := .thanks } else (s.judge s.value .higher).1.rest) := Lib.hid (by unfold EpS.heard; rw [hj])
  have hmf := mkf
  clear hx hok hjs hg hgo hj h8 E
  generalize hr : (s.judge s.value .higher).2 = r at *
  generalize hs1 : (s.judge s.value .higher).1 = s1 at *
  have HR := Lib.hid hr
  have HS1 := Lib.hid hs1
  clear hr hs1
  go_enter Tryd.func70, Tryd.ntmps70
  go_wp2_with fail
  go_region_held3 (fun W => W.cell? ⟨b, 5, none⟩ = some (.func (.func 75) #[.pointer (some ⟨b, 0, none⟩)] #[]) ∧ W.cell? ⟨b, 7, none⟩ = some (.int .i64 8) ∧ W.cell? ⟨b, 8, none⟩ = some (.int .u8 s.value)) (first | (with_reducible exact ⟨c5, c7, c8⟩) | (with_reducible exact ⟨d5, d7, d8⟩) | go_keep) (first | (
    go_at_call 75
    refine HJ.out.mono ?_
    rintro _ w2 ⟨_, rfl, ⟨rfl, F1, hgr, bw2, vd2, vn2, vc2, vw2, hx2⟩, k2⟩
    have d5 : w2.cell? ⟨b, 5, none⟩ = some (.func (.func 75) #[.pointer (some ⟨b, 0, none⟩)] #[]) := (hx2.blk.cell 5 rfl).trans (by rw [HJS.out.2.2, HJJ.out]; rfl)
    have d7 : w2.cell? ⟨b, 7, none⟩ = some (.int .i64 8) := (hx2.blk.cell 7 rfl).trans (by rw [HJS.out.1, H8.out]; rfl)
    have d8 : w2.cell? ⟨b, 8, none⟩ = some (.int .u8 s.value) := (hx2.blk.cell 8 rfl).trans (by rw [HJS.out.2.1])))
  all_goals (
    have HX2 := Lib.hid hx2
    have HGR := Lib.hid hgr
    have K2 := Lib.hid k2
    have g3 := hx2.blk.cell 3 rfl
    have g4 := hx2.blk.cell 4 rfl
    have fr3 := hx2.blk.free 3
    have fr4 := hx2.blk.free 4
    have lt2 := hx2.blk.lt
    clear c5 c7 c8 hx2 hgr k2
    cases r with
    | true =>
      have e : s.heard = { s1 with pulls := true, ev := .thanks } := HHD.out.trans (if_pos rfl)
      rw [e] at HOK
      have HE := Lib.hid e
      clear e
      go_wp2_with fail
      go_end0
      rw [HE.out]
      have kk : Kept w ((w2.setCell ⟨b, 3, none⟩ (.bool true)).setCell ⟨b, 4, none⟩ (.func (.func 83) #[.pointer (some ⟨b, 0, none⟩)] #[])) F := Kept.grows (F1 := F1) ((Kept.refl w F).drew.trans K2.out (fun g hg => .inl hg)) HGR.out (HX2.out.one (((Kept.refl w2 [b]).setCell (by simp) _).setCell (by simp) _))
      exact ⟨_, rfl, ⟨rfl, F1, HGR.out, HX2.out.mid _ HOK.out (((Kept.refl w2 [b]).setCell (by simp) _).setCell (by simp) _) (((HX2.out.blk.set 3 _).set 4 _).to (by simp [EpS.cells, evV])) rfl rfl rfl rfl rfl (Nat.le_refl _) rfl rfl⟩, kk⟩
    | false =>
      have e : s.heard = s1.rest := HHD.out.trans (if_neg (by decide))
      have HE := Lib.hid e
      clear e
      go_wp2_with fail
      refine (rest_any _ b F1 s1 HX2.out.at).mono ?_
      rintro _ w3 ⟨_, rfl, ⟨rfl, h3⟩, k3⟩
      have H3 := Lib.hid h3
      have K3 := Lib.hid k3
      clear h3 k3
      go_wp2_with fail
      go_end0
      rw [HE.out]
      exact ⟨_, rfl, ⟨rfl, F1, HGR.out, H3.out⟩, Kept.grows (F1 := F1) ((Kept.refl w F).drew.trans K2.out (fun g hg => .inl hg)) HGR.out K3.out⟩)
set_option maxRecDepth 100000 in
set_option maxHeartbeats 4000000 in
theorem hears_lower (w : World) (b : Nat) (F : List Nat) (s : EpS) (l : Bool) (hg : GeoLaid w) (h : ChipAt w b F s) (hgo : s.Go) (hj : s.jd = some .lower) (h8 : s.bits = 8) :
    Calls Tryd.prog 70 #[.pointer (some ⟨b, 0, none⟩), .int .i64 4, .bool l] w (Post w F fun r W => r = .tuple #[] ∧ Leaves w b F (s.hears 4 l) W) := by
  have E : s.hears 4 l = s.heard := by simp [EpS.hears, h8]
  rw [E]
  have hok := h.ok.heard hgo
  have hjs := judge_same s s.value .lower
  obtain ⟨bw, vd, vn, vc, vw, hx⟩ := h
  have c5 : w.drew.cell? ⟨b, 5, none⟩ = some (.func (.func 77) #[.pointer (some ⟨b, 0, none⟩)] #[]) := (hx.blk.cell 5 rfl).trans (by rw [hj]; rfl)
  have c7 : w.drew.cell? ⟨b, 7, none⟩ = some (.int .i64 8) := (hx.blk.cell 7 rfl).trans (by rw [h8]; rfl)
  have c8 : w.drew.cell? ⟨b, 8, none⟩ = some (.int .u8 s.value) := hx.blk.cell 8 rfl
  have H := Lib.hid hx
  have HOK := Lib.hid hok
  have HJ := Lib.hid (judge_any w.drew b F s .lower hg.drew (hx.at.kept (S := []) (Kept.refl w []).drew (by simp)) hj hgo _ rfl)
  have HJS := Lib.hid hjs
  have HJJ := Lib.hid hj
  have H8 := Lib.hid h8
  have HHD : Hid (s.heard = if (s.judge s.value .lower).2 = true then { (s.judge s.value .lower).1 with pulls := true, ev := .thanks } else (s.judge s.value .lower).1.rest) := Lib.hid (by unfold EpS.heard; rw [hj])
  have hmf := mkf
  clear hx hok hjs hg hgo hj h8 E
  generalize hr : (s.judge s.value .lower).2 = r at *
  generalize hs1 : (s.judge s.value .lower).1 = s1 at *
  have HR := Lib.hid hr
  have HS1 := Lib.hid hs1
  clear hr hs1
  go_enter Tryd.func70, Tryd.ntmps70
  go_wp2_with fail
  go_region_held3 (fun W => W.cell? ⟨b, 5, none⟩ = some (.func (.func 77) #[.pointer (some ⟨b, 0, none⟩)] #[]) ∧ W.cell? ⟨b, 7, none⟩ = some (.int .i64 8) ∧ W.cell? ⟨b, 8, none⟩ = some (.int .u8 s.value)) (first | (with_reducible exact ⟨c5, c7, c8⟩) | (with_reducible exact ⟨d5, d7, d8⟩) | go_keep) (first | (
    go_at_call 77
    refine HJ.out.mono ?_
    rintro _ w2 ⟨_, rfl, ⟨rfl, F1, hgr, bw2, vd2, vn2, vc2, vw2, hx2⟩, k2⟩
    have d5 : w2.cell? ⟨b, 5, none⟩ = some (.func (.func 77) #[.pointer (some ⟨b, 0, none⟩)] #[]) := (hx2.blk.cell 5 rfl).trans (by rw [HJS.out.2.2, HJJ.out]; rfl)
    have d7 : w2.cell? ⟨b, 7, none⟩ = some (.int .i64 8) := (hx2.blk.cell 7 rfl).trans (by rw [HJS.out.1, H8.out]; rfl)
    have d8 : w2.cell? ⟨b, 8, none⟩ = some (.int .u8 s.value) := (hx2.blk.cell 8 rfl).trans (by rw [HJS.out.2.1])))
  all_goals (
    have HX2 := Lib.hid hx2
    have HGR := Lib.hid hgr
    have K2 := Lib.hid k2
    have g3 := hx2.blk.cell 3 rfl
    have g4 := hx2.blk.cell 4 rfl
    have fr3 := hx2.blk.free 3
    have fr4 := hx2.blk.free 4
    have lt2 := hx2.blk.lt
    clear c5 c7 c8 hx2 hgr k2
    cases r with
    | true =>
      have e : s.heard = { s1 with pulls := true, ev := .thanks } := HHD.out.trans (if_pos rfl)
      rw [e] at HOK
      have HE := Lib.hid e
      clear e
      go_wp2_with fail
      go_end0
      rw [HE.out]
      have kk : Kept w ((w2.setCell ⟨b, 3, none⟩ (.bool true)).setCell ⟨b, 4, none⟩ (.func (.func 83) #[.pointer (some ⟨b, 0, none⟩)] #[])) F := Kept.grows (F1 := F1) ((Kept.refl w F).drew.trans K2.out (fun g hg => .inl hg)) HGR.out (HX2.out.one (((Kept.refl w2 [b]).setCell (by simp) _).setCell (by simp) _))
      exact ⟨_, rfl, ⟨rfl, F1, HGR.out, HX2.out.mid _ HOK.out (((Kept.refl w2 [b]).setCell (by simp) _).setCell (by simp) _) (((HX2.out.blk.set 3 _).set 4 _).to (by simp [EpS.cells, evV])) rfl rfl rfl rfl rfl (Nat.le_refl _) rfl rfl⟩, kk⟩
    | false =>
      have e : s.heard = s1.rest := HHD.out.trans (if_neg (by decide))
      have HE := Lib.hid e
      clear e
      go_wp2_with fail
      refine (rest_any _ b F1 s1 HX2.out.at).mono ?_
      rintro _ w3 ⟨_, rfl, ⟨rfl, h3⟩, k3⟩
      have H3 := Lib.hid h3
      have K3 := Lib.hid k3
      clear h3 k3
      go_wp2_with fail
      go_end0
      rw [HE.out]
      exact ⟨_, rfl, ⟨rfl, F1, HGR.out, H3.out⟩, Kept.grows (F1 := F1) ((Kept.refl w F).drew.trans K2.out (fun g hg => .inl hg)) HGR.out K3.out⟩)
set_option maxRecDepth 100000 in
set_option maxHeartbeats 4000000 in
theorem hears_store (w : World) (b : Nat) (F : List Nat) (s : EpS) (l : Bool) (hg : GeoLaid w) (h : ChipAt w b F s) (hgo : s.Go) (hj : s.jd = some .store) (h8 : s.bits = 8) :
    Calls Tryd.prog 70 #[.pointer (some ⟨b, 0, none⟩), .int .i64 4, .bool l] w (Post w F fun r W => r = .tuple #[] ∧ Leaves w b F (s.hears 4 l) W) := by
  have E : s.hears 4 l = s.heard := by simp [EpS.hears, h8]
  rw [E]
  have hok := h.ok.heard hgo
  have hjs := judge_same s s.value .store
  obtain ⟨bw, vd, vn, vc, vw, hx⟩ := h
  have c5 : w.drew.cell? ⟨b, 5, none⟩ = some (.func (.func 88) #[.pointer (some ⟨b, 0, none⟩)] #[]) := (hx.blk.cell 5 rfl).trans (by rw [hj]; rfl)
  have c7 : w.drew.cell? ⟨b, 7, none⟩ = some (.int .i64 8) := (hx.blk.cell 7 rfl).trans (by rw [h8]; rfl)
  have c8 : w.drew.cell? ⟨b, 8, none⟩ = some (.int .u8 s.value) := hx.blk.cell 8 rfl
  have H := Lib.hid hx
  have HOK := Lib.hid hok
  have HJ := Lib.hid (judge_any w.drew b F s .store hg.drew (hx.at.kept (S := []) (Kept.refl w []).drew (by simp)) hj hgo _ rfl)
  have HJS := Lib.hid hjs
  have HJJ := Lib.hid hj
  have H8 := Lib.hid h8
  have HHD : Hid (s.heard = if (s.judge s.value .store).2 = true then { (s.judge s.value .store).1 with pulls := true, ev := .thanks } else (s.judge s.value .store).1.rest) := Lib.hid (by unfold EpS.heard; rw [hj])
  have hmf := mkf
  clear hx hok hjs hg hgo hj h8 E
  generalize hr : (s.judge s.value .store).2 = r at *
  generalize hs1 : (s.judge s.value .store).1 = s1 at *
  have HR := Lib.hid hr
  have HS1 := Lib.hid hs1
  clear hr hs1
  go_enter Tryd.func70, Tryd.ntmps70
  go_wp2_with fail
  go_region_held3 (fun W => W.cell? ⟨b, 5, none⟩ = some (.func (.func 88) #[.pointer (some ⟨b, 0, none⟩)] #[]) ∧ W.cell? ⟨b, 7, none⟩ = some (.int .i64 8) ∧ W.cell? ⟨b, 8, none⟩ = some (.int .u8 s.value)) (first | (with_reducible exact ⟨c5, c7, c8⟩) | (with_reducible exact ⟨d5, d7, d8⟩) | go_keep) (first | (
    go_at_call 88
    refine HJ.out.mono ?_
    rintro _ w2 ⟨_, rfl, ⟨rfl, F1, hgr, bw2, vd2, vn2, vc2, vw2, hx2⟩, k2⟩
    have d5 : w2.cell? ⟨b, 5, none⟩ = some (.func (.func 88) #[.pointer (some ⟨b, 0, none⟩)] #[]) := (hx2.blk.cell 5 rfl).trans (by rw [HJS.out.2.2, HJJ.out]; rfl)
    have d7 : w2.cell? ⟨b, 7, none⟩ = some (.int .i64 8) := (hx2.blk.cell 7 rfl).trans (by rw [HJS.out.1, H8.out]; rfl)
    have d8 : w2.cell? ⟨b, 8, none⟩ = some (.int .u8 s.value) := (hx2.blk.cell 8 rfl).trans (by rw [HJS.out.2.1])))
  all_goals (
    have HX2 := Lib.hid hx2
    have HGR := Lib.hid hgr
    have K2 := Lib.hid k2
    have g3 := hx2.blk.cell 3 rfl
    have g4 := hx2.blk.cell 4 rfl
    have fr3 := hx2.blk.free 3
    have fr4 := hx2.blk.free 4
    have lt2 := hx2.blk.lt
    clear c5 c7 c8 hx2 hgr k2
    cases r with
    | true =>
      have e : s.heard = { s1 with pulls := true, ev := .thanks } := HHD.out.trans (if_pos rfl)
      rw [e] at HOK
      have HE := Lib.hid e
      clear e
      go_wp2_with fail
      go_end0
      rw [HE.out]
      have kk : Kept w ((w2.setCell ⟨b, 3, none⟩ (.bool true)).setCell ⟨b, 4, none⟩ (.func (.func 83) #[.pointer (some ⟨b, 0, none⟩)] #[])) F := Kept.grows (F1 := F1) ((Kept.refl w F).drew.trans K2.out (fun g hg => .inl hg)) HGR.out (HX2.out.one (((Kept.refl w2 [b]).setCell (by simp) _).setCell (by simp) _))
      exact ⟨_, rfl, ⟨rfl, F1, HGR.out, HX2.out.mid _ HOK.out (((Kept.refl w2 [b]).setCell (by simp) _).setCell (by simp) _) (((HX2.out.blk.set 3 _).set 4 _).to (by simp [EpS.cells, evV])) rfl rfl rfl rfl rfl (Nat.le_refl _) rfl rfl⟩, kk⟩
    | false =>
      have e : s.heard = s1.rest := HHD.out.trans (if_neg (by decide))
      have HE := Lib.hid e
      clear e
      go_wp2_with fail
      refine (rest_any _ b F1 s1 HX2.out.at).mono ?_
      rintro _ w3 ⟨_, rfl, ⟨rfl, h3⟩, k3⟩
      have H3 := Lib.hid h3
      have K3 := Lib.hid k3
      clear h3 k3
      go_wp2_with fail
      go_end0
      rw [HE.out]
      exact ⟨_, rfl, ⟨rfl, F1, HGR.out, H3.out⟩, Kept.grows (F1 := F1) ((Kept.refl w F).drew.trans K2.out (fun g hg => .inl hg)) HGR.out K3.out⟩)
end Go.Proofs.YtdpiaibjpaalhaaDoor
