/- PROVED: the contracts of the chip's Step, New, Bytes, Left and Pointer. No conditions beyond those that each theorem states. -/
import Derived.Test.YtdpiaibjpaalhaaDoorEpL
import Derived.Lib.SliceRun
namespace Go.Proofs.YtdpiaibjpaalhaaDoor
open Go.RowKit Go.Proofs.YtdpiaibjpaalhaaDoorLib Go.WideElems Go.Maps Go.ChangeMaps
set_option linter.unusedSimpArgs false
set_option linter.unusedVariables false

theorem tick_any (w : World) (b : Nat) (F : List Nat) (s : EpS) (h : ChipAt w b F s) :
    Calls Tryd.prog 43 #[.pointer (some ⟨b, 0, none⟩)] w (Post w F fun r W => r = .tuple #[] ∧ ChipAt W b F s.tick) := by
  by_cases h1 : s.left = 1
  · exact tick_lays w b F s h h1
  · exact tick_idle w b F s h h1
/-- the wire has turned -/
theorem ChipX.wire {w W : World} {b : Nat} {F : List Nat} {s : EpS} {bw : Nat} {vd vn vc vw : Value} (h : ChipX w b F s bw vd vn vc vw) (hc : s.clock < 1000000000) (scl sda : Bool) (hk : Kept w W [bw]) (hb : Blk W bw 74 [.bool scl, .bool sda]) : ChipX W b F (s.wired scl sda) bw vd vn vc vw := by
  have hw := Blk.ne h.wir h.blk (by decide)
  have hd := Own.ne_cells h.dat h.wir (by decide)
  exact ⟨(h.ok.wired hc scl sda).1, h.blk.kept hk (by simpa using fun e => hw e.symm), h.dat.kept hk (fun g hg hm => by simp at hm; subst hm; exact hd hg), hb, h.nxt.kept hk (fun x hx => by simpa using hx.ne h.wir (by decide)) (fun _ h => h),
    h.col.kept hk (fun g hg => by simp at hg; subst hg; exact h.col.ne_blk h.wir) (fun _ h => h), h.cm, h.wai.kept hk (fun g hg => by simp at hg; subst hg; exact h.wai.ne_blk h.wir) (fun _ h => h), h.ne, h.fb, h.fd, h.fw, fun g hg => Nat.lt_of_lt_of_le (h.lt g hg) hk.size, h.lo⟩
theorem leaves_step {w w2 W : World} {b : Nat} {F : List Nat} {s : EpS} (k2 : Kept w w2 F) (h : Leaves w2 b F s W) : Leaves w b F s W := Leaves.trans (Grows.refl _ _) h k2.size
set_option maxHeartbeats 4000000 in
theorem step_high (w : World) (b : Nat) (F : List Nat) (s : EpS) (scl wp : Bool) (hg : GeoLaid w) (h : ChipAt w b F s) (hc : s.clock < 1000000000) :
    Calls Tryd.prog 30 #[.pointer (some ⟨b, 0, none⟩), .bool scl, .bool true, .bool wp] w (Post w F fun r W => r = .bool ((s.step scl true wp).line true) ∧ Leaves w b F (s.step scl true wp) W) := by
  have H := Lib.hid h
  have HG := Lib.hid hg
  have HC := Lib.hid (show s.tick.clock < 1000000000 by rw [tick_clock]; exact hc)
  have HLO := Lib.hid h.lo
  clear h hg hc
  go_enter Tryd.func30, Tryd.ntmps30
  go_wp2_with fail
  refine (tick_any _ b F s H.out).mono ?_
  rintro _ w1 ⟨_, rfl, ⟨rfl, bw, vd, vn, vc, vw, hx⟩, k1⟩
  have c3 : w1.cell? ⟨b, 3, none⟩ = some (.bool s.tick.pulls) := hx.blk.cell 3 rfl
  have c2 : w1.cell? ⟨b, 2, none⟩ = some (.pointer (some ⟨bw, 0, none⟩)) := hx.blk.cell 2 rfl
  have H1 := Lib.hid hx
  have K1 := Lib.hid k1
  clear hx k1
  go_wp2_with fail
  refine (wireStep_any w1 bw s.tick.scl s.tick.sda scl (s.tick.line true) H1.out.wir).mono ?_
  rintro _ w2 ⟨_, rfl, ⟨rfl, hb2⟩, k2⟩
  have hx2 := H1.out.wire HC.out scl (s.tick.line true) k2 hb2
  have HGO : Hid ((s.tick.wired scl (s.tick.line true)).Go) := Lib.hid (H1.out.ok.wired HC.out scl (s.tick.line true)).2
  have K2 := Lib.hid (K1.out.trans k2 (fun g hg => by simp at hg; subst hg; exact .inl H1.out.fw))
  have HG2 := Lib.hid (HG.out.kept K2.out HLO.out)
  have HQ : Hid (s.step scl true wp = (s.tick.wired scl (s.tick.line true)).meets (tellW s.tick.scl s.tick.sda scl (s.tick.line true)) (s.tick.line true) wp) := Lib.hid rfl
  generalize tellW s.tick.scl s.tick.sda scl (s.tick.line true) = e at HQ ⊢
  have c4 : w2.cell? ⟨b, 4, none⟩ = some (evV b s.tick.ev) := hx2.blk.cell 4 rfl
  have H2 := Lib.hid hx2
  clear c2 c3 hx2 hb2 k2 HC H1 K1
  by_cases h1 : e = 1
  · subst h1
    have E : s.step scl true wp = (s.tick.wired scl (s.tick.line true)).start := HQ.out
    have HEQ := Lib.hid E
    clear E HQ
    go_wp2_with fail
    refine (start_any _ b F _ H2.out.at).mono ?_
    rintro _ w3 ⟨_, rfl, ⟨rfl, h3⟩, k3⟩
    obtain ⟨bw3, vd3, vn3, vc3, vw3, hx3⟩ := h3
    have c3 := hx3.blk.cell 3 rfl
    have H3 := Lib.hid hx3
    have K3 := Lib.hid k3
    clear hx3 k3 c4
    go_wp2_with fail
    go_ret
    rw [HEQ.out]
    exact ⟨_, rfl, ⟨rfl, leaves_step K2.out H3.out.at.leaves⟩, K2.out.trans K3.out (fun g hg => .inl hg)⟩
  by_cases h2 : e = 2
  · subst h2
    have E : s.step scl true wp = (s.tick.wired scl (s.tick.line true)).stop wp := HQ.out
    have HEQ := Lib.hid E
    clear E HQ h1
    go_wp2_with fail
    refine (stop_any _ b F _ wp H2.out.at).mono ?_
    rintro _ w3 ⟨_, rfl, ⟨rfl, F3, hgr3, h3⟩, k3⟩
    obtain ⟨bw3, vd3, vn3, vc3, vw3, hx3⟩ := h3
    have c3 := hx3.blk.cell 3 rfl
    have H3 := Lib.hid hx3
    have K3 := Lib.hid k3
    have HGR := Lib.hid hgr3
    clear hx3 k3 hgr3 c4
    go_wp2_with fail
    go_ret
    rw [HEQ.out]
    exact ⟨_, rfl, ⟨rfl, leaves_step K2.out ⟨F3, HGR.out, H3.out.at⟩⟩, K2.out.trans K3.out (fun g hg => .inl hg)⟩
  have E : s.step scl true wp = (s.tick.wired scl (s.tick.line true)).event e (s.tick.line true) := HQ.out.trans (by simp [EpS.meets, h1, h2])
  have HEQ := Lib.hid E
  have e1 : (e == 1) = false := by rw [beq_eq_false_iff_ne]; exact h1
  have e2 : (e == 2) = false := by rw [beq_eq_false_iff_ne]; exact h2
  clear E HQ h1 h2
  cases hv : s.tick.ev
  · replace c4 : w2.cell? ⟨b, 4, none⟩ = some (.func (.func 40) #[.pointer (some ⟨b, 0, none⟩)] #[]) := c4.trans (by rw [hv]; rfl)
    have HE := Lib.hid (event_any w2 b F (s.tick.wired scl (s.tick.line true)) e (s.tick.line true) HG2.out H2.out.at HGO.out 40 (by show evV b s.tick.ev = _; rw [hv]; rfl))
    clear hv
    go_wp2_with fail
    refine HE.out.mono ?_
    rintro _ w3 ⟨_, rfl, ⟨rfl, F3, hgr3, h3⟩, k3⟩
    obtain ⟨bw3, vd3, vn3, vc3, vw3, hx3⟩ := h3
    have c3 := hx3.blk.cell 3 rfl
    have H3 := Lib.hid hx3
    have K3 := Lib.hid k3
    have HGR := Lib.hid hgr3
    clear hx3 k3 hgr3 c4
    go_wp2_with fail
    go_ret
    rw [HEQ.out]
    exact ⟨_, rfl, ⟨rfl, leaves_step K2.out ⟨F3, HGR.out, H3.out.at⟩⟩, K2.out.trans K3.out (fun g hg => .inl hg)⟩
  · replace c4 : w2.cell? ⟨b, 4, none⟩ = some (.func (.func 70) #[.pointer (some ⟨b, 0, none⟩)] #[]) := c4.trans (by rw [hv]; rfl)
    have HE := Lib.hid (event_any w2 b F (s.tick.wired scl (s.tick.line true)) e (s.tick.line true) HG2.out H2.out.at HGO.out 70 (by show evV b s.tick.ev = _; rw [hv]; rfl))
    clear hv
    go_wp2_with fail
    refine HE.out.mono ?_
    rintro _ w3 ⟨_, rfl, ⟨rfl, F3, hgr3, h3⟩, k3⟩
    obtain ⟨bw3, vd3, vn3, vc3, vw3, hx3⟩ := h3
    have c3 := hx3.blk.cell 3 rfl
    have H3 := Lib.hid hx3
    have K3 := Lib.hid k3
    have HGR := Lib.hid hgr3
    clear hx3 k3 hgr3 c4
    go_wp2_with fail
    go_ret
    rw [HEQ.out]
    exact ⟨_, rfl, ⟨rfl, leaves_step K2.out ⟨F3, HGR.out, H3.out.at⟩⟩, K2.out.trans K3.out (fun g hg => .inl hg)⟩
  · replace c4 : w2.cell? ⟨b, 4, none⟩ = some (.func (.func 83) #[.pointer (some ⟨b, 0, none⟩)] #[]) := c4.trans (by rw [hv]; rfl)
    have HE := Lib.hid (event_any w2 b F (s.tick.wired scl (s.tick.line true)) e (s.tick.line true) HG2.out H2.out.at HGO.out 83 (by show evV b s.tick.ev = _; rw [hv]; rfl))
    clear hv
    go_wp2_with fail
    refine HE.out.mono ?_
    rintro _ w3 ⟨_, rfl, ⟨rfl, F3, hgr3, h3⟩, k3⟩
    obtain ⟨bw3, vd3, vn3, vc3, vw3, hx3⟩ := h3
    have c3 := hx3.blk.cell 3 rfl
    have H3 := Lib.hid hx3
    have K3 := Lib.hid k3
    have HGR := Lib.hid hgr3
    clear hx3 k3 hgr3 c4
    go_wp2_with fail
    go_ret
    rw [HEQ.out]
    exact ⟨_, rfl, ⟨rfl, leaves_step K2.out ⟨F3, HGR.out, H3.out.at⟩⟩, K2.out.trans K3.out (fun g hg => .inl hg)⟩
  · replace c4 : w2.cell? ⟨b, 4, none⟩ = some (.func (.func 84) #[.pointer (some ⟨b, 0, none⟩)] #[]) := c4.trans (by rw [hv]; rfl)
    have HE := Lib.hid (event_any w2 b F (s.tick.wired scl (s.tick.line true)) e (s.tick.line true) HG2.out H2.out.at HGO.out 84 (by show evV b s.tick.ev = _; rw [hv]; rfl))
    clear hv
    go_wp2_with fail
    refine HE.out.mono ?_
    rintro _ w3 ⟨_, rfl, ⟨rfl, F3, hgr3, h3⟩, k3⟩
    obtain ⟨bw3, vd3, vn3, vc3, vw3, hx3⟩ := h3
    have c3 := hx3.blk.cell 3 rfl
    have H3 := Lib.hid hx3
    have K3 := Lib.hid k3
    have HGR := Lib.hid hgr3
    clear hx3 k3 hgr3 c4
    go_wp2_with fail
    go_ret
    rw [HEQ.out]
    exact ⟨_, rfl, ⟨rfl, leaves_step K2.out ⟨F3, HGR.out, H3.out.at⟩⟩, K2.out.trans K3.out (fun g hg => .inl hg)⟩
  · replace c4 : w2.cell? ⟨b, 4, none⟩ = some (.func (.func 100) #[.pointer (some ⟨b, 0, none⟩)] #[]) := c4.trans (by rw [hv]; rfl)
    have HE := Lib.hid (event_any w2 b F (s.tick.wired scl (s.tick.line true)) e (s.tick.line true) HG2.out H2.out.at HGO.out 100 (by show evV b s.tick.ev = _; rw [hv]; rfl))
    clear hv
    go_wp2_with fail
    refine HE.out.mono ?_
    rintro _ w3 ⟨_, rfl, ⟨rfl, F3, hgr3, h3⟩, k3⟩
    obtain ⟨bw3, vd3, vn3, vc3, vw3, hx3⟩ := h3
    have c3 := hx3.blk.cell 3 rfl
    have H3 := Lib.hid hx3
    have K3 := Lib.hid k3
    have HGR := Lib.hid hgr3
    clear hx3 k3 hgr3 c4
    go_wp2_with fail
    go_ret
    rw [HEQ.out]
    exact ⟨_, rfl, ⟨rfl, leaves_step K2.out ⟨F3, HGR.out, H3.out.at⟩⟩, K2.out.trans K3.out (fun g hg => .inl hg)⟩
set_option maxHeartbeats 4000000 in
theorem step_low (w : World) (b : Nat) (F : List Nat) (s : EpS) (scl wp : Bool) (hg : GeoLaid w) (h : ChipAt w b F s) (hc : s.clock < 1000000000) :
    Calls Tryd.prog 30 #[.pointer (some ⟨b, 0, none⟩), .bool scl, .bool false, .bool wp] w (Post w F fun r W => r = .bool ((s.step scl false wp).line false) ∧ Leaves w b F (s.step scl false wp) W) := by
  have H := Lib.hid h
  have HG := Lib.hid hg
  have HC := Lib.hid (show s.tick.clock < 1000000000 by rw [tick_clock]; exact hc)
  have HLO := Lib.hid h.lo
  clear h hg hc
  go_enter Tryd.func30, Tryd.ntmps30
  go_wp2_with fail
  refine (tick_any _ b F s H.out).mono ?_
  rintro _ w1 ⟨_, rfl, ⟨rfl, bw, vd, vn, vc, vw, hx⟩, k1⟩
  have c3 : w1.cell? ⟨b, 3, none⟩ = some (.bool s.tick.pulls) := hx.blk.cell 3 rfl
  have c2 : w1.cell? ⟨b, 2, none⟩ = some (.pointer (some ⟨bw, 0, none⟩)) := hx.blk.cell 2 rfl
  have H1 := Lib.hid hx
  have K1 := Lib.hid k1
  clear hx k1
  go_wp2_with fail
  refine (wireStep_any w1 bw s.tick.scl s.tick.sda scl (s.tick.line false) H1.out.wir).mono ?_
  rintro _ w2 ⟨_, rfl, ⟨rfl, hb2⟩, k2⟩
  have hx2 := H1.out.wire HC.out scl (s.tick.line false) k2 hb2
  have HGO : Hid ((s.tick.wired scl (s.tick.line false)).Go) := Lib.hid (H1.out.ok.wired HC.out scl (s.tick.line false)).2
  have K2 := Lib.hid (K1.out.trans k2 (fun g hg => by simp at hg; subst hg; exact .inl H1.out.fw))
  have HG2 := Lib.hid (HG.out.kept K2.out HLO.out)
  have HQ : Hid (s.step scl false wp = (s.tick.wired scl (s.tick.line false)).meets (tellW s.tick.scl s.tick.sda scl (s.tick.line false)) (s.tick.line false) wp) := Lib.hid rfl
  generalize tellW s.tick.scl s.tick.sda scl (s.tick.line false) = e at HQ ⊢
  have c4 : w2.cell? ⟨b, 4, none⟩ = some (evV b s.tick.ev) := hx2.blk.cell 4 rfl
  have H2 := Lib.hid hx2
  clear c2 c3 hx2 hb2 k2 HC H1 K1
  by_cases h1 : e = 1
  · subst h1
    have E : s.step scl false wp = (s.tick.wired scl (s.tick.line false)).start := HQ.out
    have HEQ := Lib.hid E
    clear E HQ
    go_wp2_with fail
    refine (start_any _ b F _ H2.out.at).mono ?_
    rintro _ w3 ⟨_, rfl, ⟨rfl, h3⟩, k3⟩
    obtain ⟨bw3, vd3, vn3, vc3, vw3, hx3⟩ := h3
    have c3 := hx3.blk.cell 3 rfl
    have H3 := Lib.hid hx3
    have K3 := Lib.hid k3
    clear hx3 k3 c4
    go_wp2_with fail
    go_ret
    rw [HEQ.out]
    exact ⟨_, rfl, ⟨rfl, leaves_step K2.out H3.out.at.leaves⟩, K2.out.trans K3.out (fun g hg => .inl hg)⟩
  by_cases h2 : e = 2
  · subst h2
    have E : s.step scl false wp = (s.tick.wired scl (s.tick.line false)).stop wp := HQ.out
    have HEQ := Lib.hid E
    clear E HQ h1
    go_wp2_with fail
    refine (stop_any _ b F _ wp H2.out.at).mono ?_
    rintro _ w3 ⟨_, rfl, ⟨rfl, F3, hgr3, h3⟩, k3⟩
    obtain ⟨bw3, vd3, vn3, vc3, vw3, hx3⟩ := h3
    have c3 := hx3.blk.cell 3 rfl
    have H3 := Lib.hid hx3
    have K3 := Lib.hid k3
    have HGR := Lib.hid hgr3
    clear hx3 k3 hgr3 c4
    go_wp2_with fail
    go_ret
    rw [HEQ.out]
    exact ⟨_, rfl, ⟨rfl, leaves_step K2.out ⟨F3, HGR.out, H3.out.at⟩⟩, K2.out.trans K3.out (fun g hg => .inl hg)⟩
  have E : s.step scl false wp = (s.tick.wired scl (s.tick.line false)).event e (s.tick.line false) := HQ.out.trans (by simp [EpS.meets, h1, h2])
  have HEQ := Lib.hid E
  have e1 : (e == 1) = false := by rw [beq_eq_false_iff_ne]; exact h1
  have e2 : (e == 2) = false := by rw [beq_eq_false_iff_ne]; exact h2
  clear E HQ h1 h2
  cases hv : s.tick.ev
  · replace c4 : w2.cell? ⟨b, 4, none⟩ = some (.func (.func 40) #[.pointer (some ⟨b, 0, none⟩)] #[]) := c4.trans (by rw [hv]; rfl)
    have HE := Lib.hid (event_any w2 b F (s.tick.wired scl (s.tick.line false)) e (s.tick.line false) HG2.out H2.out.at HGO.out 40 (by show evV b s.tick.ev = _; rw [hv]; rfl))
    clear hv
    go_wp2_with fail
    refine HE.out.mono ?_
    rintro _ w3 ⟨_, rfl, ⟨rfl, F3, hgr3, h3⟩, k3⟩
    obtain ⟨bw3, vd3, vn3, vc3, vw3, hx3⟩ := h3
    have c3 := hx3.blk.cell 3 rfl
    have H3 := Lib.hid hx3
    have K3 := Lib.hid k3
    have HGR := Lib.hid hgr3
    clear hx3 k3 hgr3 c4
    go_wp2_with fail
    go_ret
    rw [HEQ.out]
    exact ⟨_, rfl, ⟨rfl, leaves_step K2.out ⟨F3, HGR.out, H3.out.at⟩⟩, K2.out.trans K3.out (fun g hg => .inl hg)⟩
  · replace c4 : w2.cell? ⟨b, 4, none⟩ = some (.func (.func 70) #[.pointer (some ⟨b, 0, none⟩)] #[]) := c4.trans (by rw [hv]; rfl)
    have HE := Lib.hid (event_any w2 b F (s.tick.wired scl (s.tick.line false)) e (s.tick.line false) HG2.out H2.out.at HGO.out 70 (by show evV b s.tick.ev = _; rw [hv]; rfl))
    clear hv
    go_wp2_with fail
    refine HE.out.mono ?_
    rintro _ w3 ⟨_, rfl, ⟨rfl, F3, hgr3, h3⟩, k3⟩
    obtain ⟨bw3, vd3, vn3, vc3, vw3, hx3⟩ := h3
    have c3 := hx3.blk.cell 3 rfl
    have H3 := Lib.hid hx3
    have K3 := Lib.hid k3
    have HGR := Lib.hid hgr3
    clear hx3 k3 hgr3 c4
    go_wp2_with fail
    go_ret
    rw [HEQ.out]
    exact ⟨_, rfl, ⟨rfl, leaves_step K2.out ⟨F3, HGR.out, H3.out.at⟩⟩, K2.out.trans K3.out (fun g hg => .inl hg)⟩
  · replace c4 : w2.cell? ⟨b, 4, none⟩ = some (.func (.func 83) #[.pointer (some ⟨b, 0, none⟩)] #[]) := c4.trans (by rw [hv]; rfl)
    have HE := Lib.hid (event_any w2 b F (s.tick.wired scl (s.tick.line false)) e (s.tick.line false) HG2.out H2.out.at HGO.out 83 (by show evV b s.tick.ev = _; rw [hv]; rfl))
    clear hv
    go_wp2_with fail
    refine HE.out.mono ?_
    rintro _ w3 ⟨_, rfl, ⟨rfl, F3, hgr3, h3⟩, k3⟩
    obtain ⟨bw3, vd3, vn3, vc3, vw3, hx3⟩ := h3
    have c3 := hx3.blk.cell 3 rfl
    have H3 := Lib.hid hx3
    have K3 := Lib.hid k3
    have HGR := Lib.hid hgr3
    clear hx3 k3 hgr3 c4
    go_wp2_with fail
    go_ret
    rw [HEQ.out]
    exact ⟨_, rfl, ⟨rfl, leaves_step K2.out ⟨F3, HGR.out, H3.out.at⟩⟩, K2.out.trans K3.out (fun g hg => .inl hg)⟩
  · replace c4 : w2.cell? ⟨b, 4, none⟩ = some (.func (.func 84) #[.pointer (some ⟨b, 0, none⟩)] #[]) := c4.trans (by rw [hv]; rfl)
    have HE := Lib.hid (event_any w2 b F (s.tick.wired scl (s.tick.line false)) e (s.tick.line false) HG2.out H2.out.at HGO.out 84 (by show evV b s.tick.ev = _; rw [hv]; rfl))
    clear hv
    go_wp2_with fail
    refine HE.out.mono ?_
    rintro _ w3 ⟨_, rfl, ⟨rfl, F3, hgr3, h3⟩, k3⟩
    obtain ⟨bw3, vd3, vn3, vc3, vw3, hx3⟩ := h3
    have c3 := hx3.blk.cell 3 rfl
    have H3 := Lib.hid hx3
    have K3 := Lib.hid k3
    have HGR := Lib.hid hgr3
    clear hx3 k3 hgr3 c4
    go_wp2_with fail
    go_ret
    rw [HEQ.out]
    exact ⟨_, rfl, ⟨rfl, leaves_step K2.out ⟨F3, HGR.out, H3.out.at⟩⟩, K2.out.trans K3.out (fun g hg => .inl hg)⟩
  · replace c4 : w2.cell? ⟨b, 4, none⟩ = some (.func (.func 100) #[.pointer (some ⟨b, 0, none⟩)] #[]) := c4.trans (by rw [hv]; rfl)
    have HE := Lib.hid (event_any w2 b F (s.tick.wired scl (s.tick.line false)) e (s.tick.line false) HG2.out H2.out.at HGO.out 100 (by show evV b s.tick.ev = _; rw [hv]; rfl))
    clear hv
    go_wp2_with fail
    refine HE.out.mono ?_
    rintro _ w3 ⟨_, rfl, ⟨rfl, F3, hgr3, h3⟩, k3⟩
    obtain ⟨bw3, vd3, vn3, vc3, vw3, hx3⟩ := h3
    have c3 := hx3.blk.cell 3 rfl
    have H3 := Lib.hid hx3
    have K3 := Lib.hid k3
    have HGR := Lib.hid hgr3
    clear hx3 k3 hgr3 c4
    go_wp2_with fail
    go_ret
    rw [HEQ.out]
    exact ⟨_, rfl, ⟨rfl, leaves_step K2.out ⟨F3, HGR.out, H3.out.at⟩⟩, K2.out.trans K3.out (fun g hg => .inl hg)⟩
theorem step_any (w : World) (b : Nat) (F : List Nat) (s : EpS) (scl sda wp : Bool) (hg : GeoLaid w) (h : ChipAt w b F s) (hc : s.clock < 1000000000) :
    Calls Tryd.prog 30 #[.pointer (some ⟨b, 0, none⟩), .bool scl, .bool sda, .bool wp] w (Post w F fun r W => r = .bool ((s.step scl sda wp).line sda) ∧ Leaves w b F (s.step scl sda wp) W) := by
  cases sda
  · exact step_low w b F s scl wp hg h hc
  · exact step_high w b F s scl wp hg h hc
end Go.Proofs.YtdpiaibjpaalhaaDoor
