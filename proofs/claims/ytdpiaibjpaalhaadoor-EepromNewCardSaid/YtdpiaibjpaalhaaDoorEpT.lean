/- PROVED: the contracts of keepsakelaw10's steps, waits. No conditions beyond those that each theorem states. -/
import Derived.Test.YtdpiaibjpaalhaaDoorEpN
import Derived.Test.YtdpiaibjpaalhaaDoorEpO
import Derived.Test.YtdpiaibjpaalhaaDoorEpQ
namespace Go.Proofs.YtdpiaibjpaalhaaDoor
open Go.RowKit Go.Proofs.YtdpiaibjpaalhaaDoorLib Go.WideElems Go.Maps Go.ChangeMaps
set_option linter.unusedSimpArgs false
set_option linter.unusedVariables false

theorem Grows.nin {w : World} {F F' : List Nat} (h : Grows w F F') {g : Nat} (hg : g ∉ F) (hl : g < w.heap.size) : g ∉ F' := fun hm => by
  rcases h g hm with h1 | h1
  · exact hg h1
  · omega
theorem GeoLaid.chip {w w1 : World} {b : Nat} {F : List Nat} {s : EpS} (h : GeoLaid w) (hc : ChipAt w b F s) (hk : Kept w w1 F) : GeoLaid w1 := h.kept hk hc.lo
theorem Lvs.at {w : World} {v : Value} {g : Nat} {L : List (Bool × Bool)} (h : Lvs w v g L) {k : Nat} {p : Bool × Bool} (hp : L[k]? = some p) : w.cell? ⟨g, k * 2, none⟩ = some (.bool p.1) ∧ w.cell? ⟨g, k * 2 + 1, none⟩ = some (.bool p.2) := by
  obtain ⟨c, _, _, _, _, h5⟩ := h
  have := lvCells_at hp
  exact ⟨h5 _ _ this.1, h5 _ _ this.2⟩
set_option maxRecDepth 100000 in
set_option maxHeartbeats 2000000 in
theorem steps_any (w : World) (b : Nat) (F : List Nat) (s : EpS) (wp : Bool) (v : Value) (g : Nat) (L : List (Bool × Bool)) (hgl : GeoLaid w) (h : ChipAt w b F s) (hl : Lvs w v g L) (hgF : g ∉ F) (hc : s.clock + L.length ≤ 1000000000) :
    Calls Tryd.prog 17 #[.pointer (some ⟨b, 0, none⟩), v, .bool wp] w (Post w F fun r W => r = .tuple #[] ∧ Leaves w b F (s.runs wp L) W) := by
  have HGL := Lib.hid hgl
  have H := Lib.hid h
  have HL := Lib.hid hl
  have HGF := Lib.hid hgF
  have HC := Lib.hid hc
  obtain ⟨c, rfl, _, hm, hlt, _⟩ := hl
  have l0 : (0 : Int) ≤ L.length := by omega
  have l1 : (L.length : Int) ≤ 1000000000 := by omega
  have HLT := Lib.hid hlt
  clear hgl h hgF hc hm hlt
  go_enter Tryd.func17, Tryd.ntmps17
  go_wp2_with fail
  go_loopg [6] L.length (fun g i wr => ∃ (k : Nat) (F' : List Nat), k + g = L.length ∧ i = .int .i64 k ∧ Grows w F F' ∧ ChipAt wr b F' (s.runs wp (L.take k)) ∧ Kept w wr F)
  case atStart => exact ⟨0, F, by omega, rfl, Grows.refl _ _, by simpa [EpS.runs] using H.out, Kept.refl _ _⟩
  case round =>
    obtain ⟨k, F', hk, rfl, hgr, hch, hkept⟩ := hrel
    have HK := Lib.hid hk
    have HGR := Lib.hid hgr
    have HCH := Lib.hid hch
    have HKE := Lib.hid hkept
    clear hgr hch hkept
    by_cases hlt : k < L.length
    · have hp := List.getElem?_eq_getElem hlt
      generalize L[k] = p at hp
      obtain ⟨c0, c1⟩ := (HL.out.kept HKE.out HGF.out).at hp
      have k0 : (0 : Int) ≤ k := by omega
      have k1 : (k : Int) < L.length := by omega
      have HP := Lib.hid hp
      clear hp hk
      go_wp2_with fail
      go_still_tail 12, (by kernel_rfl)
      go_wp2_with fail
      refine (step_any _ b F' (s.runs wp (L.take k)) p.1 p.2 wp ?hg ?hh ?hcc).mono ?_
      case hg => first | exact (HGL.out.chip H.out HKE.out) | exact (HGL.out.chip H.out HKE.out).drew | exact (HGL.out.chip H.out HKE.out).drewN _
      case hh => first | exact HCH.out | exact HCH.out.kept (S := []) (Kept.refl wr []).drew (by simp) | exact HCH.out.kept (S := []) ((Kept.refl wr []).drewN _) (by simp)
      case hcc => have := (runs_clock s wp (L.take k)).1; have := HC.out; rw [List.length_take] at *; omega
      rintro _ w2 ⟨_, rfl, ⟨rfl, F2, hgr2, hch2⟩, k2⟩
      have HGR2 := Lib.hid hgr2
      have HCH2 := Lib.hid hch2
      have K2 := Lib.hid k2
      clear hgr2 hch2 k2
      go_wp2_with fail
      go_roundg (gk - 1)
      case measure => have := HK.out; omega
      case rel =>
        refine ⟨k + 1, F2, by have := HK.out; omega, by go_num, HGR.out.trans HGR2.out HKE.out.size, ?_, (by first | exact Kept.grows HKE.out HGR.out K2.out | exact Kept.grows HKE.out.drew HGR.out K2.out | exact Kept.grows (HKE.out.drewN _) HGR.out K2.out)⟩
        rw [runs_take s wp L k p HP.out]
        exact HCH2.out
    · have hkn : k = L.length := by omega
      clear hlt
      subst hkn
      go_wp2_with fail
      go_end0
      exact ⟨_, rfl, ⟨rfl, F', HGR.out, by have := HCH.out; rwa [List.take_of_length_le (Nat.le_refl _)] at this⟩, HKE.out⟩
set_option maxRecDepth 100000 in
set_option maxHeartbeats 2000000 in
theorem waits_any (w : World) (b : Nat) (F : List Nat) (s : EpS) (n : Nat) (hgl : GeoLaid w) (h : ChipAt w b F s) (hn : n ≤ 1000) (hc : s.clock + n ≤ 1000000000) :
    Calls Tryd.prog 19 #[.pointer (some ⟨b, 0, none⟩), .int .i64 n] w (Post w F fun r W => r = .tuple #[] ∧ Leaves w b F (s.idles n) W) := by
  have HGL := Lib.hid hgl
  have H := Lib.hid h
  have HC := Lib.hid hc
  have l0 : (0 : Int) ≤ n := by omega
  have l1 : (n : Int) ≤ 1000 := by omega
  clear hgl h hc hn
  go_enter Tryd.func19, Tryd.ntmps19
  go_wp2_with fail
  go_loopg [4] n (fun g i wr => ∃ (k : Nat) (F' : List Nat), k + g = n ∧ i = .int .i64 k ∧ Grows w F F' ∧ ChipAt wr b F' (s.idles k) ∧ Kept w wr F)
  case atStart => exact ⟨0, F, by omega, rfl, Grows.refl _ _, H.out, Kept.refl _ _⟩
  case round =>
    obtain ⟨k, F', hk, rfl, hgr, hch, hkept⟩ := hrel
    have HK := Lib.hid hk
    have HGR := Lib.hid hgr
    have HCH := Lib.hid hch
    have HKE := Lib.hid hkept
    clear hgr hch hkept
    by_cases hlt : k < n
    · have k0 : (0 : Int) ≤ k := by omega
      have k1 : (k : Int) < n := by omega
      have d1 : decide (k < n) = true := by simpa using hlt
      clear hk
      go_wp2_with fail
      refine (step_any _ b F' (s.idles k) true true false ?hg HCH.out ?hcc).mono ?_
      case hg => exact (HGL.out.chip H.out HKE.out)
      case hcc => rw [idles_clock]; have := HC.out; omega
      rintro _ w2 ⟨_, rfl, ⟨rfl, F2, hgr2, hch2⟩, k2⟩
      have HGR2 := Lib.hid hgr2
      have HCH2 := Lib.hid hch2
      have K2 := Lib.hid k2
      clear hgr2 hch2 k2
      go_wp2_with fail
      go_roundg (gk - 1)
      case measure => have := HK.out; omega
      case rel => exact ⟨k + 1, F2, by have := HK.out; omega, by go_num, HGR.out.trans HGR2.out HKE.out.size, HCH2.out, Kept.grows HKE.out HGR.out K2.out⟩
    · have hkn : k = n := by omega
      have d1 : decide (k < n) = false := by simpa using hlt
      clear hlt
      subst hkn
      go_wp2_with fail
      go_end0
      exact ⟨_, rfl, ⟨rfl, F', HGR.out, HCH.out⟩, HKE.out⟩
set_option maxRecDepth 100000 in
set_option maxHeartbeats 4000000 in
theorem lput_any (w : World) (b : Nat) (F : List Nat) (s : EpS) (y : Int) (h0 : 0 ≤ y) (h1 : y ≤ 255) (hgl : GeoLaid w) (h : ChipAt w b F s) (hc : s.clock + 27 ≤ 1000000000) :
    Calls Tryd.prog 16 #[.pointer (some ⟨b, 0, none⟩), .int .u8 y] w (Post w F fun r W => r = .int .i64 (s.ack y) ∧ Leaves w b F (s.runs false (putL y true)) W) := by
  have HGL := Lib.hid hgl
  have H := Lib.hid h
  have HC := Lib.hid hc
  have HLT := Lib.hid h.lt
  clear hgl h hc
  go_enter Tryd.func16, Tryd.ntmps16
  go_wp2_with fail
  refine (put_any w y true h0 h1).mono ?_
  rintro _ w1 ⟨v, rfl, ⟨g, hl, hgs⟩, k1⟩
  have hpl := putL_len y true
  have hgF : g ∉ F := fun hm => by have := HLT.out g hm; omega
  have HL := Lib.hid hl
  have HGF := Lib.hid hgF
  have HGS := Lib.hid hgs
  have K1 := Lib.hid k1
  have HPL := Lib.hid hpl
  obtain ⟨c, rfl, _, _, hltg, _⟩ := hl
  rw [hpl] at HL ⊢
  have HLG := Lib.hid hltg
  clear hgF hgs k1 hpl hltg
  go_wp2_with fail
  go_loopg [6, 7, 8] 27 (fun g' lo i _ wr => ∃ (k : Nat) (F' : List Nat), k + g' = 27 ∧ i = .int .i64 k ∧ lo = .int .i64 (if 25 < k then s.ack y else 0) ∧ Grows w1 F F' ∧ ChipAt wr b F' (s.runs false ((putL y true).take k)) ∧ Kept w1 wr F)
  case atStart => exact ⟨0, F, rfl, rfl, rfl, Grows.refl _ _, H.out.kept (S := []) K1.out (by simp), Kept.refl _ _⟩
  case round =>
    obtain ⟨k, F', hk, rfl, rfl, hgr, hch, hkept⟩ := hrel
    have HK := Lib.hid hk
    have HGR := Lib.hid hgr
    have HCH := Lib.hid hch
    have HKE := Lib.hid hkept
    clear hgr hch hkept
    by_cases hlt : k < 27
    · have hp := List.getElem?_eq_getElem (l := putL y true) (i := k) (by rw [HPL.out]; exact hlt)
      generalize (putL y true)[k]'(by rw [HPL.out]; exact hlt) = p at hp
      obtain ⟨c0, c1⟩ := (HL.out.kept HKE.out HGF.out).at hp
      have k0 : (0 : Int) ≤ k := by omega
      have k1 : (k : Int) < 27 := by omega
      have HP := Lib.hid hp
      generalize hlo : (if 25 < k then s.ack y else 0) = lo
      have HLO := Lib.hid hlo
      clear hp hk hlo
      go_wp2_with fail
      go_still_tail 11, (by kernel_rfl)
      go_wp2_with fail
      refine (step_any _ b F' (s.runs false ((putL y true).take k)) p.1 p.2 false ?hg ?hh ?hcc).mono ?_
      case hg => first | exact (HGL.out.kept K1.out (by simp)).chip (H.out.kept (S := []) K1.out (by simp)) HKE.out | exact ((HGL.out.kept K1.out (by simp)).chip (H.out.kept (S := []) K1.out (by simp)) HKE.out).drew
      case hh => first | exact HCH.out | exact HCH.out.kept (S := []) (Kept.refl wr []).drew (by simp)
      case hcc => have := (runs_clock s false ((putL y true).take k)).1; have := HC.out; rw [List.length_take] at *; omega
      rintro _ w2 ⟨_, rfl, ⟨rfl, F2, hgr2, hch2⟩, k2⟩
      rw [← runs_take s false _ k p HP.out] at hch2 ⊢
      have HGR2 := Lib.hid (hgr2)
      have HCH2 := Lib.hid hch2
      have K2 := Lib.hid k2
      clear hgr2 hch2 k2
      have KW : Hid (Kept w1 w2 F) := Lib.hid (Kept.grows HKE.out.drew HGR.out K2.out)
      have GW : Hid (Grows w1 F F2) := Lib.hid (HGR.out.trans HGR2.out (show w1.heap.size ≤ wr.drew.heap.size from HKE.out.size))
      have tail : ∀ lo', (if 25 < k + 1 then s.ack y else 0) = lo' → ∃ (k' : Nat) (F' : List Nat), k' + (gk - 1) = 27 ∧ Value.int .i64 ((k : Int) + 1) = .int .i64 k' ∧ Value.int .i64 lo' = .int .i64 (if 25 < k' then s.ack y else 0) ∧ Grows w1 F F' ∧ ChipAt w2 b F' (s.runs false ((putL y true).take k')) ∧ Kept w1 w2 F :=
        fun lo' e => ⟨k + 1, F2, by have := HK.out; omega, by go_num, by rw [e], GW.out, HCH2.out, KW.out⟩
      have TL := Lib.hid tail
      clear tail
      by_cases h25 : k = 25
      · have hpe : p = (true, true) := by
          have h1 := HP.out
          rw [h25, putL_25] at h1
          exact (Option.some.inj h1).symm
        have hlo0 : lo = 0 := by rw [← HLO.out, if_neg (by omega)]
        subst hpe
        subst hlo0
        have t25 : ((k : Int) == 25) = true := by rw [beq_iff_eq]; omega
        have hack : s.ack y = if (s.runs false ((putL y true).take (k + 1))).line true = true then 0 else 1 := by rw [h25]; rfl
        by_cases hln : (s.runs false ((putL y true).take (k + 1))).line true = true
        · rw [if_pos hln] at hack
          have HA := Lib.hid hack
          have HB : Hid (25 < k + 1) := Lib.hid (by omega)
          clear hack h25
          go_wp2_with fail
          go_roundg (gk - 1)
          case measure => have := HK.out; omega
          case rel => exact TL.out 0 (by rw [if_pos HB.out, HA.out])
        · rw [if_neg hln] at hack
          have hln' : (s.runs false ((putL y true).take (k + 1))).line true = false := by simpa using hln
          have HA := Lib.hid hack
          have HB : Hid (25 < k + 1) := Lib.hid (by omega)
          clear hack hln h25
          go_wp2_with fail
          go_roundg (gk - 1)
          case measure => have := HK.out; omega
          case rel => exact TL.out 1 (by rw [if_pos HB.out, HA.out])
      · have t25 : ((k : Int) == 25) = false := by rw [beq_eq_false_iff_ne]; omega
        have HA : Hid ((if 25 < k + 1 then s.ack y else 0) = lo) := Lib.hid (by
          rw [← HLO.out]
          by_cases q : 25 < k
          · rw [if_pos q, if_pos (by omega)]
          · rw [if_neg q, if_neg (by omega)])
        clear h25
        go_wp2_with fail
        go_roundg (gk - 1)
        case measure => have := HK.out; omega
        case rel => exact TL.out lo HA.out
    · have hkn : k = 27 := by omega
      subst hkn
      clear hlt hk
      go_wp2_with fail
      go_ret
      have hch := HCH.out
      rw [List.take_of_length_le (by rw [HPL.out]; exact Nat.le_refl _)] at hch
      exact ⟨_, rfl, ⟨rfl, F', fun g hg => (HGR.out g hg).imp id (Nat.le_trans K1.out.size), hch⟩, (K1.out.mono (S2 := F) (by simp)).trans HKE.out (fun g hg => .inl hg)⟩
end Go.Proofs.YtdpiaibjpaalhaaDoor
