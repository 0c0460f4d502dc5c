/- PROVED: the contracts of keepsakelaw10's get, and aim. No conditions beyond those that each theorem states. -/
import Derived.Test.YtdpiaibjpaalhaaDoorEpT
namespace Go.Proofs.YtdpiaibjpaalhaaDoor
open Go.RowKit Go.Proofs.YtdpiaibjpaalhaaDoorLib Go.WideElems Go.Maps Go.ChangeMaps
set_option linter.unusedSimpArgs false
set_option linter.unusedVariables false

set_option maxRecDepth 100000 in
set_option maxHeartbeats 4000000 in
theorem lget_any (w : World) (b : Nat) (F : List Nat) (s : EpS) (a : Bool) (hgl : GeoLaid w) (h : ChipAt w b F s) (hc : s.clock + 27 ≤ 1000000000) :
    Calls Tryd.prog 26 #[.pointer (some ⟨b, 0, none⟩), .bool a] w (Post w F fun r W => r = .int .i64 (s.got a) ∧ Leaves w b F (s.runs false (putL 255 (!a))) W) := by
  have HGL := Lib.hid hgl
  have H := Lib.hid h
  have HC := Lib.hid hc
  have HLT := Lib.hid h.lt
  clear hgl h hc
  go_enter Tryd.func26, Tryd.ntmps26
  go_wp2_with fail
  refine (put_any w 255 (!a) (by decide) (by decide)).mono ?_
  rintro _ w1 ⟨v, rfl, ⟨g, hl, hgs⟩, k1⟩
  have hpl := putL_len 255 (!a)
  have hgF : g ∉ F := fun hm => by have := HLT.out g hm; omega
  have HL := Lib.hid hl
  have HGF := Lib.hid hgF
  have HGS := Lib.hid hgs
  have K1 := Lib.hid k1
  have HPL := Lib.hid hpl
  obtain ⟨c, rfl, _, _, hltg, _⟩ := hl
  rw [hpl] at HL ⊢
  have HLG := Lib.hid hltg
  clear hgF hgs k1 hpl hltg
  go_wp2_with fail
  go_loopg [6, 7, 8] 27 (fun g' lo i _ wr => ∃ (k : Nat) (F' : List Nat), k + g' = 27 ∧ i = .int .i64 k ∧ lo = .int .i64 (s.gotK (putL 255 (!a)) k) ∧ Grows w1 F F' ∧ ChipAt wr b F' (s.runs false ((putL 255 (!a)).take k)) ∧ Kept w1 wr F)
  case atStart => exact ⟨0, F, rfl, rfl, rfl, Grows.refl _ _, H.out.kept (S := []) K1.out (by simp), Kept.refl _ _⟩
  case round =>
    obtain ⟨k, F', hk, rfl, rfl, hgr, hch, hkept⟩ := hrel
    have HK := Lib.hid hk
    have HGR := Lib.hid hgr
    have HCH := Lib.hid hch
    have HKE := Lib.hid hkept
    clear hgr hch hkept
    by_cases hlt : k < 27
    · have hp := List.getElem?_eq_getElem (l := putL 255 (!a)) (i := k) (by rw [HPL.out]; exact hlt)
      generalize (putL 255 (!a))[k]'(by rw [HPL.out]; exact hlt) = p at hp
      obtain ⟨c0, c1⟩ := (HL.out.kept HKE.out HGF.out).at hp
      have k0 : (0 : Int) ≤ k := by omega
      have k1 : (k : Int) < 27 := by omega
      have HP := Lib.hid hp
      generalize hlo : (s.gotK (putL 255 (!a)) k) = lo
      have HLO := Lib.hid hlo
      clear hp hk hlo
      go_wp2_with fail
      go_still_tail 11, (by kernel_rfl)
      go_wp2_with fail
      refine (step_any _ b F' (s.runs false ((putL 255 (!a)).take k)) p.1 p.2 false ?hg ?hh ?hcc).mono ?_
      case hg => first | exact (HGL.out.kept K1.out (by simp)).chip (H.out.kept (S := []) K1.out (by simp)) HKE.out | exact ((HGL.out.kept K1.out (by simp)).chip (H.out.kept (S := []) K1.out (by simp)) HKE.out).drew
      case hh => first | exact HCH.out | exact HCH.out.kept (S := []) (Kept.refl wr []).drew (by simp)
      case hcc => have := (runs_clock s false ((putL 255 (!a)).take k)).1; have := HC.out; rw [List.length_take] at *; omega
      rintro _ w2 ⟨_, rfl, ⟨rfl, F2, hgr2, hch2⟩, k2⟩
      rw [← runs_take s false _ k p HP.out] at hch2 ⊢
      have HGR2 := Lib.hid (hgr2)
      have HCH2 := Lib.hid hch2
      have K2 := Lib.hid k2
      clear hgr2 hch2 k2
      have KW : Hid (Kept w1 w2 F) := Lib.hid (Kept.grows HKE.out.drew HGR.out K2.out)
      have GW : Hid (Grows w1 F F2) := Lib.hid (HGR.out.trans HGR2.out (show w1.heap.size ≤ wr.drew.heap.size from HKE.out.size))
      have tail : ∀ lo', (s.gotK (putL 255 (!a)) (k + 1)) = lo' → ∃ (k' : Nat) (F' : List Nat), k' + (gk - 1) = 27 ∧ Value.int .i64 ((k : Int) + 1) = .int .i64 k' ∧ Value.int .i64 lo' = .int .i64 (s.gotK (putL 255 (!a)) k') ∧ Grows w1 F F' ∧ ChipAt w2 b F' (s.runs false ((putL 255 (!a)).take k')) ∧ Kept w1 w2 F :=
        fun lo' e => ⟨k + 1, F2, by have := HK.out; omega, by go_num, by rw [e], GW.out, HCH2.out, KW.out⟩
      have TL := Lib.hid tail
      clear tail
      have hpl : (putL 255 (!a))[k]?.getD (true, true) = p := by rw [HP.out]; rfl
      have hbd := gotK_le s (putL 255 (!a)) k (by omega)
      rw [HLO.out] at hbd
      obtain ⟨lo0, lo1⟩ := hbd
      have hstep : s.gotK (putL 255 (!a)) (k + 1) = if k % 3 = 1 ∧ k < 24 then 2 * lo + (if (s.runs false ((putL 255 (!a)).take (k + 1))).line p.2 = true then 1 else 0) else lo := by
        rw [EpS.gotK, HLO.out, hpl]
      have e3 : ((k : Int) % 3) = ((k % 3 : Nat) : Int) := by simp
      by_cases h3 : k % 3 = 1
      · have t3 : ((k : Int) % 3 == 1) = true := by rw [beq_iff_eq]; omega
        by_cases h24 : k < 24
        · have t24 : (k : Int) < 24 := by omega
          have d24 : decide (k < 24) = true := by simpa using h24
          rw [if_pos ⟨h3, h24⟩] at hstep
          by_cases hln : (s.runs false ((putL 255 (!a)).take (k + 1))).line p.2 = true
          · rw [if_pos hln] at hstep
            have HS := Lib.hid hstep
            clear hstep hpl h3 e3
            go_wp2_with fail
            go_roundg (gk - 1)
            case measure => have := HK.out; omega
            case rel => exact TL.out _ HS.out
          · rw [if_neg hln, Int.add_zero] at hstep
            have hln' : (s.runs false ((putL 255 (!a)).take (k + 1))).line p.2 = false := by simpa using hln
            have HS := Lib.hid hstep
            clear hstep hpl hln h3 e3
            go_wp2_with fail
            go_roundg (gk - 1)
            case measure => have := HK.out; omega
            case rel => exact TL.out _ HS.out
        · have d24 : decide (k < 24) = false := by simpa using h24
          have t24 : ¬ (k : Int) < 24 := by omega
          rw [if_neg (fun h => h24 h.2)] at hstep
          have HS := Lib.hid hstep
          clear hstep hpl h3 e3
          go_wp2_with fail
          go_roundg (gk - 1)
          case measure => have := HK.out; omega
          case rel => exact TL.out _ HS.out
      · have t3 : ((k : Int) % 3 == 1) = false := by rw [beq_eq_false_iff_ne]; omega
        rw [if_neg (fun h => h3 h.1)] at hstep
        have HS := Lib.hid hstep
        clear hstep hpl h3 e3
        go_wp2_with fail
        go_roundg (gk - 1)
        case measure => have := HK.out; omega
        case rel => exact TL.out _ HS.out
    · have hkn : k = 27 := by omega
      subst hkn
      clear hlt hk
      go_wp2_with fail
      go_ret
      have hch := HCH.out
      rw [List.take_of_length_le (by rw [HPL.out]; exact Nat.le_refl _)] at hch
      exact ⟨_, rfl, ⟨rfl, F', fun g hg => (HGR.out g hg).imp id (Nat.le_trans K1.out.size), hch⟩, (K1.out.mono (S2 := F) (by simp)).trans HKE.out (fun g hg => .inl hg)⟩
end Go.Proofs.YtdpiaibjpaalhaaDoor
