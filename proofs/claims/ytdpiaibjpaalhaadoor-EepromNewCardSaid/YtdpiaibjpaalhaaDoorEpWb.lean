/- PROVED: Waits of a chip where nothing waits. No conditions beyond those that each theorem states. -/
import Derived.Test.YtdpiaibjpaalhaaDoorEpWa
import Derived.Test.YtdpiaibjpaalhaaDoorEpNw
namespace Go.Proofs.YtdpiaibjpaalhaaDoor
open Go.RowKit Go.Proofs.YtdpiaibjpaalhaaDoorLib Go.WideElems Go.Maps Go.ChangeMaps
set_option linter.unusedSimpArgs false
set_option linter.unusedVariables false

theorem waits_none (w : World) (b : Nat) (F : List Nat) (s : EpS) (h : ChipAt w b F s) (hw : s.waits = []) :
    Calls Tryd.prog 33 #[.pointer (some ⟨b, 0, none⟩)] w (Post w [] fun r W => ∃ A c, r = .tuple #[.slice A 0 c, .slice none 0 0]) := by
  obtain ⟨bw, vd, vn, vc, vw, hx⟩ := h
  have hmv := hx.wai
  rw [hw] at hmv
  have hform : ∃ mb, vw = .map mb := by
    rcases hmv with ⟨e, _⟩ | ⟨m, c, D, e, _⟩
    · exact ⟨_, e⟩
    · exact ⟨_, e⟩
  obtain ⟨mb, rfl⟩ := hform
  have c13 := hx.blk.cell 13 rfl
  have HK := Lib.hid (keys_any w mb)
  have HS := Lib.hid (sorted_any w F (.map mb) [] 0 hmv (by simp) (by simp))
  clear hx hmv hw
  go_enter Tryd.func33, Tryd.ntmps33
  go_wp2_with fail
  refine HK.out.mono ?_
  rintro _ _ ⟨rfl, rfl⟩
  go_wp2_with fail
  refine HS.out.mono ?_
  rintro _ w1 ⟨v, rfl, hv, k⟩
  rw [places_nil] at hv
  obtain ⟨bv, hs, _⟩ := hv.sl
  obtain ⟨A, c, rfl⟩ := hs.form
  have K := Lib.hid (((Kept.refl w []).alloc _).trans k (by simp))
  clear hv hs k
  go_wp2_with fail
  go_loopg [5, 16] 0 (fun g o i wr => o = .slice none 0 0 ∧ i = .int .i64 0 ∧ wr = w1)
  case atStart => exact ⟨rfl, rfl, rfl⟩
  case round =>
    obtain ⟨rfl, rfl, rfl⟩ := hrel
    go_wp2_with fail
    go_ret2
    exact ⟨_, rfl, ⟨A, c, rfl⟩, K.out⟩
end Go.Proofs.YtdpiaibjpaalhaaDoor
