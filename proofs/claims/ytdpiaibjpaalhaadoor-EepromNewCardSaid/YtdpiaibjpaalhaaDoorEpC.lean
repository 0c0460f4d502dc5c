/- PROVED: the contracts of the chip's methods that send. No conditions beyond those that each theorem states. -/
import Derived.Test.YtdpiaibjpaalhaaDoorEpB
namespace Go.Proofs.YtdpiaibjpaalhaaDoor
open Go.RowKit Go.Proofs.YtdpiaibjpaalhaaDoorLib Go.WideElems Go.Maps
set_option linter.unusedSimpArgs false
set_option linter.unusedVariables false

set_option maxHeartbeats 1000000 in
theorem send_any (w : World) (b : Nat) (F : List Nat) (s : EpS) (h : ChipAt w b F s) :
    Calls Tryd.prog 72 #[.pointer (some ⟨b, 0, none⟩)] w (Post w F fun r W => r = .tuple #[] ∧ ChipAt W b F s.send) := by
  obtain ⟨bw, vd, vn, vc, vw, hx⟩ := h
  have hp := hx.ok.po
  have hl := hx.ok.len
  have hg := geo_bd hx.ok.k1 hx.ok.k2
  obtain ⟨bd, hsl, _⟩ := hx.dat.sl
  have hne : s.data ≠ [] := by intro e; rw [e] at hp; simp at hp
  obtain ⟨c, rfl⟩ := hsl.at hne
  have cd := hsl.cell hx.ok.at
  rw [Nat.zero_add] at cd
  have c1 := hx.blk.cell 1 rfl
  have c8 := hx.blk.cell 8 rfl
  have c11 := hx.blk.cell 11 rfl
  have c7 := hx.blk.cell 7 rfl
  have c4 := hx.blk.cell 4 rfl
  have f8 := hx.blk.free 8
  have f11 := hx.blk.free 11
  have f7 := hx.blk.free 7
  have f4 := hx.blk.free 4
  have lt := hx.blk.lt
  have p0 : (0 : Int) ≤ s.pointer := by omega
  have p1 : (s.pointer : Int) < s.data.length := by omega
  have p2 : (s.pointer : Int) ≤ 65536 := by omega
  have l2 : (s.data.length : Int) ≤ 65536 := by omega
  have l0 : (0 : Int) < s.data.length := by omega
  have H := Lib.hid hx
  clear hx hl hg hsl hne hp
  have hmf := mkf
  go_enter Tryd.func72, Tryd.ntmps72
  go_wp2
  go_region
  all_goals (
    go_wp2
    go_region
    go_wp2_with fail
    refine (tell_any _ b F { s with value := s.data[s.pointer]?.getD 0, pointer := (s.pointer + 1) % s.data.length, bits := 0, ev := .tells } ?hc (by show 0 < 8; decide)).mono ?_
    case hc =>
      refine ⟨bw, _, vn, vc, vw, H.out.turn0 ?k (H.out.ok.send.pull s.pulls) ?bl rfl rfl rfl rfl rfl (Nat.le_refl _) rfl rfl⟩
      case k => exact ((((((Kept.refl w [b]).setCell (by simp) _).drew.setCell (by simp) _).drew.setCell (by simp) _).setCell (by simp) _))
      case bl => exact ((((H.out.blk.set 8 _).drew.set 11 _).drew.set 7 _).set 4 _).to (by simp [EpS.cells, evV])
    rintro _ w1 ⟨_, rfl, ⟨rfl, h1⟩, k1⟩
    have H1 := Lib.hid h1
    have K1 := Lib.hid k1
    clear h1 k1
    go_wp2
    go_end0
    refine ⟨_, rfl, ⟨rfl, H1.out⟩, ?_⟩
    refine Kept.trans (S2 := F) ?_ K1.out (fun g hg => .inl hg)
    exact Kept.mono (S := [b]) ((((((Kept.refl w [b]).setCell (by simp) _).drew.setCell (by simp) _).drew.setCell (by simp) _).setCell (by simp) _)) (fun g hg => by simp at hg; subst hg; exact .inl H.out.fb))
end Go.Proofs.YtdpiaibjpaalhaaDoor
