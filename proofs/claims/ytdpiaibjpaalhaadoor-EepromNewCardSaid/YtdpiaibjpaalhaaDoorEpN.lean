/- PROVED: the contracts of the chip's New, Bytes, Left and Pointer. No conditions beyond those that each theorem states. -/
import Derived.Test.YtdpiaibjpaalhaaDoorEpM
import Derived.Test.YtdpiaibjpaalhaaDoorClo
namespace Go.Proofs.YtdpiaibjpaalhaaDoor
open Go.RowKit Go.Proofs.YtdpiaibjpaalhaaDoorLib Go.WideElems Go.Maps Go.ChangeMaps
set_option linter.unusedSimpArgs false
set_option linter.unusedVariables false

theorem left_any (w : World) (b : Nat) (F : List Nat) (s : EpS) (h : ChipAt w b F s) :
    Calls Tryd.prog 23 #[.pointer (some ⟨b, 0, none⟩)] w (Post w [] fun v W => v = .int .i64 s.left) := by
  obtain ⟨bw, vd, vn, vc, vw, h⟩ := h
  have c := h.blk.cell 14 rfl
  clear h
  go_enter Tryd.func23, Tryd.ntmps23
  go_wp2
  go_ret
  exact ⟨_, rfl, rfl, Kept.refl _ _⟩
theorem pointer_any (w : World) (b : Nat) (F : List Nat) (s : EpS) (h : ChipAt w b F s) :
    Calls Tryd.prog 27 #[.pointer (some ⟨b, 0, none⟩)] w (Post w [] fun v W => v = .int .i64 s.pointer) := by
  obtain ⟨bw, vd, vn, vc, vw, h⟩ := h
  have c := h.blk.cell 11 rfl
  clear h
  go_enter Tryd.func27, Tryd.ntmps27
  go_wp2
  go_ret
  exact ⟨_, rfl, rfl, Kept.refl _ _⟩
theorem bytes_any (w : World) (b : Nat) (F : List Nat) (s : EpS) (h : ChipAt w b F s) :
    Calls Tryd.prog 22 #[.pointer (some ⟨b, 0, none⟩)] w (Post w [] fun v W => Own 5 .u8 W w.heap.size v s.data) := by
  obtain ⟨bw, vd, vn, vc, vw, h⟩ := h
  have c := h.blk.cell 1 rfl
  have hl := h.ok.len
  have hg := geo_bd h.ok.k1 h.ok.k2
  obtain ⟨bd, hsl, _⟩ := h.dat.sl
  have HC := Lib.hid (clone_any w vd bd 0 s.data hsl (by omega))
  clear h hl hg hsl
  go_enter Tryd.func22, Tryd.ntmps22
  go_wp2_with fail
  refine HC.out.mono ?_
  rintro _ w1 ⟨v, rfl, hv, k⟩
  have HV := Lib.hid hv
  have K := Lib.hid k
  clear hv k HC
  go_wp2_with fail
  go_ret
  exact ⟨_, rfl, HV.out, K.out⟩
set_option maxHeartbeats 2000000 in
theorem epNew_any (w : World) (hg : GeoLaid w) (k : Nat) (h1 : 1 ≤ k) (h2 : k ≤ 10) (v : Value) (bq off : Nat) (l : List Int) (hs : Sl .u8 w v bq off l) (hb : Bts l) (hl : l.length = geoBytes k) :
    Calls Tryd.prog 13 #[.int .i64 k, v] w (Post w [] fun r W => ∃ b F, r = .tuple #[.pointer (some ⟨b, 0, none⟩), .int .i64 0] ∧ ChipAt W b F (EpS.new k l) ∧ ∀ g, g ∈ F → w.heap.size ≤ g) := by
  have hgb := geo_bd h1 h2
  have HG := Lib.hid hg
  have HB := Lib.hid hb
  have HL := Lib.hid hl
  have HS := Lib.hid hs
  have HE := Lib.hid (fun w2 hg2 => geoEeprom_any w2 hg2 k h1 h2)
  have H1 := Lib.hid h1
  have H2 := Lib.hid h2
  obtain ⟨A, c, rfl, _, _, _, _⟩ := hs
  have e0 : ((geoBytes k : Int) == 0) = false := by rw [beq_eq_false_iff_ne]; omega
  have e1 : ((l.length : Int) != (geoBytes k : Int)) = false := by rw [bne_eq_false_iff_eq, hl]
  have e2 : (l.length != geoBytes k) = false := by rw [bne_eq_false_iff_eq, hl]
  have hmf := mkf
  clear hg hb hl
  go_enter Tryd.func13, Tryd.ntmps13
  go_wp2_with fail
  refine (HE.out _ HG.out).mono ?_
  rintro _ w1 ⟨_, rfl, rfl, k1⟩
  have K1 := Lib.hid k1
  clear k1
  go_wp2_with fail
  refine (HE.out _ (HG.out.kept K1.out (by simp))).mono ?_
  rintro _ w2 ⟨_, rfl, rfl, k2⟩
  have K2 := Lib.hid (K1.out.trans k2 (by simp))
  clear k2
  go_wp2_with fail
  refine (clone_any w2 _ bq off l (HS.out.kept K2.out (.inr (by simp))) (by have := HL.out; omega)).mono ?_
  rintro _ w3 ⟨vd, rfl, hvd, k3⟩
  have K3 := Lib.hid k3
  obtain ⟨bd, hsl3, _⟩ := hvd.sl
  obtain ⟨Ad, cd, rfl⟩ := hsl3.form
  have HVD := Lib.hid hvd
  clear k3 hvd hsl3
  go_wp2_with fail
  refine (wireNew_any w3).mono ?_
  rintro _ w4 ⟨_, rfl, ⟨bw, rfl, hbw, hbl⟩, k4⟩
  have K4 := Lib.hid k4
  have HBW := Lib.hid hbw
  have HBL := Lib.hid hbl
  clear k4 hbw hbl
  go_wp2_with fail
  go_ret2
  have k4 := K4.out
  have hvd := HVD.out
  have hbw := HBW.out
  have s4 := k4.size
  have s3 := K3.out.size
  have s2 := K2.out.size
  have hlt : ∀ g, (Value.slice Ad l.length cd).ownBlock = some g → w2.heap.size ≤ g ∧ g < w3.heap.size := hvd.lt
  refine ⟨_, rfl, ⟨w4.heap.size, w4.heap.size :: bw :: (Value.slice Ad l.length cd).ownBlock.toList, rfl, ⟨bw, .slice Ad l.length cd, .nilFunc, .map none, .map none, ⟨EpS.Ok.new H1.out H2.out HL.out HB.out, (Blk.new w4 _ _).to (by simp [EpS.cells, EpS.new, evV, jdV]), ?_, hbw.alloc _, rfl, .inl ⟨rfl, rfl⟩, (fun e => by cases e), .inl ⟨rfl, rfl⟩, (fun m e => by cases e), by simp, fun g hg => by simp [hg], by simp, ?_, ?_⟩⟩, ?_⟩, ?_⟩
  · exact Own.mono ((hvd.kept k4 (fun g hg hm => by simp at hm)).kept (S := []) ((Kept.refl w4 []).alloc _) (fun g hg hm => by simp at hm)) (Nat.zero_le _)
  · intro g hg
    rw [World.size_alloc]
    simp only [List.mem_cons, Option.mem_toList] at hg
    rcases hg with rfl | rfl | hg
    · omega
    · have := hbw.lt; omega
    · have := hlt g hg; omega
  · intro g hg
    have := HG.out.sz
    have := HBL.out
    simp only [List.mem_cons, Option.mem_toList] at hg
    rcases hg with rfl | rfl | hg
    · omega
    · omega
    · have := hlt g hg; omega
  · intro g hg
    have := HBL.out
    simp only [List.mem_cons, Option.mem_toList] at hg
    rcases hg with rfl | rfl | hg
    · omega
    · omega
    · have := hlt g hg; omega
  · exact ((K2.out.trans K3.out (by simp)).trans k4 (by simp)).alloc _
end Go.Proofs.YtdpiaibjpaalhaaDoor
