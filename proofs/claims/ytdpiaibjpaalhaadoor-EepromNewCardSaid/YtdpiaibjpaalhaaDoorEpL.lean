/- PROVED: the contract of what the chip does as time goes by. No conditions beyond those that each theorem states. -/
import Derived.Test.YtdpiaibjpaalhaaDoorEpK
namespace Go.Proofs.YtdpiaibjpaalhaaDoor
open Go.RowKit Go.Proofs.YtdpiaibjpaalhaaDoorLib Go.WideElems Go.Maps Go.ChangeMaps
set_option linter.unusedSimpArgs false
set_option linter.unusedVariables false

theorem next8 {ops : Array Oper} {rest : List Oper} {o : Oper} {a : Act} {Q : Exit → Act → World → Prop} (w : World) (hg : o.guard = none) (it : Operand) (hop : o.op = Op.next it false) (b r n : Nat) (D : DataW Value) (left : Lit → Bool) (cnt : Nat)
    (hit : a.eval it = .pointer (some ⟨r, 0, none⟩)) (h : w.ranges Tryd.prog 3 elem8 b r n D left cnt)
    (hDone : cnt = 0 → (∀ kl, left kl = false) → wpList Tryd.prog ops Q rest (a.put o.dst (.tuple #[.bool false])) w)
    (hMore : ∀ (x c : Int) (w' : World) (cnt' : Nat), (Lit.int .i64 x).wf = true → (Lit.int .u8 c).wf = true → left (.int .i64 x) = true → (∀ zd, D.atKey (.int .i64 x) zd = .lit (.int .u8 c)) → w'.ranges Tryd.prog 3 elem8 b r n D (fun z => left z && !z.sameKey (.int .i64 x)) cnt' → cnt' < cnt →
      w.grownBy w' (some r) → w'.heap.size = w.heap.size → (Instr.entry (.pointer (some ⟨r, 0, none⟩))).run Tryd.prog w' = .ok (.tuple #[.int .i64 x, .int .u8 c]) w' → wpList Tryd.prog ops Q rest (a.put o.dst (.tuple #[.bool true, .int .i64 x, .int .u8 c])) w') :
    wpList Tryd.prog ops Q (o :: rest) a w :=
  wpList_next_ranges_ii w hg it hop 3 5 .i64 .u8 keyedI Tryd.underlying3 Tryd.underlying5 b r n D left cnt hit h hDone hMore
theorem ranges_kept {w w1 : World} {b r n : Nat} {D : DataW Value} {left : Lit → Bool} {cnt : Nat} {S : List Nat} (h : w.ranges Tryd.prog 3 elem8 b r n D left cnt) (hk : Kept w w1 S) (hb : b ∉ S) (hr : r ∉ S) : w1.ranges Tryd.prog 3 elem8 b r n D left cnt := by
  obtain ⟨es, clock, since, seen, c0, h1, h2, h3, h4, h5, h6⟩ := h
  refine ⟨es, clock, since, seen, c0, ?_, h2, h3, h4, ?_, h6⟩
  · rw [hk.block b ((Array.getElem?_eq_some_iff.1 h1).1) hb]; exact h1
  · rw [hk.block r ((Array.getElem?_eq_some_iff.1 h5).1) hr]; exact h5
/-- the bytes, those laid that are no more to come -/
def partB (d : List Int) (L : List (Nat × Int)) (left : Lit → Bool) : List Int := d.mapIdx fun i x => if left (.int .i64 i) = true then x else (L.lookup i).getD x
theorem partB_get (d : List Int) (L : List (Nat × Int)) (left : Lit → Bool) (i : Nat) : (partB d L left)[i]? = d[i]?.map fun x => if left (.int .i64 i) = true then x else (L.lookup i).getD x := by
  unfold partB; rw [List.getElem?_mapIdx]
theorem partB_len (d : List Int) (L : List (Nat × Int)) (left : Lit → Bool) : (partB d L left).length = d.length := by simp [partB]
theorem partB_start (d : List Int) (L : List (Nat × Int)) (left : Lit → Bool) (h : ∀ i : Nat, left (.int .i64 i) = (L.lookup i).isSome) : partB d L left = d := by
  apply List.ext_getElem?
  intro i
  rw [partB_get, h i]
  cases hl : L.lookup i with
  | none => simp
  | some v => simp
theorem partB_end (d : List Int) (L : List (Nat × Int)) (left : Lit → Bool) (h : ∀ kl, left kl = false) : partB d L left = laid d L := by
  apply List.ext_getElem?
  intro i
  rw [partB_get, laid_get, h]
  simp
theorem sameKey_int (i j : Nat) : (Lit.int .i64 (j : Int)).sameKey (.int .i64 (i : Int)) = decide (j = i) := by
  by_cases e : j = i
  · subst e; rw [WideAt.sameKey_self (keyi_is _)]; simp
  · simp [Lit.sameKey, e]
    try omega
theorem partB_step (d : List Int) (L : List (Nat × Int)) (left : Lit → Bool) (i : Nat) (c : Int) (hi : i < d.length) (hl : L.lookup i = some c) : (partB d L left).set i c = partB d L (fun z => left z && !z.sameKey (.int .i64 (i : Int))) := by
  apply List.ext_getElem?
  intro j
  rw [List.getElem?_set, partB_len, partB_get, partB_get, sameKey_int]
  by_cases e : i = j
  · subst e
    rw [if_pos rfl, if_pos hi, hl, List.getElem?_eq_getElem hi]
    simp
  · rw [if_neg e]
    have : decide (j = i) = false := by rw [decide_eq_false_iff_not]; exact fun h => e h.symm
    rw [this]
    simp
theorem Kept.of_grown {w w1 : World} (h : w.grownBy w1 none) : Kept w w1 [] := Kept.grown h [] (by simp)
theorem Own.ne_iter {w : World} {base : Nat} {v : Value} {l : List Int} {T : TypeId} {k : IntKind} (h : Own T k w base v l) {b r n : Nat} {D : DataW Value} {left : Lit → Bool} {cnt : Nat} (hr : w.ranges Tryd.prog 3 elem8 b r n D left cnt) : v.ownBlock ≠ some r := by
  intro e
  obtain ⟨h1, ⟨rfl, _⟩ | ⟨g, cap, cur, rfl, hg, hc, _⟩⟩ := h
  · simp [Value.ownBlock] at e
  · simp [Value.ownBlock] at e
    subst e
    obtain ⟨es, clock, since, seen, c0, _, _, _, _, h5, _⟩ := hr
    rw [h5] at hc
    cases hc
theorem tick_idle (w : World) (b : Nat) (F : List Nat) (s : EpS) (h : ChipAt w b F s) (h1 : s.left ≠ 1) :
    Calls Tryd.prog 43 #[.pointer (some ⟨b, 0, none⟩)] w (Post w F fun r W => r = .tuple #[] ∧ ChipAt W b F s.tick) := by
  have hok := h.ok.tick
  obtain ⟨bw, vd, vn, vc, vw, hx⟩ := h
  have c14 := hx.blk.cell 14 rfl
  have f14 := hx.blk.free 14
  have lt := hx.blk.lt
  have hle := hx.ok.le
  have H := Lib.hid hx
  have HOK := Lib.hid hok
  by_cases h0 : s.left = 0
  · have e : s.tick = s := by simp [EpS.tick, h0]
    rw [e]
    have e0 : ((s.left : Int) == 0) = true := by rw [beq_iff_eq]; omega
    clear hx hok h0 h1 e
    go_enter Tryd.func43, Tryd.ntmps43
    go_wp2_with fail
    go_end0
    exact post_id H.out.at (Kept.refl _ _)
  · have e : s.tick = { s with left := s.left - 1 } := by simp [EpS.tick, h0, h1]
    rw [e] at HOK ⊢
    have e0 : ((s.left : Int) == 0) = false := by rw [beq_eq_false_iff_ne]; omega
    have e1 : (((s.left : Int) - 1) == 0) = false := by rw [beq_eq_false_iff_ne]; omega
    have b0 : (0 : Int) ≤ s.left := by omega
    have b1 : (s.left : Int) ≤ 50 := by omega
    have HC := Lib.hid (show ((s.left - 1 : Nat) : Int) = (s.left : Int) - 1 by omega)
    clear hx hok h0 h1 e
    go_enter Tryd.func43, Tryd.ntmps43
    go_wp2_with fail
    go_end0
    exact H.out.fin _ _ HOK.out ((Kept.refl w [b]).setCell (by simp) _) ((H.out.blk.set 14 _).to (by simp [EpS.cells, HC.out])) rfl rfl rfl rfl rfl (Nat.le_refl _) rfl rfl
set_option maxHeartbeats 4000000 in
theorem tick_lays (w : World) (b : Nat) (F : List Nat) (s : EpS) (h : ChipAt w b F s) (h1 : s.left = 1) :
    Calls Tryd.prog 43 #[.pointer (some ⟨b, 0, none⟩)] w (Post w F fun r W => r = .tuple #[] ∧ ChipAt W b F s.tick) := by
  have hok := h.ok.tick
  have e : s.tick = { s with left := 0, data := laid s.data s.waits, waits := [] } := by simp [EpS.tick, h1]
  rw [e] at hok ⊢
  obtain ⟨bw, vd, vn, vc, vw, hx⟩ := h
  have hwl : s.waits ≠ [] := fun e0 => by have := hx.ok.lw.2 e0; omega
  rcases hx.wai with ⟨_, e0⟩ | ⟨m, n, D, rfl, hm1, hn1, hmt, hmF⟩
  · exact absurd e0 hwl
  have hp := hx.ok.po
  have hl := hx.ok.len
  have hgb := geo_bd hx.ok.k1 hx.ok.k2
  obtain ⟨bd, hsl, hbd⟩ := hx.dat.sl
  have hne : s.data ≠ [] := by intro e; rw [e] at hp; simp at hp
  obtain ⟨c, rfl⟩ := hsl.at hne
  have hbd : (Value.slice (some ⟨bd, 0, none⟩) s.data.length c).ownBlock = some bd := rfl
  have c14 : w.cell? ⟨b, 14, none⟩ = some (.int .i64 1) := (hx.blk.cell 14 rfl).trans (by rw [h1]; rfl)
  have f14 := hx.blk.free 14
  have lt := hx.blk.lt
  have hb0 := hx.blk.set 14 (.int .i64 0)
  have k0 : Kept w (w.setCell ⟨b, 14, none⟩ (.int .i64 0)) [b] := (Kept.refl w [b]).setCell (by simp) _
  generalize hw0 : w.setCell ⟨b, 14, none⟩ (.int .i64 0) = w0 at hb0 k0
  have hnbd := Own.ne_cells hx.dat hx.blk (by decide)
  have hnbm := Blk.ne_map hx.blk hm1
  have hndm := Own.ne_map hx.dat hm1
  have hd0 := hx.dat.kept k0 (fun g hg hm => by simp at hm; subst hm; exact hnbd hg)
  have hm0 := map_kept hm1 k0 (by simpa using fun e => hnbm e.symm)
  have c13 := hb0.cell 13 rfl
  have d14 : w0.cell? ⟨b, 14, none⟩ = some (.int .i64 0) := hb0.cell 14 rfl
  have HBD : bd ≠ b := fun e => hnbd (by rw [hbd, e])
  have HBM : bd ≠ m := fun e => hndm (by rw [hbd, e])
  have HW0 := Lib.hid hw0
  have H := Lib.hid hx
  have HOK := Lib.hid hok
  have HB0 := Lib.hid hb0
  have K0 := Lib.hid k0
  have HD0 := Lib.hid hd0
  have HM0 := Lib.hid hm0
  have HMT := Lib.hid hmt
  have HMF := Lib.hid hmF
  have N1 := Lib.hid HBD
  have N2 := Lib.hid HBM
  have N3 := Lib.hid hnbm
  have HH1 := Lib.hid h1
  have LL := Lib.hid hl
  clear hx hok hb0 k0 hd0 hm1 hmt hmF HBD HBM hnbd hnbm hndm hsl hne hp hwl hn1 h1 e hbd hl
  go_enter Tryd.func43, Tryd.ntmps43
  go_wp2_with (first
    | (at_range; refine wpList_range_own _ rfl _ 69 rfl 3 5 keyedI Tryd.underlying69 elem8 m n D rfl hm0 ?_; intro w1 hrg0 hg0 hs0))
  go_frame
  have k1 := Kept.of_grown hg0
  have HD1 := Lib.hid (HD0.out.kept k1 (by simp [Apart]))
  have HB1 := Lib.hid (HB0.out.kept k1 (by simp))
  have K1 := Lib.hid k1
  have S1 := Lib.hid hs0
  have HG0 := Lib.hid hg0
  have NI : Hid (w0.heap.size ≠ bd) := Lib.hid (fun e => Own.ne_iter HD1.out hrg0 (by rw [← e]; rfl) )
  clear hg0 k1 hs0 hm0 c13 c14 f14 d14 hw0
  go_loopg [2] (Maps.size D) (fun g _ wr => ∃ left : Lit → Bool, wr.ranges Tryd.prog 3 elem8 m w0.heap.size n D left g ∧ Own 5 .u8 wr 0 (.slice (some ⟨bd, 0, none⟩) s.data.length c) (partB s.data s.waits left) ∧ Kept w0 wr [bd])
  case atStart =>
    refine ⟨_, hrg0, ?_, K1.out.mono (by simp)⟩
    rw [partB_start s.data s.waits _ HMT.out.has]
    exact HD1.out
  case round =>
    obtain ⟨left, hrg, hrow, hkr⟩ := hrel
    have HROW := Lib.hid hrow
    have HKR := Lib.hid hkr
    clear hrow hkr
    go_wp2_with (first
      | (at_next; refine next8 _ rfl _ rfl m w0.heap.size n D left gk rfl hrg ?_ ?_))
    · intro hc0 hl0
      have hbr := HB0.out.kept HKR.out (by simpa using fun e => N1.out e.symm)
      have d13 : wr.cell? ⟨b, 13, none⟩ = some (.map (some m)) := hbr.cell 13 rfl
      have f13 := hbr.free 13
      have ltr := hbr.lt
      have HBR := Lib.hid hbr
      have HL0 := Lib.hid hl0
      clear hbr hc0 hl0 hrg
      go_wp2_with fail
      go_end0
      have hx := H.out
      have kw : Kept w (wr.setCell ⟨b, 13, none⟩ (.map none)) [b, bd] := ((K0.out.mono (S2 := [b, bd]) (by simp)).trans (HKR.out.mono (S2 := [b, bd]) (by simp)) (fun g hg => .inl hg)).setCell (.inl (by simp)) _
      have hrow := HROW.out
      rw [partB_end _ _ _ HL0.out] at hrow
      have nb := N1.out
      have hnw := Blk.ne hx.wir hx.blk (by decide)
      have hnw2 : bw ≠ bd := fun e => Own.ne_cells hx.dat hx.wir (by decide) (by rw [e]; rfl)
      refine ⟨_, rfl, ⟨rfl, bw, _, vn, vc, .map none, ⟨HOK.out, (HBR.out.set 13 _).to (by simp [EpS.cells]), ?_, ?_, ?_, ?_, hx.cm, .inl ⟨rfl, rfl⟩, (fun m hm e => by cases e), hx.fb, hx.fd, hx.fw, fun g hg => Nat.lt_of_lt_of_le (hx.lt g hg) kw.size, hx.lo⟩⟩, kw.mono (fun g hg => ?_)⟩
      · exact hrow.kept (w1 := wr.setCell ⟨b, 13, none⟩ (.map none)) (S := [b]) ((Kept.refl wr [b]).setCell (by simp) _) (fun g hg hm => by simp at hm; subst hm; simp [Value.ownBlock] at hg; exact nb hg)
      · exact hx.wir.kept kw (by simp; exact ⟨hnw, hnw2⟩)
      · exact hx.nxt.kept kw (fun x hx2 => by
          simp
          exact ⟨hx2.ne hx.blk (by decide), fun e => Own.ne_cells hx.dat hx2.1 (by decide) (by rw [e]; rfl)⟩) (fun _ h => h)
      · refine hx.col.kept kw (fun g hg => ?_) (fun _ h => h)
        simp at hg
        rcases hg with rfl | rfl
        · exact hx.col.ne_blk hx.blk
        · intro e
          rcases hx.col with ⟨h1, _⟩ | ⟨m1, n1, D1, h1, h2, _⟩
          · rw [h1] at e; cases e
          · rw [h1] at e; cases e
            exact Own.ne_map hx.dat h2 rfl
      · simp at hg
        rcases hg with rfl | rfl
        · exact .inl hx.fb
        · exact .inl (hx.fd _ rfl)
    · intro x cc w2 cnt1 hwx hwc hlx hat hrg1 hlt hg1 hs1 hen
      have hhas := Maps.has_true_of_atKey hat
      obtain ⟨i, hi⟩ := HMT.out.key _ hhas
      injection hi with _ hi
      subst hi
      have hlk : s.waits.lookup i = some cc := by
        have h2 := HMT.out.has i
        rw [hhas] at h2
        obtain ⟨v, hv⟩ := Option.isSome_iff_exists.1 h2.symm
        have h3 := HMT.out.at' i v hv .nil
        rw [hat .nil] at h3
        injection h3 with h3
        injection h3 with _ h3
        rw [hv, h3]
      have hil : i < s.data.length := (H.out.ok.wb _ (mem_of_lookup hlk)).1
      have k2 : Kept wr w2 [w0.heap.size] := Kept.grown hg1 _ (by simp)
      have hltb := H.out.lt b H.out.fb
      have k0s := K0.out.size
      have hb2 := (HB0.out.kept HKR.out (by simpa using fun e => N1.out e.symm)).kept k2 (by simp; omega)
      have hrow2 := HROW.out.kept k2 (fun g hg hm => by simp at hm; subst hm; simp [Value.ownBlock] at hg; exact NI.out hg.symm)
      have d1 : w2.cell? ⟨b, 1, none⟩ = some (.slice (some ⟨bd, 0, none⟩) s.data.length c) := hb2.cell 1 rfl
      have hpl : i < (partB s.data s.waits left).length := by rw [partB_len]; exact hil
      obtain ⟨bq, hsl2, hq⟩ := hrow2.sl
      have hbq : bq = bd := by
        rcases hq with hq | hq
        · rw [hq] at hpl; simp at hpl
        · simpa [Value.ownBlock] using hq.1.symm
      subst hbq
      have dc := hsl2.cell (List.getElem?_eq_getElem hpl)
      rw [Nat.zero_add] at dc
      have df := hrow2.free rfl i
      have i0 : (0 : Int) ≤ i := by omega
      have i1 : (i : Int) < s.data.length := by omega
      have HR2 := Lib.hid hrow2
      have K2 := Lib.hid k2
      have HRG1 := Lib.hid hrg1
      have HLK := Lib.hid hlk
      have lt2 : bq < w2.heap.size := hsl2.lt (by intro e; rw [e] at hpl; simp at hpl)
      clear hrow2 k2 hrg1 hlk hsl2 hb2 hhas hlx hat hg1 hrg hq hwx hwc
      go_wp2_with fail
      go_roundg cnt1
      case measure => exact hlt
      case rel =>
        refine ⟨_, ranges_kept HRG1.out ((Kept.refl w2 [bq]).setCell (by simp) _) (by simpa using fun e => N2.out e.symm) (by simpa using NI.out), ?_, (HKR.out.trans (K2.out.mono (S2 := [w0.heap.size]) (by simp)) (fun g hg => by simp at hg; subst hg; exact .inr (Nat.le_refl _))).setCell (.inl (by simp)) _⟩
        rw [← partB_step s.data s.waits left i cc hil HLK.out]
        exact HR2.out.set rfl i cc hpl
end Go.Proofs.YtdpiaibjpaalhaaDoor
