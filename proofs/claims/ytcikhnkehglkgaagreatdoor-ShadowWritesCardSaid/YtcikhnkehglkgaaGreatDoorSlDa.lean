/- PROVED: the contract of slot.Data. No conditions beyond those that each theorem states. -/
import Derived.Test.YtcikhnkehglkgaaGreatDoorSlS
namespace Go.Proofs.YtcikhnkehglkgaaGreatDoor
open Go.RowKit Go.Proofs.YtcikhnkehglkgaaGreatDoorLib
set_option linter.unusedSimpArgs false
set_option linter.unusedVariables false

/-- pieces written one behind the other, till one fails -/
def writesM (s : DiskS) (at' : Nat) : List (List Int) → DiskS × Int
  | [] => (s, 0)
  | x :: xs => if (s.write (at' : Int) x).2 ≠ 0 then s.write (at' : Int) x else writesM (s.write (at' : Int) x).1 (at' + 1) xs
theorem chop_at (n : Nat) (l : List Int) (N k : Nat) (hk : k < N) : (chop n l N)[k]? = some ((l.drop (k * n)).take n) := by
  induction N generalizing l k with
  | zero => omega
  | succ N ih =>
    rw [chop]
    cases k with
    | zero => simp
    | succ k =>
      rw [List.getElem?_cons_succ, ih _ _ (by omega), List.drop_drop, Nat.succ_mul]
      congr 3
      omega
theorem write_ops (s : DiskS) (i : Int) (l : List Int) : (s.write i l).1.ops = s.ops + 1 := by
  unfold DiskS.write
  split
  · rfl
  split
  · rfl
  split
  · rfl
  split <;> rfl
/-- the image's sectors -/
def imgL (l : List Int) (size : Nat) : List (List Int) := chop size (padL l (secs l.length size * size)) (secs l.length size)
theorem imgL_len (l : List Int) (size : Nat) : (imgL l size).length = secs l.length size := length_chop _ _ _
set_option maxHeartbeats 1000000 in
theorem data_no (w : World) (hg : GeoLaid w) (b : Nat) (F : List Nat) (s : DiskS) (h : DiskAt w b F s) (which e f g : Int) (v : Value) (hw : atWhy s which e f g ≠ 0) :
    Calls Tryz.prog 80 #[pt b, .int .i64 which, .agg #[.int .i64 e, .int .i64 f, .int .i64 g], v] w (Post w [] fun r W => r = .int .i64 (atWhy s which e f g)) := by
  have HA := Lib.hid (at_no (w.alloc (.cells #[.int .i64 e, .int .i64 f, .int .i64 g] 23)) (hg.alloc _) b F s (h.kept ((Kept.refl w []).alloc _) (by simp)) which e f g hw)
  generalize atWhy s which e f g = why at *
  have t1 : (why != 0) = true := by simpa using hw
  clear h hg hw
  go_enter Tryz.func80, Tryz.ntmps80
  go_wp2_with fail
  refine HA.out.mono ?_
  rintro _ w1 ⟨_, rfl, rfl, k1⟩
  have K1 := Lib.hid (((Kept.refl w []).alloc _).trans k1 (by simp))
  clear k1 HA
  go_wp2_with fail
  go_ret
  exact ⟨_, rfl, rfl, K1.out.alloc _⟩
set_option maxHeartbeats 1000000 in
theorem data_arg (w : World) (hg : GeoLaid w) (b : Nat) (F : List Nat) (s : DiskS) (h : DiskAt w b F s) (which e f g : Int) (v : Value) (bq off : Nat) (l : List Int) (hs : Sl .u8 w v bq off l) (hw : atWhy s which e f g = 0) (hl : l.length ≠ gTotal e f g) :
    Calls Tryz.prog 80 #[pt b, .int .i64 which, .agg #[.int .i64 e, .int .i64 f, .int .i64 g], v] w (Post w [] fun r W => r = .int .i64 1) := by
  have hb0 := Blk.new w 23 [.int .i64 e, .int .i64 f, .int .i64 g]
  have HA := Lib.hid (at_yes (w.alloc (.cells #[.int .i64 e, .int .i64 f, .int .i64 g] 23)) (hg.alloc _) b F s (h.kept ((Kept.refl w []).alloc _) (by simp)) which e f g hw)
  obtain ⟨A, c, ev⟩ := hs.form
  subst ev
  have HG := Lib.hid hg
  obtain ⟨T, hT⟩ : ∃ T, gTotal e f g = T := ⟨_, rfl⟩
  have HT := Lib.hid (fun W (hg : GeoLaid W) => hT ▸ total_any W hg e f g)
  rw [hT] at hl
  have t1 : ((l.length : Int) != (T : Int)) = true := by simp; omega
  clear h hg hs hl hw hT
  go_enter Tryz.func80, Tryz.ntmps80
  go_wp2_with fail
  refine HA.out.mono ?_
  rintro _ w1 ⟨_, rfl, ⟨p3, p9, rfl, hx⟩, k1⟩
  have K1 := Lib.hid (((Kept.refl w []).alloc _).trans k1 (by simp))
  have hb1 := hb0.kept k1 (by simp)
  generalize spanN s.size e f g - 1 = many at *
  have hb1a := hb1.alloc (.cells #[.int .i64 many, .int .i64 s.size, .func (.func 102) #[] #[pt p3, pt p9], .func (.func 104) #[] #[pt p3, pt p9]] 124)
  have c0 := hb1a.cell 0 rfl
  have c1 := hb1a.cell 1 rfl
  have c2 := hb1a.cell 2 rfl
  have HT1 := Lib.hid (HT.out (w1.alloc (.cells #[.int .i64 many, .int .i64 s.size, .func (.func 102) #[] #[pt p3, pt p9], .func (.func 104) #[] #[pt p3, pt p9]] 124)) (HG.out.kept (K1.out.alloc _) (by simp)))
  clear k1 hx hb0 hb1 hb1a
  go_wp2_with fail
  refine HT1.out.mono ?_
  rintro _ w2 ⟨_, rfl, rfl, k2⟩
  have K2 := Lib.hid ((K1.out.alloc (.cells #[.int .i64 many, .int .i64 s.size, .func (.func 102) #[] #[pt p3, pt p9], .func (.func 104) #[] #[pt p3, pt p9]] 124)).trans k2 (by simp))
  clear k2 HT1
  go_wp2_with fail
  go_ret
  exact ⟨_, rfl, rfl, K2.out⟩
set_option maxRecDepth 100000 in
set_option maxHeartbeats 4000000 in
theorem data_yes (w : World) (hg : GeoLaid w) (b : Nat) (F : List Nat) (s : DiskS) (h : DiskAt w b F s) (ho : s.ops < 900000000) (which e f g : Int) (v : Value) (bq off : Nat) (l : List Int) (hs : Sl .u8 w v bq off l) (hB : Bts l) (hw : atWhy s which e f g = 0) (hl : l.length = gTotal e f g) :
    Calls Tryz.prog 80 #[pt b, .int .i64 which, .agg #[.int .i64 e, .int .i64 f, .int .i64 g], v] w (Post w F fun r W => r = .int .i64 (writesM s (which.toNat * spanN s.size e f g + 1) (imgL l s.size)).2 ∧ DiskOn W w.heap.size b F (writesM s (which.toNat * spanN s.size e f g + 1) (imgL l s.size)).1) := by
  have hb0 := Blk.new w 23 [.int .i64 e, .int .i64 f, .int .i64 g]
  have HA := Lib.hid (at_yes (w.alloc (.cells #[.int .i64 e, .int .i64 f, .int .i64 g] 23)) (hg.alloc _) b F s (h.kept ((Kept.refl w []).alloc _) (by simp)) which e f g hw)
  obtain ⟨hr, _, hsz, _⟩ := atWhy_yes hw
  have hpl := slot_room hw
  obtain ⟨A, c, ev⟩ := hs.form
  subst ev
  have HG := Lib.hid hg
  have HSL := Lib.hid hs
  have HBT := Lib.hid hB
  have hlb : l.length ≤ 100000 := by rw [hl]; exact gTotal_le e f g
  have hok := h.ok
  have HC := Lib.hid (fun W (k : Kept w W []) => cut_any W (.slice A l.length c) bq off l s.size (HSL.out.kept k (.inr (by simp))) hlb hok.s1 hok.s2)
  have hnl := Nat.le_trans (secs_le l.length s.size hok.s1) hlb
  have hxl := imgL_len l s.size
  have hxg : ∀ k, k < secs l.length s.size → (imgL l s.size)[k]? = some (((padL l (secs l.length s.size * s.size)).drop (k * s.size)).take s.size) := fun k hk => chop_at _ _ _ _ hk
  have hpb : Bts (padL l (secs l.length s.size * s.size)) := padL_bts hB _
  have hpn : (padL l (secs l.length s.size * s.size)).length = secs l.length s.size * s.size := padL_len _ _ (secs_fits _ _ hok.s1)
  generalize which.toNat * spanN s.size e f g = fst at *
  generalize spanN s.size e f g - 1 = many at *
  generalize imgL l s.size = xs at *
  generalize padL l (secs l.length s.size * s.size) = pl at *
  generalize secs l.length s.size = n at *
  have HXG := Lib.hid hxg
  have HXL := Lib.hid hxl
  have HPB := Lib.hid hpb
  have HPN := Lib.hid hpn
  have HT := Lib.hid (fun W (hg : GeoLaid W) => hl ▸ total_any W hg e f g)
  have t1 : ((l.length : Int) != (l.length : Int)) = false := by simp
  have H := Lib.hid h
  have HP := Lib.hid hpl
  have HO := Lib.hid ho
  have HFL := Lib.hid h.lt
  have hll := hs.len
  unfold maxLen at hll
  have l0 : (0 : Int) ≤ l.length := by omega
  have l1 : (l.length : Int) ≤ 9223372036854775807 := by omega
  have n0 : (0 : Int) ≤ n := by omega
  have n1 : (n : Int) ≤ 100000 := by omega
  have HSZ := Lib.hid hsz
  have S2 := Lib.hid (And.intro hok.s1 hok.s2)
  clear h hg hs hl hw hB hr hpl ho hsz hll hok hxg hxl hpb hpn hnl hlb
  go_enter Tryz.func80, Tryz.ntmps80
  go_wp2_with fail
  refine HA.out.mono ?_
  rintro _ w1 ⟨_, rfl, ⟨p3, p9, rfl, hx⟩, k1⟩
  have k1' := ((Kept.refl w []).alloc (.cells #[.int .i64 e, .int .i64 f, .int .i64 g] 23)).trans k1 (by simp)
  obtain ⟨wb, hwb⟩ : ∃ wb, wb = w1.alloc (.cells #[.int .i64 many, .int .i64 s.size, .func (.func 102) #[] #[pt p3, pt p9], .func (.func 104) #[] #[pt p3, pt p9]] 124) := ⟨_, rfl⟩
  have kb1 : Kept w1 wb [] := by rw [hwb]; exact (Kept.refl w1 []).alloc _
  have hbp : Blk wb w1.heap.size 124 [.int .i64 many, .int .i64 s.size, .func (.func 102) #[] #[pt p3, pt p9], .func (.func 104) #[] #[pt p3, pt p9]] := by rw [hwb]; exact Blk.new _ _ _
  have KB := Lib.hid (k1'.trans kb1 (by simp))
  have HX := Lib.hid (hx.kept2 kb1 (by simp) (by simp))
  have HBP := Lib.hid hbp
  have hb1 := (hb0.kept k1 (by simp)).kept kb1 (by simp)
  have q0 := hb1.cell 0 rfl
  have q1 := hb1.cell 1 rfl
  have q2 := hb1.cell 2 rfl
  have SZ := Lib.hid (And.intro k1'.size kb1.size)
  clear k1 k1' hx hb0 hb1 kb1 hbp HA
  go_upto_region 2 with fail
  rw [← hwb]
  clear hwb
  have HT1 := Lib.hid (HT.out wb (HG.out.kept KB.out (by simp)))
  go_wp2_with fail
  refine HT1.out.mono ?_
  rintro _ w2 ⟨_, rfl, rfl, k2⟩
  have KB2 := Lib.hid k2
  have hp2 := HBP.out.kept k2 (by simp)
  have d1 := hp2.cell 1 rfl
  have HC2 := Lib.hid (HC.out w2 (KB.out.trans k2 (by simp)))
  clear k2 HT1 hp2
  go_wp2_with fail
  refine HC2.out.mono ?_
  rintro _ w3 ⟨_, rfl, ⟨lv, rfl, q, hrow, hown, hq⟩, k3⟩
  have KW3 := Lib.hid (And.intro ((KB.out.trans KB2.out (by simp)).trans k3 (by simp)) (KB2.out.trans k3 (by simp)))
  obtain ⟨Ar, cr, er, hr1, hr2⟩ := hrow.form
  rw [pieceL_len] at er
  subst er
  have HROW := Lib.hid hrow
  have HOWN := Lib.hid hown
  have HQ := Lib.hid (And.intro hq (And.intro KB2.out.size (hown.lt q rfl).2))
  clear hrow hown hq k3 d1 hr1 hr2 HC2
  go_wp2_with fail
  go_loopg [42] n (fun gg i wr => ∃ (k : Nat) (sk : DiskS) (Fk : List Nat), k + gg = n ∧ i = .int .i64 k ∧ writesM s (fst + 1) xs = writesM sk (fst + 1 + k) (xs.drop k) ∧ DiskAt wr b Fk sk ∧ (∀ x, x ∈ Fk → x ∈ F ∨ w3.heap.size ≤ x) ∧ Kept w3 wr F ∧ sk.ops = s.ops + k ∧ sk.size = s.size)
  case atStart => exact ⟨0, s, F, by omega, rfl, rfl, H.out.kept KW3.out.1 (by simp), fun x hx => .inl hx, Kept.refl _ _, rfl, rfl⟩
  case round =>
    obtain ⟨k, sk, Fk, hk, rfl, heq, hd, hF, hkept, hops, hskz⟩ := hrel
    have HK := Lib.hid hk
    have HEQ := Lib.hid (And.intro heq trivial)
    have HD := Lib.hid hd
    have HF := Lib.hid hF
    have HKE := Lib.hid hkept
    have HOP := Lib.hid hops
    have HSK := Lib.hid hskz
    have kf : ∀ x, w.heap.size ≤ x → x ∉ F := fun x hx hm => by have := HFL.out x hm; omega
    clear hk heq hd hF hkept hops hskz
    by_cases hlt : k < n
    · have k0 : (0 : Int) ≤ k := by omega
      have k1 : (k : Int) < n := by omega
      have hx := HXG.out k hlt
      obtain ⟨gr, cr', e1, hc, g2, g3⟩ := HROW.out.cell (pieceL_get q s.size n k hlt)
      simp only [Value.slice.injEq] at e1
      obtain ⟨rfl, g1, rfl⟩ := e1
      clear g1 g2 g3
      have hgr := (HROW.out.lt gr rfl)
      have hszs := SZ.out
      have d6 := HKE.out.cell hc (kf gr (by have := HQ.out.2.1; omega))
      have hwk := KW3.out.2
      have hp3 := HBP.out.kept hwk (by simp)
      have d3 := (hp3.kept HKE.out (kf _ (by omega))).cell 3 rfl
      have hqf : q ∉ F := kf q (by have := HQ.out.1; have := HQ.out.2.1; omega)
      have hqk : q ∉ Fk := fun hm => by rcases HF.out q hm with h | h; exact hqf h; have := HQ.out.2.2; omega
      obtain ⟨bo, hso, hbo⟩ := HOWN.out.sl
      have hkm : k * s.size + s.size ≤ n * s.size := by rw [← Nat.succ_mul]; exact Nat.mul_le_mul_right _ hlt
      have hso' : Sl .u8 w3 (.slice (some ⟨q, 0, none⟩) (n * s.size) (n * s.size)) q 0 pl := by
        rcases hbo with e | ⟨e, _⟩
        · rw [e] at hso ⊢
          have := S2.out.1
          have hz := HPN.out
          rw [e] at hz
          simp at hz
          omega
        · simp [Value.ownBlock] at e
          subst e
          exact hso
      have hpart := (hso'.kept HKE.out (.inr hqf)).part (k * s.size) s.size s.size (by rw [HPN.out]; exact hkm) (Nat.le_refl _) (by have := S2.out.2; unfold maxLen; omega) (by have := S2.out.1; omega)
      rw [Nat.zero_add] at hpart
      have hplc := (HX.out.kept2 hwk (by simp) (by simp)).kept2 HKE.out (kf _ (by have := HX.out.l3; simp at this; omega)) (kf _ (by have := HX.out.l9; simp at this; omega))
      have hWR := wr_any wr _ b fst p3 p9 Fk sk HD.out hplc (1 + k) (by have := HP.out; omega) (by have := HO.out; have := HOP.out; omega) (.slice (some ⟨q, k * s.size, none⟩) s.size s.size) q (k * s.size) _ hpart (.inr hqk) ((HPB.out.drop _).take _)
      rw [show fst + (1 + k) = fst + 1 + k by omega] at hWR
      have hstep : xs.drop k = ((pl.drop (k * s.size)).take s.size) :: xs.drop (k + 1) := by
        have hl2 := (List.getElem?_eq_some_iff.1 hx)
        rw [List.drop_eq_getElem_cons hl2.1, hl2.2]
      have heq2 := HEQ.out.1
      rw [hstep, writesM] at heq2
      have hwo := write_ops sk ((fst + 1 + k : Nat) : Int) ((pl.drop (k * s.size)).take s.size)
      have hwz : (sk.write ((fst + 1 + k : Nat) : Int) ((pl.drop (k * s.size)).take s.size)).1.size = sk.size := by
        unfold DiskS.write
        split
        · rfl
        split
        · rfl
        split
        · rfl
        split <;> rfl
      generalize sk.write ((fst + 1 + k : Nat) : Int) ((pl.drop (k * s.size)).take s.size) = R at *
      have HEQ2 := Lib.hid (And.intro heq2 trivial)
      have HWO := Lib.hid (And.intro hwo hwz)
      have HWR := Lib.hid hWR
      clear hx hc hgr hszs hwk hp3 hqf hqk hso hbo hkm hso' hpart hplc hWR hstep heq2 hwo hwz
      have ei : (1 : Int) + k ≤ 100001 := by omega
      clear kf
      have e1k : (((1 + k : Nat)) : Int) = 1 + (k : Int) := by simp
      rw [e1k] at HWR
      clear e1k
      by_cases he : R.2 = 0
      · have te : (R.2 != 0) = false := by simpa using he
        have HE := Lib.hid (And.intro he trivial)
        clear he
        go_wp2_with fail
        refine HWR.out.mono ?_
        rintro _ wv ⟨_, rfl, ⟨rfl, hdo⟩, kv⟩
        obtain ⟨F2, hf1, hf2⟩ := hdo
        have KV := Lib.hid kv
        have HF2 := Lib.hid (And.intro hf1 hf2)
        clear kv hf1 hf2 HWR ei d3 d6
        go_wp2_with fail
        go_roundg (gk - 1)
        case measure => have := HK.out; omega
        case rel =>
          refine ⟨k + 1, R.1, F2, by have := HK.out; omega, by go_num, ?_, HF2.out.2, ?_, ?_, by rw [HWO.out.1, HOP.out]; omega, by rw [HWO.out.2, HSK.out]⟩
          · have := HEQ2.out.1
            rw [if_neg (by simpa using HE.out.1)] at this
            exact this
          · intro x hx
            rcases HF2.out.1 x hx with h | h
            · exact HF.out x h
            · exact .inr (Nat.le_trans HKE.out.size h)
          · exact HKE.out.trans KV.out (fun x hx => HF.out x hx)
      · have te : (R.2 != 0) = true := by simpa using he
        have HE := Lib.hid (And.intro he trivial)
        clear he
        go_wp2_with fail
        refine HWR.out.mono ?_
        rintro _ wv ⟨_, rfl, ⟨rfl, hdo⟩, kv⟩
        obtain ⟨F2, hf1, hf2⟩ := hdo
        have KV := Lib.hid kv
        have HF2 := Lib.hid (And.intro hf1 hf2)
        clear kv hf1 hf2 HWR ei d3 d6
        go_wp2_with fail
        go_ret
        have heqf := HEQ2.out.1
        rw [if_pos HE.out.1] at heqf
        refine ⟨_, rfl, ?_, ((KW3.out.1.mono (S2 := F) (by simp)).trans HKE.out (fun x hx => .inl hx)).trans KV.out (fun x hx => by rcases HF.out x hx with h | h; exact .inl h; exact .inr (Nat.le_trans KW3.out.1.size h))⟩
        rw [heqf]
        refine ⟨rfl, F2, fun x hx => ?_, HF2.out.2⟩
        rcases HF2.out.1 x hx with h | h
        · rcases HF.out x h with h | h
          · exact .inl h
          · exact .inr (Nat.le_trans KW3.out.1.size h)
        · exact .inr (Nat.le_trans KW3.out.1.size (Nat.le_trans HKE.out.size h))
    · have hkn : k = n := by have := HK.out; omega
      clear hlt
      subst hkn
      go_wp2_with fail
      go_ret
      have heqf := HEQ.out.1
      rw [List.drop_eq_nil_of_le (by rw [HXL.out]; omega), writesM] at heqf
      refine ⟨_, rfl, ?_, (KW3.out.1.mono (S2 := F) (by simp)).trans HKE.out (fun x hx => .inl hx)⟩
      rw [heqf]
      exact ⟨rfl, Fk, fun x hx => (HF.out x hx).imp id (fun h => Nat.le_trans KW3.out.1.size h), HD.out⟩
end Go.Proofs.YtcikhnkehglkgaaGreatDoor
