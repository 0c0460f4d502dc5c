/- PROVED: the contracts of alu.Adc, alu.Sbc and alu.Arr, said by whole numbers. No conditions beyond those that each theorem states. -/
import Derived.Test.YtmiihcaccejklaaAlu
namespace Go.Proofs.Ytmiihcaccejklaa
open Go.RowKit Go.Proofs.YtmiihcaccejklaaLib
set_option linter.unusedSimpArgs false
set_option linter.unusedVariables false

theorem mid_bd (a m p : Int) (a0 : 0 ≤ a) (a1 : a ≤ 255) (m0 : 0 ≤ m) (m1 : m ≤ 255) : 0 ≤ midM a m p ∧ midM a m p ≤ 600 ∧ 0 ≤ adcTop a m p ∧ adcTop a m p ≤ 700 := by
  have h := decLow_bd a m (p % 2) (by omega) (by omega)
  have h1 : 0 ≤ midM a m p ∧ midM a m p ≤ 600 := by unfold midM; split <;> omega
  refine ⟨h1.1, h1.2, ?_, ?_⟩ <;> (unfold adcTop; split <;> omega)
theorem adcFlags_byte (a m p s : Int) (h0 : 0 ≤ p) (h1 : p ≤ 255) : 0 ≤ adcFlags a m p s ∧ adcFlags a m p s ≤ 255 := by
  have b1 := setF_byte 128 (by simp [IsFlag]) (s / 128 % 2 == 1) p h0 h1
  have b2 := setF_byte 64 (by simp [IsFlag]) (overM a m s) _ b1.1 b1.2
  exact setF_byte 2 (by simp [IsFlag]) _ _ b2.1 b2.2

set_option maxHeartbeats 400000 in
theorem adc_any (w : World) (a m p : Int) (a0 : 0 ≤ a) (a1 : a ≤ 255) (m0 : 0 ≤ m) (m1 : m ≤ 255) (h0 : 0 ≤ p) (h1 : p ≤ 255) :
    Calls Try.prog 44 #[.int .u8 a, .int .u8 m, .int .u8 p] w (Post w [] fun r W => r = .tuple #[.int .u8 (adcM a m p).1, .int .u8 (adcM a m p).2]) := by
  have d8 := dec8 p h0 h1
  have bd := mid_bd a m p a0 a1 m0 m1
  have bf := adcFlags_byte a m p (midM a m p) h0 h1
  by_cases hd : p / 8 % 2 = 0
  · have e8 : (bits .and .u8 p 8 == 0) = true := by rw [d8]; simp [hd]
    have em : midM a m p = a + m + p % 2 := by unfold midM; rw [if_neg (by omega)]
    have et : adcTop a m p = a + m + p % 2 := by unfold adcTop; rw [if_neg (by omega), em]
    have ef : adcFlags a m p (a + m + p % 2) = setF (setF (setF p 128 ((a + m + p % 2) / 128 % 2 == 1)) 64 (overM a m (a + m + p % 2))) 2 ((a + m + p % 2) % 256 == 0) := rfl
    have er : adcM a m p = ((a + m + p % 2) % 256, setF (adcFlags a m p (a + m + p % 2)) 1 (decide (256 ≤ a + m + p % 2))) := by unfold adcM; rw [et, em]
    have eg : decide (256 ≤ a + m + p % 2) = decide (255 < a + m + p % 2) := by rw [decide_eq_decide]; omega
    rw [em, ef] at bf
    have ER := Lib.hid er
    have EF := Lib.hid ef
    have EG := Lib.hid eg
    clear d8 hd em et er ef eg bd
    go_enter Try.func44, Try.ntmps44
    go_wp2_with fail
    refine (operand_any _ _ _ _ a0 a1 m0 m1 h0 h1).mono ?_
    rintro _ w1 ⟨_, rfl, rfl, k1⟩
    go_wp2_with fail
    refine (sums_binary_any _ _ _ _ _ a0 a1 m0 m1 (by omega) (by omega) h0 h1).mono ?_
    rintro _ w2 ⟨_, rfl, rfl, k2⟩
    go_wp2_with fail
    refine (flag_any _ _ _ _ bf.1 bf.2 (by simp [IsFlag])).mono ?_
    rintro _ _ ⟨rfl, rfl⟩
    go_wp2_with fail
    go_returns
    refine ⟨_, rfl, ?_, (k1.alloc _).trans k2 (by simp)⟩
    rw [ER.out, EF.out, EG.out]
    rfl
  · have e8 : (bits .and .u8 p 8 == 0) = false := by rw [d8]; simp [hd]
    have dl := decLow_bd a m (p % 2) (by omega) (by omega)
    obtain ⟨lo, hlo⟩ : ∃ lo, lo = decLow a m (p % 2) := ⟨_, rfl⟩
    rw [← hlo] at dl
    have em : midM a m p = a - a % 16 + m - m % 16 + lo := by unfold midM; rw [if_pos (by omega), hlo]
    have et : adcTop a m p = if 160 ≤ a - a % 16 + m - m % 16 + lo then a - a % 16 + m - m % 16 + lo + 96 else a - a % 16 + m - m % 16 + lo := by
      unfold adcTop; rw [em]; split <;> split <;> omega
    have ef : adcFlags a m p (a - a % 16 + m - m % 16 + lo) = setF (setF (setF p 128 ((a - a % 16 + m - m % 16 + lo) / 128 % 2 == 1)) 64 (overM a m (a - a % 16 + m - m % 16 + lo))) 2 ((a + m + p % 2) % 256 == 0) := rfl
    have er : adcM a m p = (adcTop a m p % 256, setF (adcFlags a m p (a - a % 16 + m - m % 16 + lo)) 1 (decide (256 ≤ adcTop a m p))) := by unfold adcM; rw [em]
    have eg : ∀ x : Int, decide (256 ≤ x) = decide (255 < x) := by intro x; rw [decide_eq_decide]; omega
    rw [em, ef] at bf
    have HS := fun w' => sums_decimal_any w' a m (p % 2) p a0 a1 m0 m1 (by omega) (by omega) h0 h1
    rw [← hlo] at HS
    have HSS := Lib.hid HS
    have ER := Lib.hid er
    have EF := Lib.hid ef
    have EG := Lib.hid eg
    have ET := Lib.hid et
    clear d8 hd em et er ef eg bd hlo HS
    by_cases h160 : 160 ≤ a - a % 16 + m - m % 16 + lo
    all_goals
      have H160 := Lib.hid h160
      go_enter Try.func44, Try.ntmps44
      go_wp2_with fail
      refine (operand_any _ _ _ _ a0 a1 m0 m1 h0 h1).mono ?_
      rintro _ w1 ⟨_, rfl, rfl, k1⟩
      go_wp2_with fail
      refine (HSS.out _).mono ?_
      rintro _ w2 ⟨_, rfl, rfl, k2⟩
      go_wp2_with fail
      refine (flag_any _ _ _ _ bf.1 bf.2 (by simp [IsFlag])).mono ?_
      rintro _ _ ⟨rfl, rfl⟩
      go_wp2_with fail
      go_returns
      refine ⟨_, rfl, ?_, (k1.alloc _).trans k2 (by simp)⟩
      rw [ER.out, EF.out, ET.out, EG.out]
      first
        | (rw [if_pos (by have := H160.out; omega)]; rfl)
        | (rw [if_neg (by have := H160.out; omega)]; rfl)
        | (have e : decide (255 < a - a % 16 + m - m % 16 + lo) = false := by
            rw [decide_eq_false_iff_not]; have := H160.out; omega
           rw [if_neg (by have := H160.out; omega), e]; simp; have := H160.out; omega)


set_option maxHeartbeats 2000000 in
theorem sbc_any (w : World) (a m p : Int) (a0 : 0 ≤ a) (a1 : a ≤ 255) (m0 : 0 ≤ m) (m1 : m ≤ 255) (h0 : 0 ≤ p) (h1 : p ≤ 255) :
    Calls Try.prog 45 #[.int .u8 a, .int .u8 m, .int .u8 p] w (Post w [] fun r W => r = .tuple #[.int .u8 (sbcM a m p).1, .int .u8 (sbcM a m p).2]) := by
  have d8 := dec8 p h0 h1
  have n8 := andNot_flag 8 (by simp [IsFlag]) p h0 h1
  have nx : bits .xor .u8 IntKind.u8.max m = 255 - m := byte_cases (P := fun m => bits .xor .u8 IntKind.u8.max m = 255 - m) (by decide +kernel) m m0 m1
  have s8 := setF_byte 8 (by simp [IsFlag]) false p h0 h1
  have fb : 0 ≤ (adcM a (255 - m) (setF p 8 false)).2 ∧ (adcM a (255 - m) (setF p 8 false)).2 ≤ 255 := by
    have b := adcFlags_byte a (255 - m) (setF p 8 false) (midM a (255 - m) (setF p 8 false)) s8.1 s8.2
    exact setF_byte 1 (by simp [IsFlag]) _ _ b.1 b.2
  have HA := fun w' => adc_any w' a (255 - m) (setF p 8 false) a0 a1 (by omega) (by omega) s8.1 s8.2
  have o8 := or_flag 8 (by simp [IsFlag]) _ fb.1 fb.2
  obtain ⟨v, hv⟩ : ∃ v, v = (adcM a (255 - m) (setF p 8 false)).1 := ⟨_, rfl⟩
  obtain ⟨g, hg⟩ : ∃ g, g = (adcM a (255 - m) (setF p 8 false)).2 := ⟨_, rfl⟩
  rw [← hv, ← hg] at HA
  rw [← hg] at o8 fb
  by_cases hd : p / 8 % 2 = 0
  · have e8 : (bits .and .u8 p 8 == 0) = true := by rw [d8]; simp [hd]
    have er : sbcM a m p = (v, g) := by unfold sbcM; simp only [if_pos hd, hv, hg]
    have ER := Lib.hid er
    have HAH := Lib.hid HA
    clear d8 hd er hv hg HA o8
    go_enter Try.func45, Try.ntmps45
    go_wp2_with fail
    refine (HAH.out _).mono ?_
    rintro _ w1 ⟨_, rfl, rfl, k1⟩
    go_wp2_with fail
    go_returns
    exact ⟨_, rfl, by rw [ER.out]; rfl, k1⟩
  · have e8 : (bits .and .u8 p 8 == 0) = false := by rw [d8]; simp [hd]
    have e1 := i64_and15 a a0 (by omega)
    have e2 := i64_and15 m m0 (by omega)
    have e3 := i64_and240 a a0 a1
    have e4 := i64_and240 m m0 m1
    obtain ⟨c, hc⟩ : ∃ c, c = p % 2 := ⟨_, rfl⟩
    have c0 : 0 ≤ c := by omega
    have c1 : c ≤ 1 := by omega
    have er : sbcM a m p = ((if sbcMid a m c < 0 then sbcMid a m c - 96 else sbcMid a m c) % 256, setF g 8 true) := by unfold sbcM; simp only [if_neg hd, hg, hc]
    have HO := fun w' => operand_any w' a m p a0 a1 m0 m1 h0 h1
    rw [← hc] at HO
    have HOH := Lib.hid HO
    have ER := Lib.hid er
    have HAH := Lib.hid HA
    clear d8 hd er hv hg HA hc HO
    by_cases hl : a % 16 - m % 16 + c - 1 < 0
    · have e5 := i64_neg15 (a % 16 - m % 16 + c - 1 - 6) (by omega) (by omega)
      have EM : Hid (sbcMid a m c = a - a % 16 - (m - m % 16) + ((a % 16 - m % 16 + c - 1 - 6) % 16 - 15 - 1)) := Lib.hid (by unfold sbcMid sbcLow; rw [if_pos hl])
      by_cases hm : a - a % 16 - (m - m % 16) + ((a % 16 - m % 16 + c - 1 - 6) % 16 - 15 - 1) < 0
      all_goals
        have HM := Lib.hid hm
        go_enter Try.func45, Try.ntmps45
        go_wp2_with fail
        refine (HAH.out _).mono ?_
        rintro _ w1 ⟨_, rfl, rfl, k1⟩
        go_wp2_with fail
        refine (HOH.out _).mono ?_
        rintro _ w2 ⟨_, rfl, rfl, k2⟩
        go_wp2_with fail
        go_returns
        refine ⟨_, rfl, ?_, (k1.trans k2 (by simp)).alloc _⟩
        rw [ER.out, EM.out]
        first
          | (rw [if_pos HM.out]; rfl)
          | (rw [if_neg (Int.not_lt.2 HM.out)]; simp; have := HM.out; omega)
    · have EM : Hid (sbcMid a m c = a - a % 16 - (m - m % 16) + (a % 16 - m % 16 + c - 1)) := Lib.hid (by unfold sbcMid sbcLow; rw [if_neg hl])
      by_cases hm : a - a % 16 - (m - m % 16) + (a % 16 - m % 16 + c - 1) < 0
      all_goals
        have HM := Lib.hid hm
        go_enter Try.func45, Try.ntmps45
        go_wp2_with fail
        refine (HAH.out _).mono ?_
        rintro _ w1 ⟨_, rfl, rfl, k1⟩
        go_wp2_with fail
        refine (HOH.out _).mono ?_
        rintro _ w2 ⟨_, rfl, rfl, k2⟩
        go_wp2_with fail
        go_returns
        refine ⟨_, rfl, ?_, (k1.trans k2 (by simp)).alloc _⟩
        rw [ER.out, EM.out]
        first
          | (rw [if_pos HM.out]; rfl)
          | (rw [if_neg (Int.not_lt.2 HM.out)]; simp; have := HM.out; omega)

set_option maxHeartbeats 400000 in
theorem arr_any (w : World) (a m p : Int) (a0 : 0 ≤ a) (a1 : a ≤ 255) (m0 : 0 ≤ m) (m1 : m ≤ 255) (h0 : 0 ≤ p) (h1 : p ≤ 255) :
    Calls Try.prog 67 #[.int .u8 a, .int .u8 m, .int .u8 p] w fun e W => e = .returned (.tuple #[.int .u8 (arrM a m p).1, .int .u8 (arrM a m p).2]) ∧ w = W := by
  have d8 := dec8 p h0 h1
  have tb := bits_byte .and a m
  have hdef : arrM a m p = arrV (bits .and .u8 a m) (ror (bits .and .u8 a m) p).1 p := rfl
  obtain ⟨t, ht⟩ : ∃ t, t = bits .and .u8 a m := ⟨_, rfl⟩
  rw [← ht] at tb hdef
  have vb := ror_byte t p tb.1 tb.2
  have HR := fun w' => ror_any w' t p tb.1 tb.2 h0 h1
  obtain ⟨v, hv⟩ : ∃ v, v = (ror t p).1 := ⟨_, rfl⟩
  rw [← hv] at vb HR hdef
  generalize (ror t p).2 = junk at HR
  have nb := nzM_byte p v h0 h1
  have e1 := arr_v v vb.1 vb.2
  have e2 := bit6 v vb.1 vb.2
  have e3 := u8_1 t tb.1 tb.2
  have e4 := u8_240 t tb.1 tb.2
  have e4' := u8_16 t tb.1 tb.2
  have e4v := u8_240 v vb.1 vb.2
  have e5 := arr_n v vb.1 vb.2
  have e6 := arr_x t v tb.1 tb.2 vb.1 vb.2
  have nb1 := setF_byte 1 (by simp [IsFlag]) (v / 64 % 2 == 1) _ nb.1 nb.2
  have nb2 := setF_byte 64 (by simp [IsFlag]) (t / 64 % 2 != v / 64 % 2) _ nb.1 nb.2
  have e7 := or_flag 1 (by simp [IsFlag]) _ nb2.1 nb2.2
  have e8' := andNot_flag 1 (by simp [IsFlag]) _ nb2.1 nb2.2
  have T := Lib.hid ht.symm
  have HRH := Lib.hid HR
  have DEF := Lib.hid hdef
  clear ht hv HR hdef
  by_cases hd : p / 8 % 2 = 0
  · have e8 : (bits .and .u8 p 8 == 0) = true := by rw [d8]; simp [hd]
    have D := Lib.hid hd
    clear d8 hd
    have ht := T.out
    go_enter Try.func67, Try.ntmps67
    go_wp2_with fail
    refine (HRH.out _).mono ?_
    rintro _ _ ⟨rfl, rfl⟩
    go_wp2_with fail
    refine (nz_any _ _ _ h0 h1).mono ?_
    rintro _ _ ⟨rfl, rfl⟩
    go_wp2_with fail
    refine (flag_any _ _ _ _ nb.1 nb.2 (by simp [IsFlag])).mono ?_
    rintro _ _ ⟨rfl, rfl⟩
    go_wp2_with fail
    refine (flag_any _ _ _ _ nb1.1 nb1.2 (by simp [IsFlag])).mono ?_
    rintro _ _ ⟨rfl, rfl⟩
    go_wp2_with fail
    go_returns
    refine ⟨?_, rfl⟩
    rw [DEF.out, arrV, if_pos D.out]; rfl
  · have e8 : (bits .and .u8 p 8 == 0) = false := by rw [d8]; simp [hd]
    have D := Lib.hid hd
    clear d8 hd
    have ht := T.out
    by_cases c1 : 5 < t % 16 + t % 2
    all_goals
      have C1 := Lib.hid c1
      by_cases c2 : 80 < t - t % 16 + 16 * (t / 16 % 2)
      all_goals
        have C2 := Lib.hid c2
        go_enter Try.func67, Try.ntmps67
        go_wp2_with fail
        refine (HRH.out _).mono ?_
        rintro _ _ ⟨rfl, rfl⟩
        go_wp2_with fail
        refine (nz_any _ _ _ h0 h1).mono ?_
        rintro _ _ ⟨rfl, rfl⟩
        go_wp2_with fail
        refine (flag_any _ _ _ _ nb.1 nb.2 (by simp [IsFlag])).mono ?_
        rintro _ _ ⟨rfl, rfl⟩
        go_wp2_with fail
        go_returns
        refine ⟨?_, rfl⟩
        rw [DEF.out, arrV, if_neg D.out]
        have g1 := C1.out
        have g2 := C2.out
        first
          | (rw [if_pos (by omega), if_pos (by omega)]; rfl)
          | (rw [if_pos (by omega), if_neg (by omega)]; rfl)
          | (rw [if_neg (by omega), if_pos (by omega)]; rfl)
          | (rw [if_neg (by omega), if_neg (by omega)]; rfl)

end Go.Proofs.Ytmiihcaccejklaa
