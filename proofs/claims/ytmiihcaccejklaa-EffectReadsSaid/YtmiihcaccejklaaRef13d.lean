/- PROVED: the contract of keepsakeref13.Adc. No conditions beyond those that each theorem states. -/
import Derived.Test.YtmiihcaccejklaaRef13b
import Derived.Test.YtmiihcaccejklaaAlu2
namespace Go.Proofs.Ytmiihcaccejklaa
open Go.RowKit Go.Proofs.YtmiihcaccejklaaLib
set_option linter.unusedSimpArgs false
set_option linter.unusedVariables false

set_option maxHeartbeats 1000000 in
theorem radc_any (w : World) (a m p : Int) (ha : Byte a) (hm : Byte m) (hp : Byte p) :
    Calls Try.prog 39 #[.int .u8 a, .int .u8 m, .int .u8 p] w fun e W => e = .returned (.tuple #[.int .u8 (adcM a m p).1, .int .u8 (adcM a m p).2]) ∧ w = W := by
  have H0 := Lib.hid hp
  have hc : 0 ≤ p % 2 ∧ p % 2 ≤ 1 := by omega
  have hd : p / 8 % 2 = 0 ∨ p / 8 % 2 = 1 := by omega
  clear hp
  obtain ⟨a0, a1⟩ := ha
  obtain ⟨m0, m1⟩ := hm
  go_enter Try.func39, Try.ntmps39
  go_wp2_with fail
  refine (rone_any _ p H0.out).mono ?_
  rintro _ _ ⟨rfl, rfl⟩
  go_wp2_with fail
  refine (rhas_any _ p 8 H0.out (by simp [IsFlag])).mono ?_
  rintro _ _ ⟨rfl, rfl⟩
  rcases hd with hd | hd
  · have e : (p / 8 % 2 == 1) = false := by rw [hd]; rfl
    rw [e]
    clear e
    replace hd := Lib.hid hd
    generalize hcc : p % 2 = c at hc ⊢
    replace hcc := Lib.hid hcc
    go_wp2_with fail
    refine (rset_any _ p 128 _ H0.out (by simp [IsFlag])).mono ?_
    rintro _ _ ⟨rfl, rfl⟩
    have H1 := Lib.hid (setF_b (p := p) (f := 128) (b := ((a + m + c) / 128 % 2 == 1)) (by simp [IsFlag]) H0.out)
    rcases hb : (a / 128 == m / 128) with _ | _
    · go_wp2_with fail
      refine (rset_any _ _ 64 _ H1.out (by simp [IsFlag])).mono ?_
      rintro _ _ ⟨rfl, rfl⟩
      have H2 := Lib.hid (setF_b (f := 64) (b := false) (by simp [IsFlag]) H1.out)
      go_wp2_with fail
      refine (rset_any _ _ 2 _ H2.out (by simp [IsFlag])).mono ?_
      rintro _ _ ⟨rfl, rfl⟩
      have H3 := Lib.hid (setF_b (f := 2) (b := ((a + m + c) % 256 == 0)) (by simp [IsFlag]) H2.out)
      go_wp2_with fail
      refine (rset_any _ _ 1 _ H3.out (by simp [IsFlag])).mono ?_
      rintro _ _ ⟨rfl, rfl⟩
      go_wp2_with fail
      go_ret2
      have hdd := hd.out
      have hcd := hcc.out
      refine ⟨?_, rfl⟩
      have E : adcM a m p = ((a + m + c) % 256, setF (setF (setF (setF p 128 ((a + m + c) / 128 % 2 == 1)) 64 false) 2 ((a + m + c) % 256 == 0)) 1 (decide (256 ≤ a + m + c))) := by
        unfold adcM adcTop adcFlags midM overM
        rw [hcd]
        simp [hdd, hb] <;> rfl
      rw [E]
      first | rfl | (simp; done)
    · go_wp2_with fail
      refine (rset_any _ _ 64 _ H1.out (by simp [IsFlag])).mono ?_
      rintro _ _ ⟨rfl, rfl⟩
      have H2 := Lib.hid (setF_b (f := 64) (b := (a / 128 != (a + m + c) / 128 % 2)) (by simp [IsFlag]) H1.out)
      go_wp2_with fail
      refine (rset_any _ _ 2 _ H2.out (by simp [IsFlag])).mono ?_
      rintro _ _ ⟨rfl, rfl⟩
      have H3 := Lib.hid (setF_b (f := 2) (b := ((a + m + c) % 256 == 0)) (by simp [IsFlag]) H2.out)
      go_wp2_with fail
      refine (rset_any _ _ 1 _ H3.out (by simp [IsFlag])).mono ?_
      rintro _ _ ⟨rfl, rfl⟩
      go_wp2_with fail
      go_ret2
      have hdd := hd.out
      have hcd := hcc.out
      refine ⟨?_, rfl⟩
      have E : adcM a m p = ((a + m + c) % 256, setF (setF (setF (setF p 128 ((a + m + c) / 128 % 2 == 1)) 64 (a / 128 != (a + m + c) / 128 % 2)) 2 ((a + m + c) % 256 == 0)) 1 (decide (256 ≤ a + m + c))) := by
        unfold adcM adcTop adcFlags midM overM
        rw [hcd]
        simp [hdd, hb] <;> rfl
      rw [E]
      first | rfl | (simp; done)
  · have e : (p / 8 % 2 == 1) = true := by rw [hd]; rfl
    rw [e]
    clear e
    replace hd := Lib.hid hd
    generalize hcc : p % 2 = c at hc ⊢
    replace hcc := Lib.hid hcc
    by_cases hl : 10 ≤ a % 16 + m % 16 + c
    · by_cases ht : 160 ≤ a - a % 16 + m - m % 16 + ((a % 16 + m % 16 + c + 6) % 16 + 16)
      · go_wp2_with fail
        refine (rset_any _ p 128 _ H0.out (by simp [IsFlag])).mono ?_
        rintro _ _ ⟨rfl, rfl⟩
        rcases hb : (a / 128 == m / 128) with _ | _ <;> (
          go_wp2_with fail
          refine (rset_any _ _ 64 _ (setF_b (by simp [IsFlag]) H0.out) (by simp [IsFlag])).mono ?_
          rintro _ _ ⟨rfl, rfl⟩
          go_wp2_with fail
          refine (rset_any _ _ 2 _ (setF_b (by simp [IsFlag]) (setF_b (by simp [IsFlag]) H0.out)) (by simp [IsFlag])).mono ?_
          rintro _ _ ⟨rfl, rfl⟩
          go_wp2_with fail
          refine (rset_any _ _ 1 _ (setF_b (by simp [IsFlag]) (setF_b (by simp [IsFlag]) (setF_b (by simp [IsFlag]) H0.out))) (by simp [IsFlag])).mono ?_
          rintro _ _ ⟨rfl, rfl⟩
          go_wp2_with fail
          go_ret2
          refine ⟨?_, rfl⟩
          have hdd := hd.out
          have hcd := hcc.out
          unfold adcM adcTop adcFlags midM overM decLow
          rw [hcd]
          simp [hdd, hb, hl, ht] <;> rfl)
      · go_wp2_with fail
        refine (rset_any _ p 128 _ H0.out (by simp [IsFlag])).mono ?_
        rintro _ _ ⟨rfl, rfl⟩
        rcases hb : (a / 128 == m / 128) with _ | _ <;> (
          go_wp2_with fail
          refine (rset_any _ _ 64 _ (setF_b (by simp [IsFlag]) H0.out) (by simp [IsFlag])).mono ?_
          rintro _ _ ⟨rfl, rfl⟩
          go_wp2_with fail
          refine (rset_any _ _ 2 _ (setF_b (by simp [IsFlag]) (setF_b (by simp [IsFlag]) H0.out)) (by simp [IsFlag])).mono ?_
          rintro _ _ ⟨rfl, rfl⟩
          go_wp2_with fail
          refine (rset_any _ _ 1 _ (setF_b (by simp [IsFlag]) (setF_b (by simp [IsFlag]) (setF_b (by simp [IsFlag]) H0.out))) (by simp [IsFlag])).mono ?_
          rintro _ _ ⟨rfl, rfl⟩
          go_wp2_with fail
          go_ret2
          refine ⟨?_, rfl⟩
          have hdd := hd.out
          have hcd := hcc.out
          have ht2 : ¬ 160 ≤ a - a % 16 + m - m % 16 + ((a % 16 + m % 16 + c + 6) % 16 + 16) := by omega
          unfold adcM adcTop adcFlags midM overM decLow
          rw [hcd]
          simp [hdd, hb, hl, ht2] <;> rfl)
    · by_cases ht : 160 ≤ a - a % 16 + m - m % 16 + (a % 16 + m % 16 + c)
      · go_wp2_with fail
        refine (rset_any _ p 128 _ H0.out (by simp [IsFlag])).mono ?_
        rintro _ _ ⟨rfl, rfl⟩
        rcases hb : (a / 128 == m / 128) with _ | _ <;> (
          go_wp2_with fail
          refine (rset_any _ _ 64 _ (setF_b (by simp [IsFlag]) H0.out) (by simp [IsFlag])).mono ?_
          rintro _ _ ⟨rfl, rfl⟩
          go_wp2_with fail
          refine (rset_any _ _ 2 _ (setF_b (by simp [IsFlag]) (setF_b (by simp [IsFlag]) H0.out)) (by simp [IsFlag])).mono ?_
          rintro _ _ ⟨rfl, rfl⟩
          go_wp2_with fail
          refine (rset_any _ _ 1 _ (setF_b (by simp [IsFlag]) (setF_b (by simp [IsFlag]) (setF_b (by simp [IsFlag]) H0.out))) (by simp [IsFlag])).mono ?_
          rintro _ _ ⟨rfl, rfl⟩
          go_wp2_with fail
          go_ret2
          refine ⟨?_, rfl⟩
          have hdd := hd.out
          have hcd := hcc.out
          have hl2 : ¬ 10 ≤ a % 16 + m % 16 + c := by omega
          unfold adcM adcTop adcFlags midM overM decLow
          rw [hcd]
          simp [hdd, hb, hl2, ht] <;> rfl)
      · go_wp2_with fail
        refine (rset_any _ p 128 _ H0.out (by simp [IsFlag])).mono ?_
        rintro _ _ ⟨rfl, rfl⟩
        rcases hb : (a / 128 == m / 128) with _ | _ <;> (
          go_wp2_with fail
          refine (rset_any _ _ 64 _ (setF_b (by simp [IsFlag]) H0.out) (by simp [IsFlag])).mono ?_
          rintro _ _ ⟨rfl, rfl⟩
          go_wp2_with fail
          refine (rset_any _ _ 2 _ (setF_b (by simp [IsFlag]) (setF_b (by simp [IsFlag]) H0.out)) (by simp [IsFlag])).mono ?_
          rintro _ _ ⟨rfl, rfl⟩
          go_wp2_with fail
          refine (rset_any _ _ 1 _ (setF_b (by simp [IsFlag]) (setF_b (by simp [IsFlag]) (setF_b (by simp [IsFlag]) H0.out))) (by simp [IsFlag])).mono ?_
          rintro _ _ ⟨rfl, rfl⟩
          go_wp2_with fail
          go_ret2
          refine ⟨?_, rfl⟩
          have hdd := hd.out
          have hcd := hcc.out
          have hl2 : ¬ 10 ≤ a % 16 + m % 16 + c := by omega
          have ht2 : ¬ 160 ≤ a - a % 16 + m - m % 16 + (a % 16 + m % 16 + c) := by omega
          unfold adcM adcTop adcFlags midM overM decLow
          rw [hcd]
          simp [hdd, hb, hl2, ht2] <;> rfl)

end Go.Proofs.Ytmiihcaccejklaa
