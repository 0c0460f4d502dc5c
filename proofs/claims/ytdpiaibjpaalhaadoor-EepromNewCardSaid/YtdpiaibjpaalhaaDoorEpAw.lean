/- PROVED: the contract of keepsakelaw10's awake. No conditions beyond those that each theorem states. -/
import Derived.Test.YtdpiaibjpaalhaaDoorEpV
import Derived.Test.YtdpiaibjpaalhaaDoorEpZ
namespace Go.Proofs.YtdpiaibjpaalhaaDoor
open Go.RowKit Go.Proofs.YtdpiaibjpaalhaaDoorLib Go.WideElems Go.Maps Go.ChangeMaps
set_option linter.unusedSimpArgs false
set_option linter.unusedVariables false

theorem aimed_clock (s : EpS) (k at' : Nat) : (s.aimed k at').clock ≤ s.clock + 85 := by
  unfold EpS.aimed aimL
  rw [puts_clock, (runs_clock s false beginL).1]
  have hb : beginL.length = 4 := rfl
  rw [hb]
  split <;> simp only [List.length_cons, List.length_append, List.length_nil] <;> omega
theorem endL_len : endL.length = 3 := rfl
theorem runs_end_clock (s : EpS) : (s.runs false endL).clock = s.clock + 3 := (runs_clock s false endL).1
/-- the end of a write's wait -/
theorem idles50 (s : EpS) (h : s.Rests) (hl : s.left = 50) : (s.idles 50).data = laid s.data s.waits ∧ (s.idles 50).left = 0 ∧ (s.idles 50).pointer = s.pointer := by
  rw [idles_lays s h 49 hl]
  exact ⟨rfl, rfl, rfl⟩
set_option maxRecDepth 100000 in
set_option maxHeartbeats 4000000 in
theorem awake_any (w : World) (hg : GeoLaid w) : Calls Tryd.prog 10 #[] w (Post w [] fun v W => v = .bool true) := by
  obtain ⟨i0, hi, hz0, hz1, hz2⟩ := info_parts info8
  obtain ⟨w1, hmk0, hrow, k1⟩ := make_own (P := Tryd.prog) (k := .u8) Tryd.underlying22 hi hz0 hz1 (by omega) 128 (by omega) w
  have hmk : (Instr.makeSlice 22 (.int .i64 128) (.int .i64 128)).run Tryd.prog w = .ok (.slice (some ⟨w.heap.size, 0, none⟩) 128 128) w1 := hmk0
  obtain ⟨bq, hsl, _⟩ := hrow.sl
  have hlaw := writes_law (k := 1) (by decide) (by decide) (List.replicate 128 0) rfl 5 (by decide) [42] (by intro x hx; simp at hx; subst hx; decide) (by simp)
  have hput : ((EpS.new 1 (List.replicate 128 0)).aimed 1 5).puts [42] = ((EpS.new 1 (List.replicate 128 0)).aimed 1 5).put1 42 ∧ ((EpS.new 1 (List.replicate 128 0)).aimed 1 5).acks [42] = ((EpS.new 1 (List.replicate 128 0)).aimed 1 5).ack 42 := by
    rw [puts_cons, puts_nil, acks_cons, acks_nil]; exact ⟨rfl, by omega⟩
  rw [hput.1, hput.2] at hlaw
  have hc0 : (EpS.new 1 (List.replicate 128 0)).clock = 0 := rfl
  have hc1 := aimed_clock (EpS.new 1 (List.replicate 128 0)) 1 5
  have hwant : wantK (List.replicate 128 0) (geoPage 1) 5 [42] ([42] : List Int).length = (List.replicate 128 (0 : Int)).set 5 42 := by
    rw [show [(42 : Int)].length = 0 + 1 from rfl, wantK_succ _ _ _ _ 0 42 (by decide) rfl, wantK_zero]
    rfl
  rw [hwant] at hlaw
  have hnew := epNew_any w1 (hg.kept k1 (by simp)) 1 (by decide) (by decide) _ bq 0 _ hsl (Bts.replicate0 _) rfl
  generalize hs0 : EpS.new 1 (List.replicate 128 0) = s0 at *
  have hack1 : ∃ n : Nat, s0.aimAcks 1 5 = n := ⟨_, (Int.toNat_of_nonneg (by
    have h1 := hlaw.1
    have h2 := ack_01 (s0.aimed 1 5) 42
    have : ((geoWide 1 : Nat) : Int) = 1 := rfl
    rw [this] at h1
    simp at h1
    omega)).symm⟩
  obtain ⟨n1, hn1⟩ := hack1
  obtain ⟨n2, hn2, hn22⟩ := ack_int (s0.aimed 1 5) 42
  have hsum : (n1 : Int) + n2 = 3 := by
    have h1 := hlaw.1
    rw [hn1, hn2] at h1
    have : ((geoWide 1 : Nat) : Int) = 1 := rfl
    rw [this] at h1
    simpa using h1
  generalize hs1 : s0.aimed 1 5 = s1 at *
  obtain ⟨_, hR, hL, hD, hLD, hP⟩ := hlaw
  generalize hs2 : s1.put1 42 = s2 at *
  generalize hs3 : s2.runs false endL = s3 at *
  obtain ⟨hdat, hlef, hptr⟩ := idles50 s3 hR hL
  rw [hLD] at hdat
  have hc2 : s2.clock = s1.clock + 27 := by rw [← hs2, put1_clock]
  have hc3 : s3.clock = s2.clock + 3 := by rw [← hs3, runs_end_clock]
  rw [hP] at hptr
  generalize hs4 : s3.idles 50 = s4 at *
  have HG := Lib.hid hg
  have HNEW := Lib.hid hnew
  have K1 := Lib.hid k1
  have HN1 := Lib.hid hn1
  have HN2 := Lib.hid hn2
  have H1 := Lib.hid hs1
  have H2 := Lib.hid hs2
  have H3 := Lib.hid hs3
  have H4 := Lib.hid hs4
  have HD4 := Lib.hid hdat
  have HL4 := Lib.hid hlef
  have HP4 := Lib.hid hptr
  have HL3 := Lib.hid hL
  have HC1 := Lib.hid (show s0.clock ≤ 0 by omega)
  have HC2 := Lib.hid (show s1.clock ≤ 85 by omega)
  have HC3 := Lib.hid (show s2.clock ≤ 112 by omega)
  have HC4 := Lib.hid (show s3.clock ≤ 115 by omega)
  have n10 : (0 : Int) ≤ n1 := by omega
  have n11 : (n1 : Int) ≤ 3 := by omega
  have n21 : (n2 : Int) ≤ 1 := by omega
  have HSZ := Lib.hid k1.size
  clear hnew k1 hn1 hn2 hs1 hs2 hs3 hs4 hdat hlef hptr hL hD hLD hP hR hrow hsl hwant hput hc0 hc1 hc2 hc3 hs0 hmk0 hi hz0 hz1 hz2 hg hn22
  go_enter Tryd.func10, Tryd.ntmps10
  go_wp2_with fail
  refine HNEW.out.mono ?_
  rintro _ w2 ⟨_, rfl, ⟨b, F, rfl, hch, hF⟩, k2⟩
  have HF := Lib.hid (fun g (hm : g ∈ F) => Nat.le_trans HSZ.out (hF g hm))
  have K2 := Lib.hid (K1.out.trans k2 (by simp))
  have R2 := Lib.hid (Ran.start hch)
  have HLO := Lib.hid hch.lo
  have HG2 := Lib.hid (HG.out.kept K2.out (by simp))
  clear hch hF k2 HNEW
  go_wp2_with fail
  refine (aim_any w2 b F s0 1 5 (by decide) (by decide) (by decide) HG2.out R2.out.ch (by have := HC1.out; omega)).mono ?_
  rintro _ w3 ⟨_, rfl, ⟨rfl, l3⟩, k3⟩
  obtain ⟨F3, r3⟩ := R2.out.next l3 k3
  rw [H1.out] at r3
  rw [HN1.out]
  have R3 := Lib.hid r3
  clear l3 k3 r3
  go_wp2_with fail
  refine (lput_any w3 b F3 s1 42 (by decide) (by decide) (R3.out.geo HG2.out HLO.out) R3.out.ch (by have := HC2.out; omega)).mono ?_
  rintro _ w4 ⟨_, rfl, ⟨rfl, l4⟩, k4⟩
  obtain ⟨F4, r4⟩ := R3.out.next l4 k4
  have r4 : Ran w2 b F w4 F4 s2 := by rw [← H2.out]; exact r4
  rw [HN2.out]
  have R4 := Lib.hid r4
  clear l4 k4 r4
  go_wp2_with fail
  refine (end_any w4).mono ?_
  rintro _ w5 ⟨v5, rfl, ⟨g5, hl5, hg5⟩, k5⟩
  have R5 := Lib.hid (R4.out.same k5)
  have HL5 := Lib.hid hl5
  have HN5 := Lib.hid (R4.out.new hg5)
  clear hl5 hg5 k5
  go_wp2_with fail
  refine (steps_any w5 b F4 s2 false v5 g5 endL (R5.out.geo HG2.out HLO.out) R5.out.ch HL5.out HN5.out (by rw [endL_len]; have := HC3.out; omega)).mono ?_
  rintro _ w6 ⟨_, rfl, ⟨rfl, l6⟩, k6⟩
  obtain ⟨F6, r6⟩ := R5.out.next l6 k6
  rw [H3.out] at r6
  have R6 := Lib.hid r6
  clear l6 k6 r6
  go_wp2_with fail
  refine (left_any w6 b F6 s3 R6.out.ch).mono ?_
  rintro _ w7 ⟨_, rfl, rfl, k7⟩
  have R7 := Lib.hid (R6.out.same k7)
  have hl3 : ((s3.left : Nat) : Int) = 50 := by rw [HL3.out]; rfl
  rw [hl3]
  clear k7 hl3
  go_wp2_with fail
  refine (waits_any w7 b F6 s3 50 (R7.out.geo HG2.out HLO.out) R7.out.ch (by decide) (by have := HC4.out; omega)).mono ?_
  rintro _ w8 ⟨_, rfl, ⟨rfl, l8⟩, k8⟩
  obtain ⟨F8, r8⟩ := R7.out.next l8 k8
  rw [H4.out] at r8
  have R8 := Lib.hid r8
  clear l8 k8 r8
  go_wp2_with fail
  refine (bytes_any w8 b F8 s4 R8.out.ch).mono ?_
  rintro _ w9 ⟨v9, rfl, hv9, k9⟩
  have R9 := Lib.hid (R8.out.same k9)
  rw [HD4.out] at hv9
  obtain ⟨b9, hsl9, _⟩ := hv9.sl
  obtain ⟨c9, rfl⟩ := hsl9.at (by simp)
  have d9 : w9.cell? ⟨b9, 5, none⟩ = some (.int .u8 42) := by
    have := hsl9.cell (i := 5) (x := 42) (by decide)
    simpa using this
  have hlen9 : ((List.replicate 128 (0 : Int)).set 5 42).length = 128 := by simp
  rw [hlen9]
  clear hv9 k9 hsl9 hlen9
  go_wp2_with fail
  refine (left_any w9 b F8 s4 R9.out.ch).mono ?_
  rintro _ w10 ⟨_, rfl, rfl, k10⟩
  have R10 := Lib.hid (R9.out.same k10)
  have hl4 : ((s4.left : Nat) : Int) = 0 := by rw [HL4.out]; rfl
  rw [hl4]
  clear k10 hl4 d9
  go_wp2_with fail
  refine (pointer_any w10 b F8 s4 R10.out.ch).mono ?_
  rintro _ w11 ⟨_, rfl, rfl, k11⟩
  have R11 := Lib.hid (R10.out.same k11)
  have hp4 : ((s4.pointer : Nat) : Int) = 6 := by rw [HP4.out]; rfl
  rw [hp4]
  clear k11 hp4
  go_wp2_with fail
  go_ret
  exact ⟨_, rfl, rfl, K2.out.trans R11.out.kp (fun g hg => .inr (HF.out g hg))⟩
end Go.Proofs.YtdpiaibjpaalhaaDoor
