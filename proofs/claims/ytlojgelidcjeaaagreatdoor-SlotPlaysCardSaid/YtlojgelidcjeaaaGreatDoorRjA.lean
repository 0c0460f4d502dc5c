/- PROVED: the document's image's Cut, and the document's head's Bytes. No conditions beyond those that each theorem states. -/
import Derived.Test.YtlojgelidcjeaaaGreatDoorSlW
import Derived.Test.YtlojgelidcjeaaaGreatDoorSlDa
import Derived.Test.YtlojgelidcjeaaaGreatDoorSlGr
import Derived.IntWalk
namespace Go.Proofs.YtlojgelidcjeaaaGreatDoor
open Go.RowKit Go.Proofs.YtlojgelidcjeaaaGreatDoorLib
set_option linter.unusedSimpArgs false
set_option linter.unusedVariables false

theorem padL_get (l : List Int) (m k : Nat) (hk : k < m) : (padL l m)[k]? = some (if h : k < l.length then l[k] else 0) := by
  unfold padL
  by_cases h : k < l.length
  · rw [List.getElem?_append_left h, List.getElem?_eq_getElem h, dif_pos h]
  · rw [List.getElem?_append_right (by omega), List.getElem?_replicate, if_pos (by omega), dif_neg h]
set_option maxRecDepth 100000 in
set_option maxHeartbeats 4000000 in
theorem rcut_any (w : World) (v : Value) (b off : Nat) (l : List Int) (size : Nat) (hs : Sl .u8 w v b off l) (hl : l.length ≤ 100000) (h1 : 1 ≤ size) (h2 : size ≤ 4096) :
    Calls Tryz.prog 40 #[v, .int .i64 size] w (Post w [] fun r W => ∃ v' L, r = .tuple #[v', .int .i64 0] ∧ SRow W w.heap.size v' L ∧ PartsO W w.heap.size L (imgL l size)) := by
  obtain ⟨A, c, rfl⟩ := hs.form
  have HS := Lib.hid hs
  obtain ⟨N, hN⟩ : ∃ N, N = secs l.length size := ⟨_, rfl⟩
  have hNl : N ≤ l.length := by rw [hN]; exact secs_le _ _ h1
  have hNs : N * size ≤ l.length + size := by rw [hN]; exact secs_fits_le _ _ h1
  have hls : l.length ≤ N * size := by rw [hN]; exact secs_fits _ _ h1
  obtain ⟨P, hP⟩ : ∃ P, P = padL l (N * size) := ⟨_, rfl⟩
  have hPl : P.length = N * size := by rw [hP]; exact padL_len _ _ hls
  have hI : imgL l size = chop size P N := by unfold imgL; rw [hP, hN]
  rw [hI]
  have HSC := Lib.hid (fun W => rsects_any W l.length size (by omega) h1 h2)
  rw [← hN] at HSC
  have HPG : Hid (∀ k, k < N * size → P[k]? = some (if h : k < l.length then l[k] else 0)) := Lib.hid (fun k hk => by rw [hP]; exact padL_get l _ k hk)
  have HPL := Lib.hid hPl
  have HNS := Lib.hid (And.intro hNs (And.intro hl h2))
  have l0 : (0 : Int) ≤ l.length := by omega
  have l1 : (l.length : Int) ≤ 100000 := by omega
  have s0 : (0 : Int) ≤ size := by omega
  have s1 : (1 : Int) ≤ size := by omega
  have s2 : (size : Int) ≤ 4096 := by omega
  have n1 : (N : Int) ≤ 100000 := by omega
  obtain ⟨i0, hi, hz0, hz1, hz2⟩ := info_parts info8
  have HI := Lib.hid (And.intro hi (And.intro hz0 (And.intro hz1 hz2)))
  clear hs hN hNl hNs hls hP hPl hI hl h1 h2 hi hz0 hz1 hz2
  go_enter Tryz.func40, Tryz.ntmps40
  go_wp2_with fail
  go_loopg [6, 7] N (fun gg vv i wr => ∃ (k : Nat) (L : List Value), k + gg = N ∧ i = .int .i64 k ∧ SRow wr w.heap.size vv L ∧ PartsO wr w.heap.size L ((chop size P N).take k) ∧ L.length = k ∧ Kept w wr [])
  case atStart => exact ⟨0, [], by omega, rfl, World.ownsRow_nil _ _ _ _, ⟨rfl, fun i u x h => by simp at h⟩, rfl, Kept.refl _ _⟩
  case round =>
    obtain ⟨k, L, hk, rfl, hrow, hparts, hLk, hkept⟩ := hrel
    have HK := Lib.hid hk
    have HRO := Lib.hid hrow
    have HPA := Lib.hid hparts
    have HLK := Lib.hid hLk
    have HKE := Lib.hid hkept
    obtain ⟨Aw, cw, rfl, _, _⟩ := hrow.form
    clear hk hrow hparts hLk hkept
    by_cases hlt : k < N
    · have k0 : (0 : Int) ≤ k := by omega
      have k1 : (k : Int) < N := by omega
      obtain ⟨a, ha⟩ : ∃ a, a = k * size := ⟨_, rfl⟩
      have hac : a + size ≤ N * size := by rw [ha, ← Nat.succ_mul]; exact Nat.mul_le_mul_right _ hlt
      have hab : a + size ≤ 104096 := by have := HNS.out; omega
      obtain ⟨e, he⟩ : ∃ e, e = a + size := ⟨_, rfl⟩
      have hw1 : IntKind.i64.wrap ((k : Int) * (size : Int)) = (a : Int) := by rw [← Int.natCast_mul, ← ha]; exact IntWalk.i64_in _ (by omega)
      have hw3 : IntKind.i64.wrap (((k : Int) + 1) * (size : Int)) = (e : Int) := by
        have h3 : ((k : Int) + 1) * (size : Int) = (e : Int) := by rw [Int.add_mul, Int.one_mul, ← Int.natCast_mul, ← ha, he]; omega
        rw [h3]; exact IntWalk.i64_in _ (by omega)
      have a0 : (0 : Int) ≤ a := by omega
      have a1 : (a : Int) ≤ 104096 := by omega
      have e1 : (e : Int) ≤ 104096 := by omega
      have HE := Lib.hid he
      have HAC := Lib.hid hac
      have HCH : Hid ((chop size P N).take (k + 1) = (chop size P N).take k ++ [(P.drop a).take size]) := Lib.hid (by rw [List.take_add_one, chop_at size P N k hlt, ha]; rfl)
      clear hac hab he ha
      go_wp2_with fail
      (with_reducible refine (HSC.out _).mono ?_)
      rintro _ _ ⟨rfl, rfl⟩
      generalize hww : wr = w3 at *
      clear hww
      have H3 := HRO
      have HP3 := HPA
      have HK3 := HKE
      go_wp2_with fail
      obtain ⟨go, hgo⟩ : ∃ q, q = gk := ⟨_, rfl⟩
      have HGO := Lib.hid hgo
      clear hgo
      go_loopg [8, 9] size (fun gg vl j wr => ∃ (t : Nat), t + gg = size ∧ j = .int .i64 ((a + t : Nat) : Int) ∧ Own 5 .u8 wr w3.heap.size vl ((P.drop a).take t) ∧ SRow wr w.heap.size (.slice Aw L.length cw) L ∧ PartsO wr w.heap.size L ((chop size P N).take k) ∧ Kept w3 wr [])
      case atStart => exact ⟨0, by omega, by simp, Own.nil _ _ _ _, H3.out, HP3.out, Kept.refl _ _⟩
      case round =>
        obtain ⟨t, ht, rfl, hvl, hrow, hparts, hkx⟩ := hrel
        have HT := Lib.hid ht
        have HVL := Lib.hid hvl
        have HRX := Lib.hid hrow
        have HPX := Lib.hid hparts
        have HKX := Lib.hid hkx
        obtain ⟨bl, hsl, _⟩ := hvl.sl
        obtain ⟨Al, cl, rfl⟩ := hsl.form
        have hll : ((P.drop a).take t).length = t := by rw [List.length_take, List.length_drop, HPL.out]; have := HAC.out; omega
        have HLL := Lib.hid hll
        clear ht hvl hrow hparts hkx hsl
        by_cases hlt2 : t < size
        · obtain ⟨q, hq⟩ : ∃ q, q = a + t := ⟨_, rfl⟩
          have hqN : q < N * size := by have := HAC.out; omega
          have hPq := HPG.out q hqN
          have htk : (P.drop a).take (t + 1) = (P.drop a).take t ++ [if h : q < l.length then l[q] else 0] := by
            rw [List.take_add_one, List.getElem?_drop, ← hq, hPq]; rfl
          have HTK := Lib.hid htk
          have hqe : decide ((q : Int) < (e : Int)) = true := by have := HE.out; simp; omega
          have hqe2 : q < e := by have := HE.out; omega
          have hqe3 : (q : Int) < (e : Int) := by omega
          have q0 : (0 : Int) ≤ q := by omega
          have q1 : (q : Int) ≤ 104096 := by have := HE.out; omega
          have HQN : Hid ((q : Int) + 1 = ((a + (t + 1) : Nat) : Int)) := Lib.hid (by omega)
          rw [← hq]
          obtain ⟨x, hx⟩ : ∃ x, x = (if h : q < l.length then l[q] else 0) := ⟨_, rfl⟩
          rw [← hx] at HTK
          have hb2 := Blk.new wr 5 [.int .u8 x]
          have hvl2 := HVL.out.alloc (.cells #[.int .u8 x] 5)
          obtain ⟨v7, w7, hap, ho7, k7⟩ := own_append (P := Tryz.prog) Tryz.underlying35 HI.out.1 HI.out.2.1 HI.out.2.2.1 HI.out.2.2.2 hvl2 (Sl.of_blk (k := .u8) [x] hb2 rfl 1 (Nat.le_refl _) (by unfold maxLen; omega)) (by rw [hll]; have := HNS.out; simp; omega) (by rw [hll]; have := HNS.out; unfold maxLen; simp; omega) (by have := HKX.out.size; simp; omega) 35
          rw [← HTK.out] at ho7
          have kw7 : Kept wr w7 (Value.slice Al ((P.drop a).take t).length cl).ownBlock.toList := ((Kept.refl wr _).alloc _).trans k7 (fun g hg => .inl hg)
          have hr7 : SRow w7 w.heap.size (.slice Aw L.length cw) L := HRX.out.kept kw7 (fun g hg hm => by simp only [Option.mem_toList] at hm; exact SRow.ne_own HRX.out HVL.out (by decide) g hg hm)
          have hp7 : PartsO w7 w.heap.size L ((chop size P N).take k) := HPX.out.kept kw7 (fun i u y hu hy g hg hm => by
            simp only [Option.mem_toList] at hm
            have h4 := (HVL.out.lt g hm).1
            have h5 := ((HP3.out.2 i u y hu hy).lt g hg).2
            omega)
          have HAP := Lib.hid hap
          have HO7 := Lib.hid ho7
          have HR7 := Lib.hid hr7
          have HP7 := Lib.hid hp7
          have K7 : Hid (Kept w3 w7 []) := Lib.hid (HKX.out.trans kw7 (fun g hg => .inr (by simp only [Option.mem_toList] at hg; exact (HVL.out.lt g hg).1)))
          clear hb2 hvl2 hap ho7 k7 kw7 hr7 hp7 hq htk hPq hll
          generalize ((P.drop a).take t).length = nt at *
          generalize L.length = nL at *
          by_cases hql : q < l.length
          · have hql' : (q : Int) < l.length := by omega
            rw [dif_pos hql] at hx
            have hlx : l[q]? = some x := by rw [hx]; exact List.getElem?_eq_getElem hql
            obtain ⟨cx, gx⟩ := HS.out.at (by intro e0; rw [e0] at hql; simp at hql)
            simp only [Value.slice.injEq] at gx
            obtain ⟨rfl, _, rfl⟩ := gx
            have dx := (HS.out.kept (HK3.out.trans HKX.out (by simp)) (.inr (by simp))).cell hlx
            clear hx hlx
            go_wp2_with (first | (at_builtin; refine wpList_append_run rfl _ _ _ rfl rfl rfl HAP.out ?_))
            go_roundg (gk - 1)
            case measure => have := HT.out; omega
            case rel => exact ⟨t + 1, by have := HT.out; omega, by rw [← HQN.out], HO7.out, HR7.out, HP7.out, K7.out⟩
          · have hql' : ¬ (q : Int) < l.length := by omega
            rw [dif_neg hql] at hx
            subst hx
            go_wp2_with (first | (at_builtin; refine wpList_append_run rfl _ _ _ rfl rfl rfl HAP.out ?_))
            go_roundg (gk - 1)
            case measure => have := HT.out; omega
            case rel => exact ⟨t + 1, by have := HT.out; omega, by rw [← HQN.out], HO7.out, HR7.out, HP7.out, K7.out⟩
        · have hts : t = size := by have := HT.out; omega
          subst hts
          have hae : ((a + t : Nat) : Int) = (e : Int) := by rw [HE.out]
          rw [hae]
          clear hae hll
          have hb3 := Blk.new wr 35 [.slice Al ((P.drop a).take t).length cl]
          have hrow3 : SRow (wr.alloc (.cells #[.slice Al ((P.drop a).take t).length cl] 35)) w.heap.size (.slice Aw L.length cw) L := World.ownsRow.alloc HRX.out _
          have hsz3 : w.heap.size ≤ w3.heap.size := HK3.out.size
          obtain ⟨v7, w7, hap, ho7, k7, _⟩ := srow_append hrow3 hb3 rfl (by rw [HLK.out]; omega) (by have := HKX.out.size; simp; omega)
          have kva : Kept wr w7 ((Value.slice Aw L.length cw).ownBlock.toList) := ((Kept.refl wr _).alloc _).trans k7 (fun g hg => .inl hg)
          have hpa3 : PartsO w7 w.heap.size L ((chop t P N).take k) := HPX.out.kept kva (fun i u x hu hx g hg hm => by
            simp only [Option.mem_toList] at hm
            exact SRow.ne_own HRX.out (HPX.out.2 i u x hu hx) (by decide) g hm hg)
          have hrv2 : Own 5 .u8 w7 w.heap.size (.slice Al ((P.drop a).take t).length cl) ((P.drop a).take t) := (HVL.out.kept kva (fun g hg hm => by
            simp only [Option.mem_toList] at hm
            exact SRow.ne_own HRX.out HVL.out (by decide) g hm hg)).mono hsz3
          have hpn := hpa3.snoc hrv2
          rw [← HCH.out] at hpn
          have HAP := Lib.hid hap
          have HO7 := Lib.hid ho7
          have HPN := Lib.hid hpn
          have K7 : Hid (Kept w w7 []) := Lib.hid ((HK3.out.trans HKX.out (by simp)).trans kva (fun g hg => .inr (by simp only [Option.mem_toList] at hg; exact (HRX.out.lt g hg).1)))
          have hlen1 : (L ++ [Value.slice Al ((P.drop a).take t).length cl]).length = k + 1 := by rw [List.length_append, HLK.out]; rfl
          have HL1 := Lib.hid hlen1
          clear hb3 hrow3 hsz3 hap ho7 k7 kva hpa3 hrv2 hpn hlen1
          generalize hnn : L.length = nL at *
          generalize ((P.drop a).take t).length = nt at *
          clear hnn
          go_wp2_with (first | (at_builtin; refine wpList_append_run rfl _ _ _ rfl rfl rfl HAP.out ?_))
          go_roundg (go - 1)
          case measure => have := HK.out; have := HGO.out; omega
          case rel => exact ⟨k + 1, _, by have := HK.out; have := HGO.out; omega, by go_num, HO7.out, HPN.out, HL1.out, K7.out⟩
    · have hkn : k = N := by have := HK.out; omega
      clear hlt
      subst hkn
      have hpp : PartsO wr w.heap.size L (chop size P k) := by
        have h3 := HPA.out
        rw [List.take_of_length_le (by rw [length_chop]; exact Nat.le_refl _)] at h3
        exact h3
      have HPP := Lib.hid hpp
      clear hpp
      generalize hnL : L.length = nL at *
      go_wp2_with fail
      (with_reducible refine (HSC.out _).mono ?_)
      rintro _ _ ⟨rfl, rfl⟩
      have H3 := HRO
      have HP3 := HPP
      have HK3 := HKE
      clear hnL
      go_wp2_with fail
      go_ret2
      exact ⟨_, rfl, ⟨_, L, rfl, H3.out, HP3.out⟩, HK3.out⟩
set_option maxRecDepth 100000 in
set_option maxHeartbeats 4000000 in
theorem rbyt_any (w : World) (n : Int) (many : Nat) (n0 : 0 ≤ n) (n1 : n ≤ 18446744073709551615) (hm : many ≤ 8) :
    Calls Tryz.prog 81 #[.int .u64 n, .int .i64 many] w (Post w [] fun r W => Own 5 .u8 W w.heap.size r (layM n many)) := by
  obtain ⟨i0, hi, hz0, hz1, hz2⟩ := info_parts info8
  have HI := Lib.hid (And.intro hi (And.intro hz0 (And.intro hz1 hz2)))
  have m0 : (0 : Int) ≤ many := by omega
  have m1 : (many : Int) ≤ 8 := by omega
  have HN := Lib.hid (And.intro n0 n1)
  clear hi hz0 hz1 hz2 n0 n1
  go_enter Tryz.func81, Tryz.ntmps81
  go_wp2_with fail
  go_loopg [0, 5, 6] many (fun gg nn vv i wr => ∃ k : Nat, k + gg = many ∧ i = .int .i64 k ∧ nn = .int .u64 (shrM n k) ∧ Own 5 .u8 wr w.heap.size vv (layM n k) ∧ Kept w wr [])
  case atStart => exact ⟨0, by omega, rfl, rfl, Own.nil _ _ _ _, Kept.refl _ _⟩
  case round =>
    obtain ⟨k, hk, rfl, rfl, hrow, hkept⟩ := hrel
    have HK := Lib.hid hk
    have HRO := Lib.hid hrow
    have HKE := Lib.hid hkept
    obtain ⟨bl, hsl, _⟩ := hrow.sl
    obtain ⟨Al, cl, rfl⟩ := hsl.form
    have hbd := shrM_bd n k HN.out.1
    clear hk hrow hkept hsl
    by_cases hlt : k < many
    · have k0 : (0 : Int) ≤ k := by omega
      have k1 : (k : Int) < many := by omega
      have HST : Hid (shrM n (k + 1) = shrM n k / 256 ∧ layM n (k + 1) = layM n k ++ [shrM n k % 256]) := Lib.hid ⟨rfl, rfl⟩
      have hln : (layM n k).length = k := layM_len n k
      have HLN := Lib.hid hln
      have h1 := HN.out.2
      generalize shrM n k = s at *
      generalize layM n k = lk at *
      obtain ⟨s0, s1⟩ := hbd
      have y1 : s.tmod 256 = s % 256 := Int.tmod_eq_emod_of_nonneg s0
      have y2 : s.tdiv 256 = s / 256 := Int.tdiv_eq_ediv_of_nonneg s0
      have y3 : IntKind.u8.wrap (s % 256) = s % 256 := by rw [IntKind.wrap_u8]; omega
      have y4 : IntKind.u64.wrap (s / 256) = s / 256 := by rw [IntKind.wrap_u64]; omega
      have y5 : IntKind.u64.wrap (s % 256) = s % 256 := by rw [IntKind.wrap_u64]; omega
      have hb2 := Blk.new wr 5 [.int .u8 (s % 256)]
      have hvl2 := HRO.out.alloc (.cells #[.int .u8 (s % 256)] 5)
      obtain ⟨v7, w7, hap, ho7, k7⟩ := own_append (P := Tryz.prog) Tryz.underlying35 HI.out.1 HI.out.2.1 HI.out.2.2.1 HI.out.2.2.2 hvl2 (Sl.of_blk (k := .u8) [s % 256] hb2 rfl 1 (Nat.le_refl _) (by unfold maxLen; omega)) (by rw [hln]; simp; omega) (by rw [hln]; unfold maxLen; simp; omega) (by have := HKE.out.size; simp; omega) 35
      rw [← HST.out.2] at ho7
      have HAP := Lib.hid hap
      have HO7 := Lib.hid ho7
      have K7 : Hid (Kept w w7 []) := Lib.hid ((HKE.out.alloc _).trans k7 (fun g hg => .inr (by simp only [Option.mem_toList] at hg; exact (HRO.out.lt g hg).1)))
      clear hb2 hvl2 hap ho7 k7 hln h1
      generalize lk.length = nl at *
      go_wp2_with (first | (at_builtin; refine wpList_append_run rfl _ _ _ rfl rfl rfl HAP.out ?_))
      go_roundg (gk - 1)
      case measure => have := HK.out; omega
      case rel => exact ⟨k + 1, by have := HK.out; omega, by go_num, by rw [HST.out.1], HO7.out, K7.out⟩
    · have hkn : k = many := by have := HK.out; omega
      clear hlt
      subst hkn
      generalize shrM n k = s at *
      generalize hlk : (layM n k).length = nl at *
      clear hlk
      go_wp2_with fail
      go_ret
      exact ⟨_, rfl, HRO.out, HKE.out⟩
end Go.Proofs.YtlojgelidcjeaaaGreatDoor
