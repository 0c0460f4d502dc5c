/- PROVED: the document's check sum: divisor, left, word, Sum; the document's check sum is crc's. No conditions beyond those that each theorem states. -/
import Derived.Test.YtlojgelidcjeaaaGreatDoorCrR
import Derived.Lib.SliceRun
namespace Go.Proofs.YtlojgelidcjeaaaGreatDoorLib
open Go.RowKit
set_option linter.unusedSimpArgs false
set_option linter.unusedVariables false
theorem flips_snoc (L : List Bool) (i : Nat) (D : List Nat) (j d : Nat) (h : D[j]? = some d) : flips L i (D.take (j + 1)) = flip1 (flips L i (D.take j)) (i + d) := by
  unfold flips
  rw [List.take_add_one, h, List.foldl_append]
  rfl
def invK (m k : Nat) (R : List Bool) : List Bool := R.zipIdx.map (fun p => p.1 ^^ (decide (m ≤ p.2) && decide (p.2 < m + k)))
theorem invK_get (m k : Nat) (R : List Bool) (j : Nat) : (invK m k R)[j]? = (R[j]?).map (fun b => b ^^ (decide (m ≤ j) && decide (j < m + k))) := by
  simp [invK]
  cases R[j]? <;> rfl
theorem invK_len (m k : Nat) (R : List Bool) : (invK m k R).length = R.length := by simp [invK]
theorem invK_step (m k : Nat) (R : List Bool) : flip1 (invK m k R) (m + k) = invK m (k + 1) R := by
  apply List.ext_getElem?
  intro j
  rw [flip1_get, invK_get, invK_get]
  cases R[j]? with
  | none => rfl
  | some b =>
    simp only [Option.map_some, Option.some.injEq]
    by_cases e : m + k = j
    · subst e
      have e1 : decide (m + k < m + (k + 1)) = true := by simp
      have e2 : decide (m ≤ m + k) = true := by simp
      have e3 : decide (m + k < m + k) = false := by simp
      rw [e1, e2, e3]
      simp
    · have e1 : decide (j < m + (k + 1)) = decide (j < m + k) := by rw [decide_eq_decide]; omega
      have e2 : (m + k == j) = false := by simp [e]
      rw [e1, e2]
      simp
theorem invK_zero (m : Nat) (R : List Bool) : invK m 0 R = R := by
  apply List.ext_getElem?
  intro j
  rw [invK_get]
  have : (decide (m ≤ j) && decide (j < m + 0)) = false := by
    by_cases h : m ≤ j
    · simp
    · simp [h]
  rw [this]
  cases R[j]? <;> simp
theorem invK_32 (R : List Bool) : invK 0 32 R = inv32 R := by
  apply List.ext_getElem?
  intro j
  rw [invK_get, inv32_get]
  simp
theorem invK_drop (m : Nat) (R : List Bool) : (invK m 32 R).drop m = inv32 (R.drop m) := by
  apply List.ext_getElem?
  intro j
  rw [List.getElem?_drop, invK_get, inv32_get, List.getElem?_drop]
  have : (decide (m ≤ m + j) && decide (m + j < m + 32)) = decide (j < 32) := by simp
  rw [this]
theorem wordN_lt (r : List Bool) (j : Nat) : wordN r j < 2 ^ j := by
  induction j with
  | zero => simp [wordN]
  | succ j ih =>
    rw [wordN, Nat.pow_succ]
    split <;> omega
end Go.Proofs.YtlojgelidcjeaaaGreatDoorLib
namespace Go.Proofs.YtlojgelidcjeaaaGreatDoor
open Go.RowKit Go.Proofs.YtlojgelidcjeaaaGreatDoorLib Go.WideElems Go.Maps
set_option linter.unusedSimpArgs false
set_option linter.unusedVariables false

abbrev divV : List Value := [.int .i64 0, .int .i64 6, .int .i64 9, .int .i64 10, .int .i64 16, .int .i64 20, .int .i64 21, .int .i64 22, .int .i64 24, .int .i64 25, .int .i64 27, .int .i64 28, .int .i64 30, .int .i64 31, .int .i64 32]
theorem divV_eq : divV = divs.map (fun d : Nat => Value.int .i64 ((d : Nat) : Int)) := rfl
theorem rdivisor_any (w : World) : Calls Tryz.prog 96 #[] w (Post w [] fun r W => r = .slice (some ⟨w.heap.size, 0, none⟩) 15 15 ∧ Blk W w.heap.size 3 divV) := by
  have hb := Blk.new w 3 [.int .i64 0, .int .i64 6, .int .i64 9, .int .i64 10, .int .i64 16, .int .i64 20, .int .i64 21, .int .i64 22, .int .i64 24, .int .i64 25, .int .i64 27, .int .i64 28, .int .i64 30, .int .i64 31, .int .i64 32]
  have hk : Kept w (w.alloc (.cells #[.int .i64 0, .int .i64 6, .int .i64 9, .int .i64 10, .int .i64 16, .int .i64 20, .int .i64 21, .int .i64 22, .int .i64 24, .int .i64 25, .int .i64 27, .int .i64 28, .int .i64 30, .int .i64 31, .int .i64 32] 3)) [] := (Kept.refl w []).alloc _
  have HB := Lib.hid hb
  have HK := Lib.hid hk
  clear hb hk
  go_enter Tryz.func96, Tryz.ntmps96
  go_wp2_with fail
  go_ret
  exact ⟨_, rfl, ⟨rfl, HB.out⟩, HK.out⟩
set_option maxRecDepth 100000 in
set_option maxHeartbeats 4000000 in
theorem rleft_any (w : World) (base : Nat) (v : Value) (L : List Bool) (h : RowB w base v L) (h32 : 32 ≤ L.length) (hL : L.length ≤ 100000000) :
    Calls Tryz.prog 83 #[v] w (Post w v.ownBlock.toList fun r W => ∃ g c, v.ownBlock = some g ∧ r = .slice (some ⟨g, L.length - 32, none⟩) 32 c ∧ 32 ≤ c ∧ c ≤ maxLen ∧ RowB W base v (divN L (L.length - 32))) := by
  have hne : L ≠ [] := by intro e; rw [e] at h32; simp at h32
  obtain ⟨g, c, rfl, hc1, hc2, _, _⟩ := h.at hne
  have hgo : (Value.slice (some ⟨g, 0, none⟩) L.length c).ownBlock = some g := by simp [Value.ownBlock]
  have hlt := (h.lt g hgo).2
  obtain ⟨m, hm⟩ : ∃ m, L.length = m + 32 := ⟨L.length - 32, by omega⟩
  have hv : Value.slice (some ⟨g, 0, none⟩) L.length c = .slice (some ⟨g, 0, none⟩) (m + 32) c := by rw [hm]
  have H : Hid (RowB w base (.slice (some ⟨g, 0, none⟩) (m + 32) c) L) := Lib.hid (hv ▸ h)
  have HM := Lib.hid hm
  have HLT := Lib.hid hlt
  have HC2 := Lib.hid hc2
  have HOW : Hid ((Value.slice (some ⟨g, 0, none⟩) (m + 32) c).ownBlock.toList = [g]) := Lib.hid rfl
  have hmi : (m : Int) ≤ 100000000 := by omega
  have hm0 : (0 : Int) ≤ m := by omega
  rw [hm] at hc1 ⊢
  rw [Nat.add_sub_cancel, HOW.out]
  clear h hne hgo hm hlt h32 hc2 hL hv
  have HV : Hid (∀ W L', L'.length = m + 32 → (RowB W base (Value.slice (some ⟨g, 0, none⟩) (m + 32) c) L' → (∀ (i : Nat) (x : Bool), L'[i]? = some x → W.cell? ⟨g, i, none⟩ = some (.bool x)) ∧ (∀ i, W.frozen? ⟨g, i, none⟩ = false))) := Lib.hid (fun W L' hl' hr => by
    obtain ⟨g2, c2, e, _, _, h3, h4⟩ := hr.at (by intro e; rw [e] at hl'; simp at hl')
    simp only [Value.slice.injEq, Option.some.injEq, Addr.mk.injEq, and_true] at e
    obtain ⟨rfl, _, _⟩ := e
    exact ⟨h3, h4⟩)
  go_enter Tryz.func83, Tryz.ntmps83
  go_wp2_with fail
  (with_reducible refine (rdivisor_any w).mono ?_)
  rintro _ w1 ⟨_, rfl, ⟨rfl, hd⟩, k1⟩
  have HD := Lib.hid hd
  have K1 := Lib.hid (k1.mono (S2 := [g]) (by simp))
  have HR1 : Hid (RowB w1 base (.slice (some ⟨g, 0, none⟩) (m + 32) c) L) := Lib.hid (H.out.kept k1 (by simp [Apart]))
  generalize hgd : w.heap.size = gd at *
  have HGD : Hid (g < gd) := Lib.hid (by have := HLT.out; omega)
  clear hd k1 hgd
  go_wp2_with fail
  go_loopg [4] m (fun q i wr => ∃ k : Nat, k + q = m ∧ i = .int .i64 k ∧ RowB wr base (.slice (some ⟨g, 0, none⟩) (m + 32) c) (divN L k) ∧ Blk wr gd 3 divV ∧ Kept w wr [g])
  case atStart => exact ⟨0, by omega, rfl, HR1.out, HD.out, K1.out⟩
  case round =>
    obtain ⟨k, hk, rfl, hrow, hbd, hkept⟩ := hrel
    have HK := Lib.hid hk
    have HKE := Lib.hid hkept
    have HRO := Lib.hid hrow
    have HBD := Lib.hid hbd
    clear hk hkept hrow hbd
    by_cases hlt : k < m
    · have k0 : (0 : Int) ≤ k := by omega
      have k1 : (k : Int) < m := by omega
      have hdl : (divN L k).length = m + 32 := by rw [divN_len]; exact HM.out
      have hx : (divN L k)[k]? = some ((divN L k)[k]'(by omega)) := List.getElem?_eq_getElem (by omega)
      have HST : Hid (divN L (k + 1) = if (divN L k)[k]'(by omega) then flips (divN L k) k divs else divN L k) := Lib.hid (by show divStep _ _ = _; unfold divStep; rw [hx]; rfl)
      generalize (divN L k)[k]'(by omega) = x at *
      generalize divN L k = R at *
      have dx := ((HV.out _ _ hdl) HRO.out).1 _ _ hx
      have HDL := Lib.hid hdl
      clear hx hdl
      cases x with
      | false =>
        have e := HST.out
        rw [if_neg (by simp)] at e
        have E := Lib.hid e
        clear e HST
        go_wp2_with fail
        go_roundg (gk - 1)
        case measure => have := HK.out; omega
        case rel => exact ⟨k + 1, by have := HK.out; omega, by go_num, by rw [E.out]; exact HRO.out, HBD.out, HKE.out⟩
      | true =>
        have e := HST.out
        rw [if_pos rfl] at e
        have E := Lib.hid e
        clear e HST
        go_wp2_with fail
        obtain ⟨go, hgo⟩ : ∃ q, q = gk := ⟨_, rfl⟩
        have HGO := Lib.hid hgo
        clear hgo dx
        go_loopg [5] 15 (fun q j wr => ∃ t : Nat, t + q = 15 ∧ j = .int .i64 t ∧ RowB wr base (.slice (some ⟨g, 0, none⟩) (m + 32) c) (flips R k (divs.take t)) ∧ Blk wr gd 3 divV ∧ Kept w wr [g])
        case atStart => exact ⟨0, by omega, rfl, HRO.out, HBD.out, HKE.out⟩
        case round =>
          obtain ⟨t, ht, rfl, hrow, hbd, hkept⟩ := hrel
          have HT := Lib.hid ht
          have HKX := Lib.hid hkept
          have HRX := Lib.hid hrow
          have HBX := Lib.hid hbd
          clear ht hkept hrow hbd
          by_cases hlt2 : t < 15
          · have t0 : (0 : Int) ≤ t := by omega
            have t1 : (t : Int) < 15 := by omega
            have hd := List.getElem?_eq_getElem (l := divs) (i := t) hlt2
            have hd32 : ∀ d, d ∈ divs → d ≤ 32 := by decide
            have hdm := hd32 _ (List.mem_of_getElem? hd)
            have hcd : wr.cell? ⟨gd, t, none⟩ = some (.int .i64 ((divs[t]'hlt2 : Nat) : Int)) := HBX.out.cell t (by rw [divV_eq, List.getElem?_map, hd]; rfl)
            have hfs := flips_snoc R k divs t _ hd
            have hrl : (flips R k (divs.take t)).length = m + 32 := by rw [flips_len]; exact HDL.out
            generalize divs[t]'hlt2 = d at *
            have hdi : (d : Int) ≤ 32 := by omega
            have hd0 : (0 : Int) ≤ d := by omega
            have hkd : k + d < m + 32 := by omega
            have hy : (flips R k (divs.take t))[k + d]? = some ((flips R k (divs.take t))[k + d]'(by omega)) := List.getElem?_eq_getElem (by omega)
            have HFS := Lib.hid hfs
            generalize (flips R k (divs.take t))[k + d]'(by omega) = y at *
            generalize flips R k (divs.take t) = P at *
            have hcells := (HV.out _ _ hrl) HRX.out
            have cy := hcells.1 _ _ hy
            have fy := hcells.2 (k + d)
            have hrn := HRX.out.flip (g := g) (by simp [Value.ownBlock]) hy
            have hrn' : RowB (wr.setCell ⟨g, k + d, none⟩ (.bool !y)) base (.slice (some ⟨g, 0, none⟩) (m + 32) c) (flip1 P (k + d)) := hrn
            have kn : Kept wr (wr.setCell ⟨g, k + d, none⟩ (.bool !y)) [g] := (Kept.refl _ _).setCell (by simp) _
            have hbn : Blk (wr.setCell ⟨g, k + d, none⟩ (.bool !y)) gd 3 divV := HBX.out.kept kn (by simp; have := HGD.out; omega)
            have HRN := Lib.hid hrn'
            have KN := Lib.hid (HKX.out.trans kn (fun q hq => .inl hq))
            have HBN := Lib.hid hbn
            have hwr : IntKind.i64.wrap ((k : Int) + (d : Int)) = ((k + d : Nat) : Int) := by rw [IntWalk.i64_in _ (by omega)]; omega
            have hkd0 : (0 : Int) ≤ ((k + d : Nat) : Int) := by omega
            have hkd1 : ((k + d : Nat) : Int) < ((m + 32 : Nat) : Int) := by omega
            clear hrn hrn' kn hbn hfs hrl hy hcells hd hd32 hdm
            go_wp2_with fail
            go_region
            all_goals (
              go_wp2_with fail
              go_roundg (gk - 1)
              case measure => have := HT.out; omega
              case rel => exact ⟨t + 1, by have := HT.out; omega, by go_num, by rw [HFS.out]; exact HRN.out, HBN.out, KN.out.drew⟩)
          · have ht15 : t = 15 := by have := HT.out; omega
            subst ht15
            have hr : RowB wr base (.slice (some ⟨g, 0, none⟩) (m + 32) c) (divN L (k + 1)) := by rw [E.out]; exact HRX.out
            have HR := Lib.hid hr
            clear hr
            go_wp2_with fail
            go_roundg (go - 1)
            case measure => have := HK.out; have := HGO.out; omega
            case rel => exact ⟨k + 1, by have := HK.out; have := HGO.out; omega, by go_num, HR.out, HBX.out, HKX.out⟩
    · have hkn : k = m := by have := HK.out; omega
      clear hlt
      subst hkn
      have hsub : IntKind.i64.wrap (((k + 32 : Nat) : Int) - 32) = (k : Int) := by rw [IntWalk.i64_in _ (by omega)]; omega
      have hc3 : k + 32 ≤ c := hc1
      have hcm : (c : Int) ≤ 9223372036854775807 := by have := HC2.out; unfold maxLen at this; omega
      have hnk : (c = k) = False := by simp; omega
      go_wp2_with fail
      go_ret
      exact ⟨_, rfl, ⟨g, _, rfl, rfl, by omega, by have := HC2.out; omega, HRO.out⟩, HKE.out⟩
set_option maxRecDepth 100000 in
set_option maxHeartbeats 2000000 in
theorem rword_q (w : World) (g m c : Nat) (r : List Bool) (hr : r.length = 32) (h : ∀ (k : Nat) (x : Bool), r[k]? = some x → w.cell? ⟨g, m + k, none⟩ = some (.bool x)) :
    Calls Tryz.prog 84 #[.slice (some ⟨g, m, none⟩) 32 c] w (fun e W => e = .returned (.int .u32 (wordN r 32 : Nat)) ∧ w = W) := by
  have H := Lib.hid h
  have HR := Lib.hid hr
  clear h hr
  go_enter Tryz.func84, Tryz.ntmps84
  go_wp2_with fail
  go_loopg [3, 4] 32 (fun q n i wr => ∃ j : Nat, j + q = 32 ∧ i = .int .i64 (31 - (j : Int)) ∧ n = .int .u32 (wordN r j : Nat) ∧ w = wr)
  case atStart => exact ⟨0, by omega, rfl, rfl, rfl⟩
  case round =>
    obtain ⟨j, hj, rfl, rfl, rfl⟩ := hrel
    have HJ := Lib.hid hj
    clear hj
    by_cases hlt : j < 32
    · obtain ⟨i, hi⟩ : ∃ i : Nat, 31 - (j : Int) = (i : Int) := ⟨31 - j, by omega⟩
      have hx := List.getElem?_eq_getElem (l := r) (i := i) (by rw [HR.out]; omega)
      have cx := H.out _ _ hx
      have hij : 31 - j = i := by omega
      have HST : Hid (wordN r (j + 1) = 2 * wordN r j + (if r[i]'(by rw [HR.out]; omega) then 1 else 0)) := Lib.hid (by rw [wordN, hij, hx]; rfl)
      have hlw := wordN_lt r j
      have hp : 2 ^ j ≤ 2 ^ 31 := Nat.pow_le_pow_right (by omega) (by omega)
      have hn : wordN r j < 2147483648 := Nat.lt_of_lt_of_le hlw hp
      generalize r[i]'(by rw [HR.out]; omega) = x at *
      generalize wordN r j = n at *
      have i0 : (0 : Int) ≤ i := by omega
      have i1 : (i : Int) < 32 := by omega
      have HI : Hid ((i : Int) - 1 = 31 - ((j + 1 : Nat) : Int)) := Lib.hid (by omega)
      have n0 : (0 : Int) ≤ n := by omega
      have n1 : (n : Int) < 2147483648 := by omega
      have hmul : IntKind.u32.wrap (2 * (n : Int)) = 2 * (n : Int) := by rw [IntKind.wrap_u32]; omega
      have hadd : IntKind.u32.wrap (2 * (n : Int) + 1) = 2 * (n : Int) + 1 := by rw [IntKind.wrap_u32]; omega
      rw [hi]
      clear hx hlw hp hi hij
      cases x with
      | false =>
        have e := HST.out
        rw [if_neg (by simp), Nat.add_zero] at e
        have E := Lib.hid e
        clear e HST
        go_wp2_with fail
        go_roundg (gk - 1)
        case measure => have := HJ.out; omega
        case rel => exact ⟨j + 1, by have := HJ.out; omega, by rw [← HI.out], by rw [E.out]; simp, rfl⟩
      | true =>
        have e := HST.out
        rw [if_pos rfl] at e
        have E := Lib.hid e
        clear e HST
        go_wp2_with fail
        go_roundg (gk - 1)
        case measure => have := HJ.out; omega
        case rel => exact ⟨j + 1, by have := HJ.out; omega, by rw [← HI.out], by rw [E.out]; simp, rfl⟩
    · have hj32 : j = 32 := by have := HJ.out; omega
      subst hj32
      generalize hn : wordN r 32 = n
      have HN := Lib.hid hn
      clear hn
      go_wp2_with fail
      go_ret
      exact ⟨by rw [HN.out]; rfl, rfl⟩
end Go.Proofs.YtlojgelidcjeaaaGreatDoor
namespace Go.Proofs.YtlojgelidcjeaaaGreatDoor
open Go.RowKit Go.Proofs.YtlojgelidcjeaaaGreatDoorLib Go.WideElems Go.Maps
set_option linter.unusedSimpArgs false
set_option linter.unusedVariables false

theorem ofInt_nat32 (a : BitVec 32) : BitVec.ofInt 32 (a.toNat : Int) = a := by
  rw [BitVec.ofInt_natCast, BitVec.ofNat_toNat, BitVec.setWidth_eq]
theorem wrap_nat32 (a : BitVec 32) : IntKind.u32.wrap (a.toNat : Int) = a.toNat := by
  have := a.isLt
  rw [IntKind.wrap_u32]; omega
theorem xor32 (a b : BitVec 32) : bits .xor .u32 (a.toNat : Int) (b.toNat : Int) = ((a ^^^ b).toNat : Int) := by
  unfold bits
  show IntKind.u32.wrap (((BitVec.ofInt 32 (a.toNat : Int)) ^^^ (BitVec.ofInt 32 (b.toNat : Int))).toNat : Int) = _
  rw [ofInt_nat32, ofInt_nat32, wrap_nat32]
theorem and32 (a b : BitVec 32) : bits .and .u32 (a.toNat : Int) (b.toNat : Int) = ((a &&& b).toNat : Int) := by
  unfold bits
  show IntKind.u32.wrap (((BitVec.ofInt 32 (a.toNat : Int)) &&& (BitVec.ofInt 32 (b.toNat : Int))).toNat : Int) = _
  rw [ofInt_nat32, ofInt_nat32, wrap_nat32]
theorem and_one32 (a : BitVec 32) : a &&& 1#32 = bitV (a.getLsbD 0) := by
  apply BitVec.eq_of_getLsbD_eq
  intro k hk
  rw [BitVec.getLsbD_and, bitV_get]
  have e : (1#32).getLsbD k = decide (k = 0) := by
    simp
  rw [e]
  by_cases h : k = 0
  · subst h; cases a.getLsbD 0 <;> rfl
  · simp [h]
theorem timesM_eq (a : BitVec 32) : timesM (a.toNat : Int) = ((timesV a).toNat : Int) := by
  unfold timesM timesV
  have h1 : bits .and .u32 (a.toNat : Int) 1 = ((bitV (a.getLsbD 0)).toNat : Int) := by rw [← and_one32]; exact and32 a 1#32
  have h2 : ((a.toNat : Int) / (2 : Int)) = ((a >>> 1).toNat : Int) := by
    rw [BitVec.toNat_ushiftRight, Nat.shiftRight_eq_div_pow]
    rfl
  rw [h1, h2]
  cases a.getLsbD 0 with
  | false =>
    have e : bits .and .u32 3988292384 (-((bitV false).toNat : Int) % 4294967296) = ((0#32).toNat : Int) := by decide +kernel
    rw [e, xor32]
    rfl
  | true =>
    have e : bits .and .u32 3988292384 (-((bitV true).toNat : Int) % 4294967296) = (polyV.toNat : Int) := by decide +kernel
    rw [e, xor32]
    rfl
theorem timesN_eq (k : Nat) (a : BitVec 32) : timesN k (a.toNat : Int) = ((itV k a).toNat : Int) := by
  induction k with
  | zero => rfl
  | succ k ih => show timesM (timesN k _) = _; rw [ih, timesM_eq]; rfl
theorem crcB_eq (c : BitVec 32) (x : Nat) (hx : x < 256) : crcB (c.toNat : Int) (x : Int) = ((itV 8 (c ^^^ BitVec.ofNat 32 x)).toNat : Int) := by
  unfold crcB
  have e : (x : Int) = ((BitVec.ofNat 32 x).toNat : Int) := by rw [BitVec.toNat_ofNat, Nat.mod_eq_of_lt (by omega)]
  rw [e, xor32, timesN_eq]
theorem crcL_eq (l : List Int) (hB : Bts l) (c : BitVec 32) : crcL (c.toNat : Int) l = ((crcV c (l.map Int.toNat)).toNat : Int) := by
  induction l generalizing c with
  | nil => rfl
  | cons x l ih =>
    have hx := hB x List.mem_cons_self
    obtain ⟨n, rfl⟩ := Int.eq_ofNat_of_zero_le hx.1
    show crcL (crcB (c.toNat : Int) n) l = ((crcV (itV 8 (c ^^^ BitVec.ofNat 32 n)) (l.map Int.toNat)).toNat : Int)
    rw [crcB_eq c n (by omega)]
    exact ih (fun y hy => hB y (List.mem_cons_of_mem _ hy)) _
theorem sumM_eq (l : List Int) (hB : Bts l) : sumM l = ((crcV 4294967295#32 (l.map Int.toNat) ^^^ 4294967295#32).toNat : Int) := by
  unfold sumM
  have e1 : notM 0 = ((4294967295#32).toNat : Int) := by decide +kernel
  rw [e1, crcL_eq l hB]
  generalize crcV 4294967295#32 (l.map Int.toNat) = V
  show bits .xor .u32 ((4294967295#32).toNat : Int) (V.toNat : Int) = _
  rw [xor32, BitVec.xor_comm]
theorem sum_same (l : List Int) (hB : Bts l) (r : List Bool) (hr : r = inv32 ((divN (inv32 (bitsI l ++ List.replicate 32 false)) (8 * l.length)).drop (8 * l.length))) : ((wordN r 32 : Nat) : Int) = sumM l := by
  rw [sumM_eq l hB, sum_law (l.map Int.toNat) (fun x hx => by
    obtain ⟨y, hy, rfl⟩ := List.mem_map.1 hx
    have := hB y hy
    omega) r (by rw [List.length_map]; exact hr)]
set_option maxRecDepth 100000 in
set_option maxHeartbeats 4000000 in
theorem rsum_any (w : World) (v : Value) (b off : Nat) (l : List Int) (h : Sl .u8 w v b off l) (hB : Bts l) (hl : l.length ≤ 10000000) :
    Calls Tryz.prog 47 #[v] w (Post w [] fun r W => r = .int .u32 (sumM l)) := by
  have H := Lib.hid h
  have HB := Lib.hid hB
  have HL := Lib.hid hl
  obtain ⟨A, c, rfl⟩ := h.form
  obtain ⟨P, hP⟩ : ∃ P, P = bitsI l ++ List.replicate 32 false := ⟨_, rfl⟩
  have hPl : P.length = 8 * l.length + 32 := by rw [hP, List.length_append, bitsI_len, List.length_replicate]
  have HPL := Lib.hid hPl
  obtain ⟨m, hm⟩ : ∃ m, m = 8 * l.length := ⟨_, rfl⟩
  have HM := Lib.hid hm
  have hPm : P.length = m + 32 := by rw [hPl, hm]
  have HPM := Lib.hid hPm
  have HS := Lib.hid (sum_same l hB _ rfl)
  rw [← hP, ← hm] at HS
  have HP := Lib.hid hP
  have hm8 : m ≤ 80000000 := by omega
  clear h hB hP hPl hm hPm
  go_enter Tryz.func47, Tryz.ntmps47
  go_wp2_with fail
  (with_reducible refine (rbits_any w _ b off l H.out HB.out HL.out).mono ?_)
  rintro _ w1 ⟨_, rfl, hr1, k1⟩
  obtain ⟨A1, c1, rfl, _, _⟩ := hr1.form
  obtain ⟨v2, w2, hap, hr2, k2⟩ := bools_zeros hr1 32 (by rw [bitsI_len]; omega) k1.size
  rw [← HP.out] at hr2
  obtain ⟨g, c2, rfl, hc1, hc2, _, _⟩ := hr2.at (by intro e; have := HPM.out; rw [e] at this; simp at this)
  have hgw := hr2.lt g (by simp [Value.ownBlock])
  have K2 : Hid (Kept w w2 []) := Lib.hid (k1.trans k2 (fun g hg => .inr (by simp only [Option.mem_toList] at hg; exact (hr1.lt g hg).1)))
  have hv : Value.slice (some ⟨g, 0, none⟩) P.length c2 = .slice (some ⟨g, 0, none⟩) (m + 32) c2 := by rw [HPM.out]
  rw [hv] at hap hr2
  have HAP := Lib.hid (show (Builtin.append_ #[108, 3] 108 #[.slice A1 (bitsI l).length c1, .int .i64 32]).run Tryz.prog w1 = _ from hap)
  have HR2 : Hid (RowB w2 w.heap.size (.slice (some ⟨g, 0, none⟩) (m + 32) c2) (invK 0 0 P)) := Lib.hid (by rw [invK_zero]; exact hr2)
  have HGW := Lib.hid hgw
  have HV : Hid (∀ W base L', L'.length = m + 32 → (RowB W base (Value.slice (some ⟨g, 0, none⟩) (m + 32) c2) L' → (∀ (i : Nat) (x : Bool), L'[i]? = some x → W.cell? ⟨g, i, none⟩ = some (.bool x)) ∧ (∀ i, W.frozen? ⟨g, i, none⟩ = false))) := Lib.hid (fun W base L' hl' hr => by
    obtain ⟨g2, c2, e, _, _, h3, h4⟩ := hr.at (by intro e; rw [e] at hl'; simp at hl')
    simp only [Value.slice.injEq, Option.some.injEq, Addr.mk.injEq, and_true] at e
    obtain ⟨rfl, _, _⟩ := e
    exact ⟨h3, h4⟩)
  have hmi : (m : Int) ≤ 80000000 := by omega
  have hm0 : (0 : Int) ≤ m := by omega
  rw [HPM.out] at hc1
  have HC2 := Lib.hid hc2
  clear hap hr1 hr2 k1 k2 hgw hv hc2
  generalize (bitsI l).length = nb at *
  go_wp2_with (first | (at_builtin; refine Go.Lib.wpList_append_run _ rfl _ _ _ _ rfl _ _ rfl rfl _ _ HAP.out ?_))
  go_loopg [4] 32 (fun q i wr => ∃ k : Nat, k + q = 32 ∧ i = .int .i64 k ∧ RowB wr w.heap.size (.slice (some ⟨g, 0, none⟩) (m + 32) c2) (invK 0 k P) ∧ Kept w wr [])
  case atStart => exact ⟨0, by omega, rfl, HR2.out, K2.out⟩
  case round =>
    obtain ⟨k, hk, rfl, hrow, hkept⟩ := hrel
    have HK := Lib.hid hk
    have HKE := Lib.hid hkept
    have HRO := Lib.hid hrow
    clear hk hkept hrow
    by_cases hlt : k < 32
    · have k0 : (0 : Int) ≤ k := by omega
      have k1 : (k : Int) < 32 := by omega
      have k2 : (k : Int) < ((m + 32 : Nat) : Int) := by omega
      have k3 : k < m + 32 := by omega
      have hl' : (invK 0 k P).length = m + 32 := by rw [invK_len]; exact HPM.out
      have hx := List.getElem?_eq_getElem (l := invK 0 k P) (i := k) (by omega)
      have hstep := invK_step 0 k P
      rw [Nat.zero_add] at hstep
      generalize (invK 0 k P)[k]'(by omega) = x at *
      have hcells := (HV.out _ _ _ hl') HRO.out
      have cx := hcells.1 _ _ hx
      have fx := hcells.2 k
      have hrn : RowB (wr.setCell ⟨g, k, none⟩ (.bool !x)) w.heap.size (.slice (some ⟨g, 0, none⟩) (m + 32) c2) (invK 0 (k + 1) P) := by
        have := HRO.out.flip (g := g) (by simp [Value.ownBlock]) hx
        rw [hstep] at this
        unfold RowB at this ⊢
        rw [invK_len] at this ⊢
        exact this
      have HRN := Lib.hid hrn
      have KN : Hid (Kept w (wr.setCell ⟨g, k, none⟩ (.bool !x)) []) := Lib.hid (HKE.out.setCell (.inr HGW.out.1) _)
      clear hrn hcells hx hstep hl'
      go_wp2_with fail
      go_roundg (gk - 1)
      case measure => have := HK.out; omega
      case rel => exact ⟨k + 1, by have := HK.out; omega, by go_num, HRN.out, KN.out⟩
    · have hk32 : k = 32 := by have := HK.out; omega
      subst hk32
      clear hlt
      have hr3 : RowB wr w.heap.size (.slice (some ⟨g, 0, none⟩) (m + 32) c2) (inv32 P) := by have := HRO.out; rw [invK_32] at this; exact this
      have hP3 : (inv32 P).length = m + 32 := by rw [inv32_len]; exact HPM.out
      have hown : (Value.slice (some ⟨g, 0, none⟩) (m + 32) c2).ownBlock.toList = [g] := rfl
      have HR3 := Lib.hid hr3
      have HP3 := Lib.hid hP3
      clear hr3 hP3 hown
      go_wp2_with fail
      (with_reducible refine (rleft_any _ _ _ (inv32 P) HR3.out (by rw [HP3.out]; omega) (by rw [HP3.out]; omega)).mono ?_)
      rintro _ w4 ⟨_, rfl, ⟨g', c4, hg', rfl, h4, h4', hr4⟩, k4⟩
      obtain rfl : g = g' := by simp [Value.ownBlock] at hg'; exact hg'
      rw [HP3.out, Nat.add_sub_cancel] at hr4 ⊢
      have K4 : Hid (Kept w w4 []) := Lib.hid (HKE.out.trans k4 (fun q hq => .inr (by simp [Value.ownBlock] at hq; subst hq; exact HGW.out.1)))
      obtain ⟨R, hR⟩ : ∃ R, R = divN (inv32 P) m := ⟨_, rfl⟩
      have hRl : R.length = m + 32 := by rw [hR, divN_len]; exact HP3.out
      have HS2 : Hid ((wordN (inv32 (R.drop m)) 32 : Nat) = sumM l) := Lib.hid (by rw [hR]; exact HS.out)
      have HR4 : Hid (RowB w4 w.heap.size (.slice (some ⟨g, 0, none⟩) (m + 32) c2) (invK m 0 R)) := Lib.hid (by rw [invK_zero, hR]; exact hr4)
      have HRL := Lib.hid hRl
      have hc4 : (c4 : Int) ≤ 9223372036854775807 := by unfold maxLen at h4'; omega
      have HC4 := Lib.hid h4
      clear hr4 k4 hR hRl hg' h4' h4
      go_wp2_with fail
      go_loopg [6] 32 (fun q i wr => ∃ k : Nat, k + q = 32 ∧ i = .int .i64 k ∧ RowB wr w.heap.size (.slice (some ⟨g, 0, none⟩) (m + 32) c2) (invK m k R) ∧ Kept w wr [])
      case atStart => exact ⟨0, by omega, rfl, HR4.out, K4.out⟩
      case round =>
        obtain ⟨k, hk, rfl, hrow, hkept⟩ := hrel
        have HK := Lib.hid hk
        have HKE := Lib.hid hkept
        have HRO := Lib.hid hrow
        clear hk hkept hrow
        by_cases hlt : k < 32
        · have k0 : (0 : Int) ≤ k := by omega
          have k1 : (k : Int) < 32 := by omega
          have hl' : (invK m k R).length = m + 32 := by rw [invK_len]; exact HRL.out
          have hx := List.getElem?_eq_getElem (l := invK m k R) (i := m + k) (by omega)
          have hstep := invK_step m k R
          generalize (invK m k R)[m + k]'(by omega) = x at *
          have hcells := (HV.out _ _ _ hl') HRO.out
          have cx := hcells.1 _ _ hx
          have fx := hcells.2 (m + k)
          have hrn : RowB (wr.setCell ⟨g, m + k, none⟩ (.bool !x)) w.heap.size (.slice (some ⟨g, 0, none⟩) (m + 32) c2) (invK m (k + 1) R) := by
            have := HRO.out.flip (g := g) (by simp [Value.ownBlock]) hx
            rw [hstep] at this
            unfold RowB at this ⊢
            rw [invK_len] at this ⊢
            exact this
          have HRN := Lib.hid hrn
          have KN : Hid (Kept w (wr.setCell ⟨g, m + k, none⟩ (.bool !x)) []) := Lib.hid (HKE.out.setCell (.inr HGW.out.1) _)
          clear hrn hcells hx hstep hl'
          go_wp2_with fail
          go_roundg (gk - 1)
          case measure => have := HK.out; omega
          case rel => exact ⟨k + 1, by have := HK.out; omega, by go_num, HRN.out, KN.out⟩
        · have hk32 : k = 32 := by have := HK.out; omega
          subst hk32
          clear hlt
          have hl' : (invK m 32 R).length = m + 32 := by rw [invK_len]; exact HRL.out
          have hcells := (HV.out _ _ _ hl') HRO.out
          have hw := rword_q wr g m c4 (inv32 (R.drop m)) (by rw [inv32_len, List.length_drop, HRL.out]; omega) (fun k x hx => by
            rw [← invK_drop, List.getElem?_drop] at hx
            exact hcells.1 _ _ hx)
          have HW := Lib.hid hw
          clear hl' hcells hw
          go_wp2_with fail
          (with_reducible refine HW.out.mono ?_)
          rintro _ _ ⟨rfl, rfl⟩
          rw [HS2.out]
          clear HS2 HW HS
          go_wp2_with fail
          go_ret
          exact ⟨_, rfl, rfl, HKE.out⟩
end Go.Proofs.YtlojgelidcjeaaaGreatDoor
