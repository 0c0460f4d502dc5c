/- PROVED: the contracts of head's lay and take. No conditions beyond those that each theorem states. -/
import Derived.Test.YtcikhnkehglkgaaGreatDoorClo
import Derived.Test.YtcikhnkehglkgaaGreatDoorRw
import Derived.Test.YtcikhnkehglkgaaGreatDoorSlC
namespace Go.Proofs.YtcikhnkehglkgaaGreatDoor
open Go.RowKit Go.Proofs.YtcikhnkehglkgaaGreatDoorLib
set_option linter.unusedSimpArgs false
set_option linter.unusedVariables false

/-- a number without its lowest bytes -/
def shrM (n : Int) : Nat → Int
  | 0 => n
  | m + 1 => shrM n m / 256
/-- its bytes, the lowest first -/
def layM (n : Int) : Nat → List Int
  | 0 => []
  | m + 1 => layM n m ++ [shrM n m % 256]
/-- the number of bytes -/
def takeM : List Int → Int
  | [] => 0
  | x :: l => x + 256 * takeM l
theorem shrM_bd (n : Int) (m : Nat) (h : 0 ≤ n) : 0 ≤ shrM n m ∧ shrM n m ≤ n := by
  induction m with
  | zero => exact ⟨h, Int.le_refl _⟩
  | succ m ih => rw [shrM]; omega
theorem layM_len (n : Int) (m : Nat) : (layM n m).length = m := by
  induction m with
  | zero => rfl
  | succ m ih => rw [layM]; simp [ih]
theorem layM_bts (n : Int) (m : Nat) : Bts (layM n m) := by
  induction m with
  | zero => exact Bts.nil
  | succ m ih => rw [layM]; exact ih.append (by intro x hx; simp at hx; omega)
theorem takeM_append (l m : List Int) : takeM (l ++ m) = takeM l + 256 ^ l.length * takeM m := by
  induction l with
  | nil => simp [takeM]
  | cons a l ih => simp only [List.cons_append, takeM, ih, List.length_cons, Int.pow_succ]; rw [Int.mul_add, Int.mul_comm (256 ^ l.length) 256, Int.mul_assoc]; omega
theorem takeM_bd (l : List Int) (h : Bts l) : 0 ≤ takeM l ∧ takeM l < 256 ^ l.length := by
  induction l with
  | nil => simp [takeM]
  | cons a l ih =>
    have h1 := h a (by simp)
    have h2 := ih (fun x hx => h x (by simp [hx]))
    simp only [takeM, List.length_cons, Int.pow_succ]
    omega
theorem shrM_take (n : Int) (m : Nat) : n = takeM (layM n m) + 256 ^ m * shrM n m := by
  induction m with
  | zero => simp [layM, takeM, shrM]
  | succ m ih =>
    rw [layM, takeM_append, layM_len, shrM, Int.pow_succ]
    simp only [takeM, Int.mul_zero, Int.add_zero]
    have e : shrM n m = shrM n m % 256 + 256 * (shrM n m / 256) := by omega
    conv => lhs; rw [ih, e]
    rw [Int.mul_add, Int.mul_assoc]
    omega
theorem shrM_zero (n : Int) (m : Nat) (h : 0 ≤ n) (hn : n < 256 ^ m) : shrM n m = 0 := by
  have h1 := shrM_take n m
  have h2 := takeM_bd (layM n m) (layM_bts n m)
  have h3 := (shrM_bd n m h).1
  by_cases h4 : shrM n m = 0
  · exact h4
  · have h5 : (256 : Int) ^ m * 1 ≤ 256 ^ m * shrM n m := Int.mul_le_mul_of_nonneg_left (by omega) (Int.le_of_lt (Int.pow_pos (by decide)))
    omega
theorem take_lay (n : Int) (m : Nat) (h : 0 ≤ n) (hn : n < 256 ^ m) : takeM (layM n m) = n := by
  have h1 := shrM_take n m
  rw [shrM_zero n m h hn] at h1
  omega
theorem takeM_drop (l : List Int) (m : Nat) (x : Int) (hx : l[m]? = some x) : takeM (l.drop m) = x + 256 * takeM (l.drop (m + 1)) := by
  have hlt := (List.getElem?_eq_some_iff.1 hx).1
  have he := (List.getElem?_eq_some_iff.1 hx).2
  rw [List.drop_eq_getElem_cons hlt, he]
  rfl
theorem pow256_le {a b : Nat} (h : a ≤ b) : (256 : Int) ^ a ≤ 256 ^ b := by
  have := Nat.pow_le_pow_right (n := 256) (by omega) h
  have h2 := Int.ofNat_le.2 this
  rw [Int.natCast_pow, Int.natCast_pow] at h2
  exact h2
def KeptB (base : Nat) (w W : World) : Prop := ∃ S, (∀ g, g ∈ S → base ≤ g) ∧ Kept w W S
theorem KeptB.refl (base : Nat) (w : World) : KeptB base w w := ⟨[], by simp, Kept.refl _ _⟩
theorem KeptB.size {base : Nat} {w W : World} (h : KeptB base w W) : w.heap.size ≤ W.heap.size := let ⟨_, _, h⟩ := h; h.size
theorem KeptB.trans {base : Nat} {w W X : World} (h : KeptB base w W) (k : KeptB base W X) : KeptB base w X := by
  obtain ⟨S, h1, h2⟩ := h
  obtain ⟨T, k1, k2⟩ := k
  exact ⟨S ++ T, fun g hg => by rcases List.mem_append.1 hg with h | h; exact h1 g h; exact k1 g h, (h2.mono (fun b hb => .inl (by simp [hb]))).trans k2 (fun b hb => .inl (by simp [hb]))⟩
theorem KeptB.of {base : Nat} {w W : World} {S : List Nat} (h : Kept w W S) (hS : ∀ g, g ∈ S → base ≤ g) : KeptB base w W := ⟨S, hS, h⟩
theorem KeptB.kept {base : Nat} {w W w0 : World} (h : KeptB base w W) (hb : w0.heap.size ≤ base) (k : Kept w0 w []) : Kept w0 W [] := by
  obtain ⟨S, h1, h2⟩ := h
  exact k.trans h2 (fun b hb' => .inr (Nat.le_trans hb (h1 b hb')))
theorem or_byte32 (n x : Int) (h0 : 0 ≤ n) (h1 : n < 16777216) (x0 : 0 ≤ x) (x1 : x ≤ 255) : bits .or .u32 (n * 256) x = x + 256 * n := by
  obtain ⟨a, rfl⟩ := Int.eq_ofNat_of_zero_le h0
  obtain ⟨b, rfl⟩ := Int.eq_ofNat_of_zero_le x0
  have hb : b < 2 ^ 8 := by omega
  have ho := Nat.shiftLeft_add_eq_or_of_lt hb a
  rw [Nat.shiftLeft_eq] at ho
  have e : (a : Int) * 256 = ((a * 2 ^ 8 : Nat) : Int) := by simp
  have h2 : (a * 2 ^ 8) % 2 ^ IntKind.u32.bits = a * 2 ^ 8 := Nat.mod_eq_of_lt (show a * 2 ^ 8 < 2 ^ 32 by omega)
  have h3 : b % 2 ^ IntKind.u32.bits = b := Nat.mod_eq_of_lt (show b < 2 ^ 32 by omega)
  rw [e]
  simp only [bits, BitVec.ofInt_natCast, BitVec.toNat_or, BitVec.toNat_ofNat, h2, h3]
  rw [← ho, IntKind.wrap_u32]
  omega
theorem or_byte64 (n x : Int) (h0 : 0 ≤ n) (h1 : n < 72057594037927936) (x0 : 0 ≤ x) (x1 : x ≤ 255) : bits .or .u64 (n * 256) x = x + 256 * n := by
  obtain ⟨a, rfl⟩ := Int.eq_ofNat_of_zero_le h0
  obtain ⟨b, rfl⟩ := Int.eq_ofNat_of_zero_le x0
  have hb : b < 2 ^ 8 := by omega
  have ho := Nat.shiftLeft_add_eq_or_of_lt hb a
  rw [Nat.shiftLeft_eq] at ho
  have e : (a : Int) * 256 = ((a * 2 ^ 8 : Nat) : Int) := by simp
  have h2 : (a * 2 ^ 8) % 2 ^ IntKind.u64.bits = a * 2 ^ 8 := Nat.mod_eq_of_lt (show a * 2 ^ 8 < 2 ^ 64 by omega)
  have h3 : b % 2 ^ IntKind.u64.bits = b := Nat.mod_eq_of_lt (show b < 2 ^ 64 by omega)
  rw [e]
  simp only [bits, BitVec.ofInt_natCast, BitVec.toNat_or, BitVec.toNat_ofNat, h2, h3]
  rw [← ho, IntKind.wrap_u64]
  omega
set_option maxRecDepth 100000 in
set_option maxHeartbeats 2000000 in
theorem take32_q (w : World) (v : Value) (b off : Nat) (l : List Int) (h : Sl .u8 w v b off l) (hB : Bts l) (hl : l.length ≤ 4) :
    Calls Tryz.prog 115 #[v] w (fun e W => e = .returned (.int .u32 (takeM l)) ∧ w = W) := by
  obtain ⟨A1, c1, e1⟩ := h.form
  subst e1
  have H1 := Lib.hid h
  have HB := Lib.hid hB
  clear h hB
  have l0 : (0 : Int) ≤ l.length := by omega
  have l1 : (l.length : Int) ≤ 4 := by omega
  go_enter Tryz.func115, Tryz.ntmps115
  go_wp2_with fail
  go_loopg [3, 4] l.length (fun g i j wr => g ≤ l.length ∧ j = .int .i64 ((g : Int) - 1) ∧ i = .int .u32 (takeM (l.drop g)) ∧ w = wr)
  case atStart => exact ⟨Nat.le_refl _, rfl, by rw [List.drop_length]; rfl, rfl⟩
  case round =>
    obtain ⟨hk, rfl, rfl, rfl⟩ := hrel
    have HK := Lib.hid hk
    clear hk
    by_cases hz : gk = 0
    · subst hz
      have t1 : decide ((0 : Int) ≤ -1) = false := by decide
      have hd : l.drop 0 = l := rfl
      rw [hd]
      clear hd
      go_wp2_with fail
      go_ret
      exact ⟨rfl, rfl⟩
    · obtain ⟨k, rfl⟩ : ∃ k, gk = k + 1 := ⟨gk - 1, by omega⟩
      have hlt : k < l.length := by have := HK.out; omega
      have hx := List.getElem?_eq_getElem hlt
      generalize l[k] = x at hx
      have g1 := H1.out.at (by intro e; rw [e] at hlt; simp at hlt)
      obtain ⟨c1', g1⟩ := g1
      simp only [Value.slice.injEq] at g1
      obtain ⟨rfl, _, rfl⟩ := g1
      have d1 := H1.out.cell hx
      have k0 : (0 : Int) ≤ k := by omega
      have k1 : (k : Int) < l.length := by omega
      have hxb := HB.out.get hx
      have hx0 := hxb.1
      have hx1 := hxb.2
      have HT := takeM_drop l k x hx
      have hbd := takeM_bd (l.drop (k + 1)) (HB.out.drop _)
      have hle : takeM (l.drop (k + 1)) < 16777216 := by
        have h1 := hbd.2
        have h2 : (l.drop (k + 1)).length ≤ 3 := by rw [List.length_drop]; omega
        have h3 : (256 : Int) ^ (l.drop (k + 1)).length ≤ 256 ^ 3 := pow256_le h2
        have h4 : (256 : Int) ^ 3 = 16777216 := by decide
        omega
      have hge := hbd.1
      have HO := Lib.hid (And.intro ((or_byte32 _ x hge hle hx0 hx1).trans HT.symm) trivial)
      generalize takeM (l.drop (k + 1)) = c at *
      have hxw : IntKind.u32.wrap x = x := by rw [IntKind.wrap_u32]; omega
      have hcw : IntKind.u32.wrap (c * 256) = c * 256 := by rw [IntKind.wrap_u32]; omega
      have e0 : (((k + 1 : Nat)) : Int) - 1 = k := by omega
      have hdd : decide ((0 : Int) ≤ k) = true := by simp
      rw [e0]
      clear hxb hx HT hbd hz
      go_wp2_with fail
      go_roundg k
      case measure => omega
      case rel => exact ⟨by have := HK.out; omega, by go_num, by first | rw [← HO.out.1] | (rw [← HO.out.1]; rfl), rfl⟩
set_option maxRecDepth 100000 in
set_option maxHeartbeats 4000000 in
theorem lay32_any (w : World) (base : Nat) (hbase : base ≤ w.heap.size) (v : Value) (l : List Int) (n : Int) (k : Nat) (h : Own 5 .u8 w base v l) (hl : l.length ≤ 1000) (hk : k ≤ 8) (h0 : 0 ≤ n) (h1 : n ≤ 4294967295) :
    Calls Tryz.prog 134 #[v, .int .u32 n, .int .i64 k] w (fun e W => ∃ r, e = .returned r ∧ Own 5 .u8 W base r (l ++ layM n k) ∧ KeptB base w W) := by
  obtain ⟨i0, hi, hz0, hz1, hz2⟩ := info_parts info8
  have HI := Lib.hid hi
  have HZ0 := Lib.hid hz0
  have HZ1 := Lib.hid hz1
  have HZ2 := Lib.hid hz2
  clear hi hz0 hz1 hz2
  have H := Lib.hid h
  have HBA := Lib.hid hbase
  have l0 : (0 : Int) ≤ k := by omega
  have l1 : (k : Int) ≤ 8 := by omega
  clear h hbase
  go_enter Tryz.func134, Tryz.ntmps134
  go_wp2_with fail
  go_loopg [0, 1, 8] k (fun g vv nn i wr => ∃ m : Nat, m + g = k ∧ i = .int .i64 m ∧ nn = .int .u32 (shrM n m) ∧ Own 5 .u8 wr base vv (l ++ layM n m) ∧ KeptB base w wr)
  case atStart => exact ⟨0, by omega, rfl, rfl, by rw [show layM n 0 = [] from rfl, List.append_nil]; exact H.out, KeptB.refl _ _⟩
  case round =>
    obtain ⟨m, hm, rfl, rfl, hrow, hkept⟩ := hrel
    obtain ⟨bw, hsl, _⟩ := hrow.sl
    obtain ⟨Aw, cw, rfl⟩ := hsl.form
    have HM := Lib.hid hm
    have HKE := Lib.hid hkept
    have HRO := Lib.hid hrow
    clear hm hkept hrow hsl
    have hsb := shrM_bd n m h0
    by_cases hlt : m < k
    · have m0 : (0 : Int) ≤ m := by omega
      have m1 : (m : Int) < k := by omega
      have HS := Lib.hid (And.intro (show shrM n (m + 1) = shrM n m / 256 from rfl) (show l ++ layM n (m + 1) = (l ++ layM n m) ++ [shrM n m % 256] by rw [layM, List.append_assoc]))
      have hll : (l ++ layM n m).length ≤ 1010 := by rw [List.length_append, layM_len]; omega
      generalize l ++ layM n m = L at *
      generalize shrM n m = s at *
      obtain ⟨s0, s1⟩ := hsb
      have hb2 := Blk.new wr 5 [.int .u8 (s % 256)]
      have ho2 : Own 5 .u8 (wr.alloc (.cells #[.int .u8 (s % 256)] 5)) base (.slice Aw L.length cw) L := HRO.out.alloc _
      obtain ⟨v7, w7, hap, ho7, k7⟩ := own_append (P := Tryz.prog) Tryz.underlying27 HI.out HZ0.out HZ1.out HZ2.out ho2 (Sl.of_blk (k := .u8) [s % 256] hb2 rfl 1 (Nat.le_refl _) (by unfold maxLen; omega)) (by simp; omega) (by unfold maxLen; simp; omega) (by have := HKE.out.size; have := HBA.out; simp; omega) 27
      have HAP := Lib.hid hap
      rw [← HS.out.2] at ho7
      have HO7 := Lib.hid ho7
      have K7 : Hid (KeptB base w w7) := Lib.hid ((HKE.out.trans (KeptB.of ((Kept.refl wr []).alloc _) (by simp))).trans (KeptB.of k7 (fun g hg => by simp only [Option.mem_toList] at hg; exact (HRO.out.lt g hg).1)))
      clear hb2 ho2 hap ho7 k7
      have hcv : IntKind.u8.wrap s = s % 256 := by rw [IntKind.wrap_u8]
      go_wp2_with (first | (at_builtin; refine wpList_append_run rfl _ _ _ rfl rfl rfl HAP.out ?_))
      go_roundg (gk - 1)
      case measure => have := HM.out; omega
      case rel => exact ⟨m + 1, by have := HM.out; omega, by go_num, by rw [HS.out.1], HO7.out, K7.out⟩
    · have hkn : m = k := by have := HM.out; omega
      clear hlt hsb
      subst hkn
      go_wp2_with fail
      go_ret
      exact ⟨_, rfl, HRO.out, HKE.out⟩
set_option maxRecDepth 100000 in
set_option maxHeartbeats 2000000 in
theorem take64_q (w : World) (v : Value) (b off : Nat) (l : List Int) (h : Sl .u8 w v b off l) (hB : Bts l) (hl : l.length ≤ 8) :
    Calls Tryz.prog 116 #[v] w (fun e W => e = .returned (.int .u64 (takeM l)) ∧ w = W) := by
  obtain ⟨A1, c1, e1⟩ := h.form
  subst e1
  have H1 := Lib.hid h
  have HB := Lib.hid hB
  clear h hB
  have l0 : (0 : Int) ≤ l.length := by omega
  have l1 : (l.length : Int) ≤ 8 := by omega
  go_enter Tryz.func116, Tryz.ntmps116
  go_wp2_with fail
  go_loopg [3, 4] l.length (fun g i j wr => g ≤ l.length ∧ j = .int .i64 ((g : Int) - 1) ∧ i = .int .u64 (takeM (l.drop g)) ∧ w = wr)
  case atStart => exact ⟨Nat.le_refl _, rfl, by rw [List.drop_length]; rfl, rfl⟩
  case round =>
    obtain ⟨hk, rfl, rfl, rfl⟩ := hrel
    have HK := Lib.hid hk
    clear hk
    by_cases hz : gk = 0
    · subst hz
      have t1 : decide ((0 : Int) ≤ -1) = false := by decide
      have hd : l.drop 0 = l := rfl
      rw [hd]
      clear hd
      go_wp2_with fail
      go_ret
      exact ⟨rfl, rfl⟩
    · obtain ⟨k, rfl⟩ : ∃ k, gk = k + 1 := ⟨gk - 1, by omega⟩
      have hlt : k < l.length := by have := HK.out; omega
      have hx := List.getElem?_eq_getElem hlt
      generalize l[k] = x at hx
      have g1 := H1.out.at (by intro e; rw [e] at hlt; simp at hlt)
      obtain ⟨c1', g1⟩ := g1
      simp only [Value.slice.injEq] at g1
      obtain ⟨rfl, _, rfl⟩ := g1
      have d1 := H1.out.cell hx
      have k0 : (0 : Int) ≤ k := by omega
      have k1 : (k : Int) < l.length := by omega
      have hxb := HB.out.get hx
      have hx0 := hxb.1
      have hx1 := hxb.2
      have HT := takeM_drop l k x hx
      have hbd := takeM_bd (l.drop (k + 1)) (HB.out.drop _)
      have hle : takeM (l.drop (k + 1)) < 72057594037927936 := by
        have h1 := hbd.2
        have h2 : (l.drop (k + 1)).length ≤ 7 := by rw [List.length_drop]; omega
        have h3 : (256 : Int) ^ (l.drop (k + 1)).length ≤ 256 ^ 7 := pow256_le h2
        have h4 : (256 : Int) ^ 7 = 72057594037927936 := by decide
        omega
      have hge := hbd.1
      have HO := Lib.hid (And.intro ((or_byte64 _ x hge hle hx0 hx1).trans HT.symm) trivial)
      generalize takeM (l.drop (k + 1)) = c at *
      have hxw : IntKind.u64.wrap x = x := by rw [IntKind.wrap_u64]; omega
      have hcw : IntKind.u64.wrap (c * 256) = c * 256 := by rw [IntKind.wrap_u64]; omega
      have e0 : (((k + 1 : Nat)) : Int) - 1 = k := by omega
      have hdd : decide ((0 : Int) ≤ k) = true := by simp
      rw [e0]
      clear hxb hx HT hbd hz
      go_wp2_with fail
      go_roundg k
      case measure => omega
      case rel => exact ⟨by have := HK.out; omega, by go_num, by first | rw [← HO.out.1] | (rw [← HO.out.1]; rfl), rfl⟩
set_option maxRecDepth 100000 in
set_option maxHeartbeats 4000000 in
theorem lay64_any (w : World) (base : Nat) (hbase : base ≤ w.heap.size) (v : Value) (l : List Int) (n : Int) (k : Nat) (h : Own 5 .u8 w base v l) (hl : l.length ≤ 1000) (hk : k ≤ 8) (h0 : 0 ≤ n) (h1 : n ≤ 18446744073709551615) :
    Calls Tryz.prog 135 #[v, .int .u64 n, .int .i64 k] w (fun e W => ∃ r, e = .returned r ∧ Own 5 .u8 W base r (l ++ layM n k) ∧ KeptB base w W) := by
  obtain ⟨i0, hi, hz0, hz1, hz2⟩ := info_parts info8
  have HI := Lib.hid hi
  have HZ0 := Lib.hid hz0
  have HZ1 := Lib.hid hz1
  have HZ2 := Lib.hid hz2
  clear hi hz0 hz1 hz2
  have H := Lib.hid h
  have HBA := Lib.hid hbase
  have l0 : (0 : Int) ≤ k := by omega
  have l1 : (k : Int) ≤ 8 := by omega
  clear h hbase
  go_enter Tryz.func135, Tryz.ntmps135
  go_wp2_with fail
  go_loopg [0, 1, 8] k (fun g vv nn i wr => ∃ m : Nat, m + g = k ∧ i = .int .i64 m ∧ nn = .int .u64 (shrM n m) ∧ Own 5 .u8 wr base vv (l ++ layM n m) ∧ KeptB base w wr)
  case atStart => exact ⟨0, by omega, rfl, rfl, by rw [show layM n 0 = [] from rfl, List.append_nil]; exact H.out, KeptB.refl _ _⟩
  case round =>
    obtain ⟨m, hm, rfl, rfl, hrow, hkept⟩ := hrel
    obtain ⟨bw, hsl, _⟩ := hrow.sl
    obtain ⟨Aw, cw, rfl⟩ := hsl.form
    have HM := Lib.hid hm
    have HKE := Lib.hid hkept
    have HRO := Lib.hid hrow
    clear hm hkept hrow hsl
    have hsb := shrM_bd n m h0
    by_cases hlt : m < k
    · have m0 : (0 : Int) ≤ m := by omega
      have m1 : (m : Int) < k := by omega
      have HS := Lib.hid (And.intro (show shrM n (m + 1) = shrM n m / 256 from rfl) (show l ++ layM n (m + 1) = (l ++ layM n m) ++ [shrM n m % 256] by rw [layM, List.append_assoc]))
      have hll : (l ++ layM n m).length ≤ 1010 := by rw [List.length_append, layM_len]; omega
      generalize l ++ layM n m = L at *
      generalize shrM n m = s at *
      obtain ⟨s0, s1⟩ := hsb
      have hb2 := Blk.new wr 5 [.int .u8 (s % 256)]
      have ho2 : Own 5 .u8 (wr.alloc (.cells #[.int .u8 (s % 256)] 5)) base (.slice Aw L.length cw) L := HRO.out.alloc _
      obtain ⟨v7, w7, hap, ho7, k7⟩ := own_append (P := Tryz.prog) Tryz.underlying27 HI.out HZ0.out HZ1.out HZ2.out ho2 (Sl.of_blk (k := .u8) [s % 256] hb2 rfl 1 (Nat.le_refl _) (by unfold maxLen; omega)) (by simp; omega) (by unfold maxLen; simp; omega) (by have := HKE.out.size; have := HBA.out; simp; omega) 27
      have HAP := Lib.hid hap
      rw [← HS.out.2] at ho7
      have HO7 := Lib.hid ho7
      have K7 : Hid (KeptB base w w7) := Lib.hid ((HKE.out.trans (KeptB.of ((Kept.refl wr []).alloc _) (by simp))).trans (KeptB.of k7 (fun g hg => by simp only [Option.mem_toList] at hg; exact (HRO.out.lt g hg).1)))
      clear hb2 ho2 hap ho7 k7
      have hcv : IntKind.u8.wrap s = s % 256 := by rw [IntKind.wrap_u8]
      go_wp2_with (first | (at_builtin; refine wpList_append_run rfl _ _ _ rfl rfl rfl HAP.out ?_))
      go_roundg (gk - 1)
      case measure => have := HM.out; omega
      case rel => exact ⟨m + 1, by have := HM.out; omega, by go_num, by rw [HS.out.1], HO7.out, K7.out⟩
    · have hkn : m = k := by have := HM.out; omega
      clear hlt hsb
      subst hkn
      go_wp2_with fail
      go_ret
      exact ⟨_, rfl, HRO.out, HKE.out⟩
end Go.Proofs.YtcikhnkehglkgaaGreatDoor
