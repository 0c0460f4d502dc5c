/- PROVED: the contracts of crc. No conditions beyond those that each theorem states. -/
import Derived.Test.YtcikhnkehglkgaaGreatDoorProg
import Derived.Test.YtcikhnkehglkgaaGreatDoorBy
namespace Go.Proofs.YtcikhnkehglkgaaGreatDoor
open Go.RowKit Go.Proofs.YtcikhnkehglkgaaGreatDoorLib
set_option linter.unusedSimpArgs false
set_option linter.unusedVariables false

def timesM (a : Int) : Int := bits .xor .u32 (a / 2) (bits .and .u32 3988292384 (-bits .and .u32 a 1 % 4294967296))
def timesN : Nat → Int → Int
  | 0, a => a
  | k + 1, a => timesM (timesN k a)
def crcB (s x : Int) : Int := timesN 8 (bits .xor .u32 s x)
def crcL (s : Int) (l : List Int) : Int := l.foldl crcB s
theorem bits_u32 (op : BinOp) (x y : Int) : 0 ≤ bits op .u32 x y ∧ bits op .u32 x y ≤ 4294967295 := by
  unfold bits; rw [IntKind.wrap_u32]; omega
def notM (s : Int) : Int := bits .xor .u32 IntKind.u32.max s
theorem notM_u32 (s : Int) : 0 ≤ notM s ∧ notM s ≤ 4294967295 := bits_u32 _ _ _
theorem timesM_u32 (a : Int) : 0 ≤ timesM a ∧ timesM a ≤ 4294967295 := bits_u32 _ _ _
theorem timesN_u32 (k : Nat) (a : Int) (h : 0 ≤ a ∧ a ≤ 4294967295) : 0 ≤ timesN k a ∧ timesN k a ≤ 4294967295 := by
  cases k with
  | zero => exact h
  | succ k => exact timesM_u32 _
theorem crcB_u32 (s x : Int) : 0 ≤ crcB s x ∧ crcB s x ≤ 4294967295 := timesN_u32 8 _ (bits_u32 _ _ _)
theorem crcL_u32 (s : Int) (l : List Int) (h : 0 ≤ s ∧ s ≤ 4294967295) : 0 ≤ crcL s l ∧ crcL s l ≤ 4294967295 := by
  unfold crcL
  induction l generalizing s with
  | nil => exact h
  | cons a l ih => exact ih _ (crcB_u32 _ _)
theorem crcL_take (s : Int) (l : List Int) (k : Nat) (x : Int) (hx : l[k]? = some x) : crcL s (l.take (k + 1)) = crcB (crcL s (l.take k)) x := by
  unfold crcL
  rw [List.take_add_one, hx, List.foldl_append]
  rfl

theorem times_any (w : World) (a : Int) (h0 : 0 ≤ a) (h1 : a ≤ 4294967295) :
    Calls Tryz.prog 137 #[.int .u32 a] w (fun e W => e = .returned (.int .u32 (timesM a)) ∧ w = W) := by
  go_enter Tryz.func137, Tryz.ntmps137
  go_wp2
  go_ret
  exact ⟨rfl, rfl⟩
set_option maxRecDepth 100000 in
set_option maxHeartbeats 2000000 in
theorem more_q (w : World) (s : Int) (v : Value) (b off : Nat) (l : List Int) (h : Sl .u8 w v b off l) (hB : Bts l) (h0 : 0 ≤ s) (h1 : s ≤ 4294967295) :
    Calls Tryz.prog 119 #[.int .u32 s, v] w (fun e W => e = .returned (.int .u32 (notM (crcL (notM s) l))) ∧ w = W) := by
  have L1 := h.len
  unfold maxLen at L1
  obtain ⟨A1, c1, e1⟩ := h.form
  subst e1
  have H1 := Lib.hid h
  have HB := Lib.hid hB
  clear h hB
  have l0 : (0 : Int) ≤ l.length := by omega
  have l1 : (l.length : Int) ≤ 9223372036854775807 := by omega
  go_enter Tryz.func119, Tryz.ntmps119
  go_wp2_with fail
  go_loopg [0, 11] l.length (fun g i j wr => ∃ k : Nat, k + g = l.length ∧ j = .int .i64 k ∧ i = .int .u32 (crcL (notM s) (l.take k)) ∧ w = wr)
  case atStart => exact ⟨0, by omega, rfl, rfl, rfl⟩
  case round =>
    obtain ⟨k, hk, rfl, rfl, rfl⟩ := hrel
    have HK := Lib.hid hk
    clear hk
    by_cases hlt : k < l.length
    · have hx := List.getElem?_eq_getElem hlt
      generalize l[k] = x at hx
      have g1 := H1.out.at (by intro e; rw [e] at hlt; simp at hlt)
      obtain ⟨c1', g1⟩ := g1
      simp only [Value.slice.injEq] at g1
      obtain ⟨rfl, _, rfl⟩ := g1
      have d1 := H1.out.cell hx
      have k0 : (0 : Int) ≤ k := by omega
      have k1 : (k : Int) < l.length := by omega
      have hxb := HB.out.get hx
      have hx0 := hxb.1
      have hx1 := hxb.2
      have hs := crcL_u32 (notM s) (l.take k) (notM_u32 s)
      have HT := Lib.hid (And.intro (crcL_take (notM s) l k x hx) trivial)
      generalize crcL (notM s) (l.take k) = c at *
      obtain ⟨hs0, hs1⟩ := hs
      have hxw : IntKind.u32.wrap x = x := by rw [IntKind.wrap_u32]; omega
      clear hxb hx
      go_wp2_with fail
      go_loopg [0, 19] 8 (fun g i j wr2 => ∃ m : Nat, m + g = 8 ∧ j = .int .i64 m ∧ i = .int .u32 (timesN m (bits .xor .u32 c x)) ∧ w = wr2)
      case atStart => exact ⟨0, by omega, rfl, rfl, rfl⟩
      case round =>
        obtain ⟨m, hm, rfl, rfl, rfl⟩ := hrel
        have HM := Lib.hid hm
        have hb := timesN_u32 m _ (bits_u32 .xor c x)
        by_cases hm8 : m < 8
        · have m0 : (0 : Int) ≤ m := by omega
          have m1 : (m : Int) < 8 := by omega
          have HN := Lib.hid (And.intro (show timesN (m + 1) (bits .xor .u32 c x) = timesM (timesN m (bits .xor .u32 c x)) from rfl) trivial)
          generalize timesN m (bits .xor .u32 c x) = d at *
          obtain ⟨hb0, hb1⟩ := hb
          clear hm
          go_wp2_with fail
          refine (times_any _ _ hb0 hb1).mono ?_
          rintro _ _ ⟨rfl, rfl⟩
          go_wp2_with fail
          go_roundg (gk - 1)
          case measure => have := HM.out; omega
          case rel => exact ⟨m + 1, by have := HM.out; omega, by go_num, by rw [HN.out.1], rfl⟩
        · obtain rfl : m = 8 := by omega
          have hc : timesN 8 (bits .xor .u32 c x) = crcB c x := rfl
          rw [hc]
          clear hm hb hc
          go_wp2_with fail
          go_roundg (l.length - k - 1)
          case measure => have := HK.out; omega
          case rel => exact ⟨k + 1, by have := HK.out; omega, by go_num, by rw [HT.out.1], rfl⟩
    · have hkn : k = l.length := by have := HK.out; omega
      subst hkn
      rw [List.take_of_length_le (Nat.le_refl _)]
      have hs := crcL_u32 (notM s) l (notM_u32 s)
      have HE := Lib.hid (And.intro (show ∃ c, crcL (notM s) l = c from ⟨_, rfl⟩) trivial)
      obtain ⟨c, hc⟩ := HE.out.1
      rw [hc] at hs ⊢
      have HC := Lib.hid (And.intro hc trivial)
      clear hc HE
      obtain ⟨hs0, hs1⟩ := hs
      go_wp2_with fail
      go_ret
      exact ⟨by rw [HC.out.1]; rfl, rfl⟩
def sumM (l : List Int) : Int := notM (crcL (notM 0) l)
theorem sumM_u32 (l : List Int) : 0 ≤ sumM l ∧ sumM l ≤ 4294967295 := notM_u32 _
set_option maxHeartbeats 1000000 in
theorem sum_q (w : World) (v : Value) (b off : Nat) (l : List Int) (h : Sl .u8 w v b off l) (hB : Bts l) :
    Calls Tryz.prog 87 #[v] w (fun e W => e = .returned (.int .u32 (sumM l)) ∧ w = W) := by
  have H := Lib.hid (more_q w 0 v b off l h hB (by decide) (by decide))
  go_enter Tryz.func87, Tryz.ntmps87
  go_wp2_with fail
  refine H.out.mono ?_
  rintro _ _ ⟨rfl, rfl⟩
  rw [show notM (crcL (notM 0) l) = sumM l from rfl]
  clear H hB h
  go_wp2_with fail
  go_ret
  exact ⟨rfl, rfl⟩
theorem sum_any (w : World) (v : Value) (b off : Nat) (l : List Int) (h : Sl .u8 w v b off l) (hB : Bts l) :
    Calls Tryz.prog 87 #[v] w (Post w [] fun r W => r = .int .u32 (sumM l)) :=
  (sum_q w v b off l h hB).mono fun _ _ ⟨h1, h2⟩ => ⟨_, h1, rfl, h2 ▸ Kept.refl _ _⟩
end Go.Proofs.YtcikhnkehglkgaaGreatDoor
