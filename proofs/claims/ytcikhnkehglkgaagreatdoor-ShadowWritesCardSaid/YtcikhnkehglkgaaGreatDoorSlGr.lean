/- PROVED: the contracts of the document's Sectors, Span and Few. No conditions beyond those that each theorem states. -/
import Derived.Test.YtcikhnkehglkgaaGreatDoorSlG
namespace Go.Proofs.YtcikhnkehglkgaaGreatDoor
open Go.RowKit Go.Proofs.YtcikhnkehglkgaaGreatDoorLib
set_option linter.unusedSimpArgs false
set_option linter.unusedVariables false

theorem secs_rem (many size : Nat) (h : 1 ≤ size) : secs many size = many / size + (if many % size = 0 then 0 else 1) := by
  have hd := Nat.div_add_mod many size
  have hlt := Nat.mod_lt many (show 0 < size by omega)
  unfold secs
  split
  · rename_i h0
    rw [h0] at hd
    rw [Nat.div_eq_iff (by omega), Nat.add_zero]
    generalize many / size = q at *
    have : q * size = size * q := Nat.mul_comm _ _
    omega
  · rw [Nat.div_eq_iff (by omega)]
    generalize many / size = q at *
    have : (q + 1) * size = size * q + size := by rw [Nat.mul_comm, Nat.mul_succ]
    omega
set_option maxRecDepth 100000 in
set_option maxHeartbeats 2000000 in
theorem rsects_any (w : World) (many size : Nat) (hm : many ≤ 1000000000) (h1 : 1 ≤ size) (h2 : size ≤ 4096) :
    Calls Tryz.prog 62 #[.int .i64 many, .int .i64 size] w (fun e W => e = .returned (.int .i64 (secs many size : Nat)) ∧ w = W) := by
  have d1 : (1 : Int) ≤ size := by omega
  have d2 : (size : Int) ≤ 4096 := by omega
  by_cases h0 : many = 0
  · subst h0
    rw [secs_zero size h1]
    clear h1 h2
    go_enter Tryz.func62, Tryz.ntmps62
    go_wp2
    go_ret
    exact ⟨rfl, rfl⟩
  · rw [secs_rem _ size h1]
    obtain ⟨q, hq⟩ : ∃ q : Nat, many / size = q := ⟨_, rfl⟩
    have hql : q ≤ many := hq ▸ Nat.div_le_self _ _
    have hqi : (many : Int) / (size : Int) = (q : Int) := by rw [← hq]; rfl
    obtain ⟨r, hr⟩ : ∃ r : Nat, many % size = r := ⟨_, rfl⟩
    have hrl : r < size := hr ▸ Nat.mod_lt _ (by omega)
    have hri : (many : Int) % (size : Int) = (r : Int) := by rw [← hr]; rfl
    rw [hq, hr]
    have q2 : q ≤ 1000000000 := by omega
    obtain ⟨m, hmm⟩ : ∃ m : Int, (many : Int) = m := ⟨_, rfl⟩
    rw [hmm] at hqi hri ⊢
    have d3 : 0 ≤ m := by omega
    have d4 : m ≤ 1000000000 := by omega
    have d6 : 1 ≤ m := by omega
    have t3 : ((size : Int) == 0) = false := by rw [beq_eq_false_iff_ne]; omega
    have q1 : (q : Int) < 1000000001 := by omega
    have q0 : (0 : Int) ≤ (q : Int) := by omega
    have y3 : wrap64 (m / (size : Int)) = (q : Int) := by rw [hqi]; unfold wrap64; omega
    have y4 : decide ((size : Int) < 1) = false := by simp; omega
    have y5 : decide (4096 < (size : Int)) = false := by simp; omega
    have y6 : decide (m < 1) = false := by simp; omega
    have HQ := Lib.hid (And.intro hqi (And.intro q0 q2))
    by_cases hz : r = 0
    · subst hz
      have y7 : decide ((0 : Int) < m % (size : Int)) = false := by rw [hri]; rfl
      clear q1 q0 d6 q2 hq hql h0 hm h1 h2 hr hrl hqi hri hmm
      go_enter Tryz.func62, Tryz.ntmps62
      go_wp2
      go_ret
      exact ⟨by simp <;> exact HQ.out.1, rfl⟩
    · have hz' : (0 : Int) < r := by omega
      have y7 : decide ((0 : Int) < m % (size : Int)) = true := by rw [hri]; simpa using hz'
      clear q1 q0 d6 q2 hq hql h0 hm h1 h2 hr hrl hqi hri hz' hmm
      go_enter Tryz.func62, Tryz.ntmps62
      go_wp2
      go_ret
      refine ⟨?_, rfl⟩
      simp [hz]
      rw [HQ.out.1]
      have := HQ.out.2
      unfold wrap64
      omega
set_option maxRecDepth 100000 in
set_option maxHeartbeats 2000000 in
theorem rspan_any (w : World) (size e f s : Int) :
    Calls Tryz.prog 23 #[.int .i64 size, .agg #[.int .i64 e, .int .i64 f, .int .i64 s]] w (Post w [] fun v W => v = .int .i64 (spanN size e f s : Nat)) := by
  go_enter Tryz.func23, Tryz.ntmps23
  go_wp2_with fail
  have hb0 := Blk.new w 23 [.int .i64 e, .int .i64 f, .int .i64 s]
  refine (rright_any _ e f s).mono ?_
  rintro _ w1 ⟨_, rfl, rfl, k1⟩
  have K1 := Lib.hid (((Kept.refl w []).alloc _).trans k1 (by simp))
  have hb1 := hb0.kept k1 (by simp)
  have q0 := hb1.cell 0 rfl
  have q1 := hb1.cell 1 rfl
  have q2 := hb1.cell 2 rfl
  clear hb0 hb1 k1
  cases hr : gRight e f s
  · have e0 : spanN size e f s = 0 := by unfold spanN; rw [hr]; simp
    have E0 := Lib.hid (And.intro e0 trivial)
    clear e0
    go_wp2_with fail
    go_ret
    exact ⟨_, rfl, by show Value.int .i64 _ = _; rw [E0.out.1]; rfl, K1.out⟩
  by_cases h1 : size < 32
  · have e0 : spanN size e f s = 0 := by unfold spanN; rw [if_neg (by omega)]
    have E0 := Lib.hid (And.intro e0 trivial)
    clear e0
    go_wp2_with fail
    go_ret
    exact ⟨_, rfl, by show Value.int .i64 _ = _; rw [E0.out.1]; rfl, K1.out⟩
  by_cases h2 : 4096 < size
  · have e0 : spanN size e f s = 0 := by unfold spanN; rw [if_neg (by omega)]
    have E0 := Lib.hid (And.intro e0 trivial)
    clear e0
    go_wp2_with fail
    go_ret
    exact ⟨_, rfl, by show Value.int .i64 _ = _; rw [E0.out.1]; rfl, K1.out⟩
  obtain ⟨n, rfl⟩ := Int.eq_ofNat_of_zero_le (show 0 ≤ size by omega)
  have e0 : spanN (n : Int) e f s = 1 + secs (gTotal e f s) n := by unfold spanN; rw [if_pos ⟨hr, by omega, by omega⟩]; rfl
  have E0 := Lib.hid (And.intro e0 trivial)
  have HT := Lib.hid (rtotal_any w1 e f s)
  have HB := Lib.hid (secs_bd e f s n (by omega))
  have HL := Lib.hid (gTotal_le e f s)
  have HS := Lib.hid (fun w' => rsects_any w' (gTotal e f s) n (by have := HL.out; omega) (by omega) (by omega))
  clear e0 hr
  go_wp2_with fail
  refine HT.out.mono ?_
  rintro _ w2 ⟨_, rfl, rfl, k2⟩
  have K2 := Lib.hid (K1.out.trans k2 (by simp))
  clear k2
  go_wp2_with fail
  refine (HS.out _).mono ?_
  rintro _ _ ⟨rfl, rfl⟩
  replace HB := HB.out
  generalize secs (gTotal e f s) n = q at *
  have d0 : (0 : Int) ≤ q := by omega
  have d1 : (q : Int) ≤ 100000 := by omega
  go_wp2_with fail
  go_ret
  exact ⟨_, rfl, by show Value.int .i64 _ = _; rw [E0.out.1]; simp, K2.out⟩
def fewG (e f s : Int) : Bool := !gRight e f s || decide (gTotal e f s ≤ 500)
set_option maxHeartbeats 1000000 in
theorem few_any (w : World) (e f s : Int) :
    Calls Tryz.prog 11 #[.agg #[.int .i64 e, .int .i64 f, .int .i64 s]] w (Post w [] fun v W => v = .bool (fewG e f s)) := by
  have hb0 := Blk.new w 23 [.int .i64 e, .int .i64 f, .int .i64 s]
  have HR := Lib.hid (fun W => rright_any W e f s)
  have HT := Lib.hid (fun W => rtotal_any W e f s)
  have hf := show fewG e f s = (!gRight e f s || decide (gTotal e f s ≤ 500)) from rfl
  generalize fewG e f s = fw at *
  generalize gTotal e f s = T at *
  go_enter Tryz.func11, Tryz.ntmps11
  go_wp2_with fail
  refine (HR.out _).mono ?_
  rintro _ w1 ⟨_, rfl, rfl, k1⟩
  have hb1 := hb0.kept k1 (by simp)
  have K1 := Lib.hid (((Kept.refl w []).alloc _).trans k1 (by simp))
  have q0 := hb1.cell 0 rfl
  have q1 := hb1.cell 1 rfl
  have q2 := hb1.cell 2 rfl
  have HF := Lib.hid (And.intro hf trivial)
  clear hb0 hb1 k1 hf
  cases hr : gRight e f s
  · have HR' := Lib.hid (And.intro hr trivial)
    clear hr
    go_wp2_with fail
    go_ret
    exact ⟨_, rfl, by show Value.bool _ = _; rw [HF.out.1, HR'.out.1]; rfl, K1.out⟩
  · have HR' := Lib.hid (And.intro hr trivial)
    have HT1 := Lib.hid (HT.out w1)
    clear hr HT HR
    go_wp2_with fail
    refine HT1.out.mono ?_
    rintro _ w2 ⟨_, rfl, rfl, k2⟩
    have K2 := Lib.hid (K1.out.trans k2 (by simp))
    clear k2 HT1
    go_wp2_with fail
    go_ret
    exact ⟨_, rfl, by show Value.bool _ = Value.bool _; rw [HF.out.1, HR'.out.1]; simp; omega, K2.out⟩
end Go.Proofs.YtcikhnkehglkgaaGreatDoor
