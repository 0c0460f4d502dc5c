/- PROVED: the contracts of what hands a chip its levels: Clock, Begin, End, Put. No conditions beyond those that each theorem states. -/
import Derived.Test.YtdpiaibjpaalhaaDoorCom
import Derived.Test.YtdpiaibjpaalhaaDoorRw
import Derived.Test.YtdpiaibjpaalhaaDoorEpR
import Derived.Laws.Rows
namespace Go.Proofs.YtdpiaibjpaalhaaDoor
open Go.RowKit Go.Proofs.YtdpiaibjpaalhaaDoorLib Go.WideElems Go.Maps Go.ChangeMaps
set_option linter.unusedSimpArgs false
set_option linter.unusedVariables false

def lvCells : List (Bool × Bool) → List Value
  | [] => []
  | p :: L => .bool p.1 :: .bool p.2 :: lvCells L
theorem lvCells_len (L : List (Bool × Bool)) : (lvCells L).length = L.length * 2 := by
  induction L with
  | nil => rfl
  | cons p L ih => simp [lvCells, ih]; omega
theorem lvCells_append (L M : List (Bool × Bool)) : lvCells (L ++ M) = lvCells L ++ lvCells M := by
  induction L with
  | nil => rfl
  | cons p L ih => simp [lvCells, ih]
theorem lvCells_one (L : List (Bool × Bool)) : ∀ u ∈ lvCells L, u.oneCell' = true := by
  induction L with
  | nil => intro u h; cases h
  | cons p L ih =>
    intro u hu
    simp [lvCells] at hu
    rcases hu with rfl | rfl | hu
    · rfl
    · rfl
    · exact ih u hu
theorem lvCells_at {L : List (Bool × Bool)} {i : Nat} {p : Bool × Bool} (h : L[i]? = some p) : (lvCells L)[i * 2]? = some (.bool p.1) ∧ (lvCells L)[i * 2 + 1]? = some (.bool p.2) := by
  induction L generalizing i with
  | nil => simp at h
  | cons q L ih =>
    cases i with
    | zero => simp at h; subst h; exact ⟨rfl, rfl⟩
    | succ i =>
      have := ih (i := i) (by simpa using h)
      rw [Nat.succ_mul]
      exact this
/-- levels that lie from the head of block g on -/
def Lvs (w : World) (v : Value) (g : Nat) (L : List (Bool × Bool)) : Prop := ∃ c, v = .slice (some ⟨g, 0, none⟩) L.length c ∧ L.length ≤ c ∧ c ≤ maxLen ∧ g < w.heap.size ∧ ∀ i u, (lvCells L)[i]? = some u → w.cell? ⟨g, i, none⟩ = some u
theorem Lvs.kept {w w1 : World} {v : Value} {g : Nat} {L : List (Bool × Bool)} {S : List Nat} (h : Lvs w v g L) (hk : Kept w w1 S) (hg : g ∉ S) : Lvs w1 v g L := by
  obtain ⟨c, h1, h2, h3, h4, h5⟩ := h
  exact ⟨c, h1, h2, h3, Nat.lt_of_lt_of_le h4 hk.size, fun i u hi => hk.cell (h5 i u hi) hg⟩
theorem Lvs.of_blk {w : World} {g T : Nat} {L : List (Bool × Bool)} (h : Blk w g T (lvCells L)) (hl : L.length ≤ maxLen) : Lvs w (.slice (some ⟨g, 0, none⟩) L.length L.length) g L :=
  ⟨L.length, rfl, Nat.le_refl _, hl, h.lt, fun i u hi => h.cell i hi⟩
theorem Lvs.of_row {w : World} {base : Nat} {v : Value} {L : List (Bool × Bool)} (h : w.ownsRow base 50 2 v L.length (lvCells L)) (hne : L ≠ []) : ∃ g, Lvs w v g L ∧ base ≤ g := by
  obtain ⟨h1, ⟨rfl, h0⟩ | ⟨g, cap, cur, rfl, hg, hc, h2, h3, h4, h5⟩⟩ := h
  · exact absurd (List.eq_nil_of_length_eq_zero h0) hne
  · refine ⟨g, ⟨cap, rfl, h2, h3, (Array.getElem?_eq_some_iff.1 hc).1, fun i u hi => ?_⟩, hg⟩
    rw [← h5, List.getElem?_take] at hi
    split at hi
    · simp only [World.cell?, hc]
      simpa using hi
    · cases hi
theorem row_kept {w w1 : World} {base : Nat} {T : TypeId} {size n : Nat} {v : Value} {xs : List Value} {S : List Nat} (h : w.ownsRow base T size v n xs) (hk : Kept w w1 S) (hS : Apart v S) : w1.ownsRow base T size v n xs := by
  obtain ⟨h1, h2⟩ := h
  refine ⟨h1, h2.imp id ?_⟩
  rintro ⟨g, cap, cur, rfl, hg, hc, r⟩
  refine ⟨g, cap, cur, rfl, hg, ?_, r⟩
  rw [hk.block g ((Array.getElem?_eq_some_iff.1 hc).1) (hS g rfl)]
  exact hc
theorem clockL_any (w : World) (b : Bool) : Calls Tryd.prog 55 #[.bool b] w (Post w [] fun v W => ∃ g, v = .slice (some ⟨g, 0, none⟩) 3 3 ∧ Blk W g 50 (lvCells (clockL b)) ∧ w.heap.size ≤ g) := by
  go_enter Tryd.func55, Tryd.ntmps55
  go_wp2
  go_ret
  exact ⟨_, rfl, ⟨_, rfl, Blk.new _ _ _, Nat.le_refl _⟩, (Kept.refl _ _).alloc _⟩
theorem begin_any (w : World) : Calls Tryd.prog 24 #[] w (Post w [] fun v W => ∃ g, Lvs W v g beginL ∧ w.heap.size ≤ g) := by
  go_enter Tryd.func24, Tryd.ntmps24
  go_wp2
  go_ret
  exact ⟨_, rfl, ⟨_, Lvs.of_blk (T := 50) (L := beginL) (Blk.new _ _ _) (by decide), Nat.le_refl _⟩, (Kept.refl _ _).alloc _⟩
theorem end_any (w : World) : Calls Tryd.prog 18 #[] w (Post w [] fun v W => ∃ g, Lvs W v g endL ∧ w.heap.size ≤ g) := by
  go_enter Tryd.func18, Tryd.ntmps18
  go_wp2
  go_ret
  exact ⟨_, rfl, ⟨_, Lvs.of_blk (T := 50) (L := endL) (Blk.new _ _ _) (by decide), Nat.le_refl _⟩, (Kept.refl _ _).alloc _⟩
set_option maxHeartbeats 1000000 in
theorem rpower_any (w : World) (n : Nat) (hn : n ≤ 8) : Calls Tryd.prog 56 #[.int .i64 n] w (fun e W => e = .returned (.int .i64 ((2 : Int) ^ n)) ∧ w = W) := by
  have n0 : (0 : Int) ≤ n := by omega
  have n8 : (n : Int) ≤ 8 := by omega
  have hp : ∀ k : Nat, k ≤ 8 → (0 : Int) ≤ 2 ^ k ∧ (2 : Int) ^ k ≤ 256 := by decide
  have HP := Lib.hid hp
  clear hp
  go_enter Tryd.func56, Tryd.ntmps56
  go_wp2_with fail
  go_loop [3, 4] (fun p i => ∃ k : Nat, k ≤ n ∧ i = .int .i64 k ∧ p = .int .i64 ((2 : Int) ^ k)) (fun _ i => n - (intOf i).toNat)
  case atStart => exact ⟨0, Nat.zero_le _, rfl, by simp⟩
  case round =>
    obtain ⟨k, hk, rfl, rfl⟩ := hrel
    obtain ⟨p0, p1⟩ := HP.out k (by omega)
    have k0 : (0 : Int) ≤ k := by omega
    have k8 : (k : Int) ≤ 8 := by omega
    have HK := Lib.hid hk
    by_cases hlt : k < n
    · have hi : (k : Int) < n := by omega
      have d1 : decide (k < n) = true := by simpa using hlt
      generalize hq : (2 : Int) ^ k = q at *
      have HQ := Lib.hid hq
      clear hq
      go_wp2_with fail
      go_round
      case rel => exact ⟨k + 1, hlt, by go_num, by rw [Int.pow_succ, HQ.out, Int.mul_comm]⟩
      case measure => simp [intOf]; omega
    · have hkn : k = n := by omega
      subst hkn
      have d1 : decide (k < k) = false := by simp
      go_wp2_with fail
      go_ret
      exact ⟨rfl, rfl⟩
theorem infoLevel : (Tryd.prog.info? 50).map (fun i => (i.zero, i.size, i.bytes)) = some (some (.agg #[.bool false, .bool false]), 2, 2) := by kernel_rfl
set_option maxHeartbeats 4000000 in
theorem put_any (w : World) (b : Int) (ack : Bool) (h0 : 0 ≤ b) (h1 : b ≤ 255) :
    Calls Tryd.prog 41 #[.int .u8 b, .bool ack] w (Post w [] fun v W => ∃ g, Lvs W v g (putL b ack) ∧ w.heap.size ≤ g) := by
  obtain ⟨i0, hi, hz0, hz1, hz2⟩ := info_parts infoLevel
  have hp : ∀ k : Nat, k ≤ 8 → (0 : Int) < 2 ^ k ∧ (2 : Int) ^ k ≤ 256 := by decide
  have HP := Lib.hid hp
  replace hi := Lib.hid hi
  replace hz0 := Lib.hid hz0
  replace hz1 := Lib.hid hz1
  replace hz2 := Lib.hid hz2
  clear hp
  go_enter Tryd.func41, Tryd.ntmps41
  go_wp2_with fail
  go_loopg [5, 6] 8 (fun g o k wr => ∃ n : Nat, n + g = 8 ∧ k = .int .i64 ((g : Int) - 1) ∧ wr.ownsRow w.heap.size 50 2 o (n * 3) (lvCells (bitsL b n)) ∧ Kept w wr [])
  case atStart => exact ⟨0, rfl, rfl, World.ownsRow_nil _ _ _ _, Kept.refl _ _⟩
  case round =>
    obtain ⟨n, hn, hk, hrow, hkept⟩ := hrel
    have HR := Lib.hid hrow
    have HK := Lib.hid hkept
    have hbl := hkept.size
    have hown := hrow
    clear hrow hkept
    by_cases hz : gk = 0
    · subst hz
      have hn8 : n = 8 := by omega
      subst hn8
      have hk' : u6 = .int .i64 (-1) := hk
      subst hk'
      clear hn hk hown
      go_wp2_with fail
      refine (clockL_any wr ack).mono ?_
      rintro _ w1 ⟨_, rfl, ⟨g1, rfl, hb1, hg1⟩, k1⟩
      have hown := row_kept HR.out k1 (by simp [Apart])
      have hs1 := k1.size
      have K1 := Lib.hid (HK.out.trans k1 (by simp))
      have hcl : ∀ (j : Nat) (u : Value), (lvCells (clockL ack))[j]? = some u → w1.cell? ((⟨g1, 0, none⟩ : Addr).add j) = some u := fun j u hj => by rw [Addr.add_lit]; exact hb1.cell (0 + j) (by rw [Nat.zero_add]; exact hj)
      have HCL := Lib.hid hcl
      have hbz : w.heap.size ≤ w1.heap.size := by omega
      clear k1 hb1 hcl
      go_wp2_with (at_builtin; refine wpList_append_own _ rfl (.tmp 21) (.tmp 23) 34 rfl w.heap.size 50 i0 _ 2 2 Tryd.underlying34 hi.out hz0.out hz1.out hz2.out rfl (by decide) _ _ _ rfl hown ⟨g1, 0, none⟩ 3 3 (lvCells (clockL ack)) rfl rfl HCL.out (lvCells_one _) (by unfold maxLen; omega) (by omega) hbz ?_)
      intro v' w2 hown2 hgrow2 hnil
      have HO2 := Lib.hid hown2
      have HG2 := Lib.hid hgrow2
      clear hown2 hgrow2 hnil hown
      go_wp2_with fail
      go_ret
      obtain ⟨g, hg, hgb⟩ := Lvs.of_row (L := putL b ack) (by have := HO2.out; rw [← lvCells_append] at this; exact this) (by simp [putL, clockL])
      refine ⟨_, rfl, ⟨g, hg, hgb⟩, K1.out.trans (Kept.grown HG2.out u5.ownBlock.toList (fun g hg => by simp [hg])) (fun g hg => .inr ?_)⟩
      simp only [Option.mem_toList] at hg
      exact (HR.out.lt g hg).1
    · obtain ⟨j, rfl⟩ : ∃ j, gk = j + 1 := ⟨gk - 1, by omega⟩
      have hk' : u6 = .int .i64 (j : Int) := by rw [hk]; exact congrArg (Value.int IntKind.i64) (by omega)
      subst hk'
      have hj : j ≤ 8 := by omega
      obtain ⟨p0, p1⟩ := HP.out j hj
      have j0 : (0 : Int) ≤ j := by omega
      have q0 : (0 : Int) ≤ b / 2 ^ j := Int.ediv_nonneg h0 (Int.le_of_lt p0)
      have q1 : b / 2 ^ j ≤ b := Int.ediv_le_self _ h0
      have HN := Lib.hid hn
      clear hn hk hz hown
      go_wp2_with fail
      refine (rpower_any wr j hj).mono ?_
      rintro _ _ ⟨rfl, rfl⟩
      go_wp2_with fail
      refine (clockL_any wr _).mono ?_
      rintro _ w1 ⟨_, rfl, ⟨g1, rfl, hb1, hg1⟩, k1⟩
      have hown := row_kept HR.out k1 (by simp [Apart])
      have hs1 := k1.size
      have K1 := Lib.hid (HK.out.trans k1 (by simp))
      generalize hbt : (b / 2 ^ j % 2 == 1) = bt at hb1 ⊢
      have hcl : ∀ (j : Nat) (u : Value), (lvCells (clockL bt))[j]? = some u → w1.cell? ((⟨g1, 0, none⟩ : Addr).add j) = some u := fun j u hj => by rw [Addr.add_lit]; exact hb1.cell (0 + j) (by rw [Nat.zero_add]; exact hj)
      have HCL := Lib.hid hcl
      have HBT := Lib.hid hbt
      have hbz : w.heap.size ≤ w1.heap.size := by omega
      have hn8 : n ≤ 8 := by have := HN.out; omega
      clear k1 hb1 hcl hbt
      go_wp2_with (at_builtin; refine wpList_append_own _ rfl (.tmp 11) (.tmp 19) 34 rfl w.heap.size 50 i0 _ 2 2 Tryd.underlying34 hi.out hz0.out hz1.out hz2.out rfl (by decide) _ _ _ rfl hown ⟨g1, 0, none⟩ 3 3 (lvCells (clockL bt)) rfl rfl HCL.out (lvCells_one _) (by unfold maxLen; omega) (by omega) hbz ?_)
      intro v' w2 hown2 hgrow2 hnil
      have HO2 := Lib.hid hown2
      have HG2 := Lib.hid hgrow2
      clear hown2 hgrow2 hnil hown
      go_wp2_with fail
      go_roundg j
      case measure => omega
      case rel =>
        refine ⟨n + 1, by have := HN.out; omega, by go_num, ?_, K1.out.trans (Kept.grown HG2.out u5.ownBlock.toList (fun g hg => by simp [hg])) (fun g hg => .inr ?_)⟩
        · have h2 := HO2.out
          have hj7 : 7 - n = j := by have := HN.out; omega
          rw [bitsL, lvCells_append, hj7, HBT.out, Nat.succ_mul]
          exact h2
        · simp only [Option.mem_toList] at hg
          exact (HR.out.lt g hg).1
end Go.Proofs.YtdpiaibjpaalhaaDoor
