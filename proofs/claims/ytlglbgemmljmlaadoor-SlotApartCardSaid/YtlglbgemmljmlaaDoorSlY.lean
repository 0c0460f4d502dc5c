/- PROVED: the contracts of keepsakelaw06.few at one operation, and of Fail and Crash beside what is held. No conditions beyond those that each theorem states. -/
import Derived.Test.YtlglbgemmljmlaaDoorSlX
import Derived.Test.YtlglbgemmljmlaaDoorTea
import Derived.Test.YtlglbgemmljmlaaDoorSlArg
namespace Go.Proofs.YtlglbgemmljmlaaDoor
open Go.RowKit Go.Proofs.YtlglbgemmljmlaaDoorLib
set_option linter.unusedSimpArgs false
set_option linter.unusedVariables false

set_option maxRecDepth 100000 in
theorem K_tear {H : Type} {enc : TypeId × Value → H} {W : World} {cs : List Value} (h : Rds enc Tryd.prog W 95 cs) : ∃ t, cs.length = 2 ∧ TearK W.heap.size W cs t := by
  obtain ⟨hl, hf⟩ := Rds.struct Tryd.underlying95 h
  have c1 : Tryd.prog.cellsOf 3 = 1 := by kernel_rfl
  have c3 : Tryd.prog.cellsOf 27 = 1 := by kernel_rfl
  have c2 : Tryd.prog.cellsOf 95 = 2 := by kernel_rfl
  rw [c2] at hl
  match cs, hl with
  | [x0, x1], _ =>
    have g0 := hf 0 _ rfl
    have g1 := hf 1 _ rfl
    simp [c1, c3] at g0 g1
    obtain ⟨a, ea, wa⟩ := Rds.int Tryd.underlying3 g0
    obtain ⟨v, xs, ev, hv⟩ := Rds.slice Tryd.underlying27 (by kernel_rfl : Tryd.prog.cellsOf 5 = 1) (fun cs h => K_byte h) (by decide) g1
    cases ea; cases ev
    exact ⟨(a, xs), rfl, _, rfl, hv⟩
theorem tearsN_cells {w : World} {B B1 : Nat} {v : Value} {l : List (Int × List Int)} (h : SliceAt (TearK B) 2 w B1 v l) {k : Nat} (hk : k < l.length) :
    ∃ (b off : Nat) (c : Nat) (Ab : Option Addr) (cb n : Nat), v = .slice (some ⟨b, off, none⟩) l.length c ∧ b < B1 ∧ w.cell? ⟨b, off + k * 2 + 1, none⟩ = some (.slice Ab n cb) ∧ n ≤ maxLen := by
  obtain ⟨A, c, rfl, h1, h2, h3⟩ := h
  rcases h3 with rfl | ⟨b, off, rfl, hb, hx⟩
  · simp at hk
  · obtain ⟨cs, hl, ⟨bv, rfl, hb1⟩, hc⟩ := hx k l[k] (List.getElem?_eq_getElem hk)
    obtain ⟨Ab, cb, rfl, h4, h5, _⟩ := id hb1
    exact ⟨b, off, c, Ab, cb, _, rfl, hb, hc 1 _ rfl, by omega⟩
set_option maxRecDepth 100000 in
set_option maxHeartbeats 1500000 in
theorem few_one (w : World) (g B B1 : Nat) (tv : Value) (ts : List (Int × List Int)) (hb : Blk w g 58 [.int .u8 0, .int .i64 0, .int .u64 0, .slice none 0 0, .int .u8 0, tv]) (ht : SliceAt (TearK B) 2 w B1 tv ts) :
    Calls Tryd.prog 30 #[.slice (some ⟨g, 0, none⟩) 1 1] w (Post w [] fun r W => ∃ sm : Bool, r = .bool sm) := by
  obtain ⟨At, ct, et, t1, t2, _⟩ := id ht
  subst et
  unfold maxLen at t2
  have HT := Lib.hid ht
  have c3 := hb.cell 3 rfl
  have c5 := hb.cell 5 rfl
  have n0 : (0 : Int) ≤ ts.length := by omega
  have n1 : (ts.length : Int) ≤ 9223372036854775807 := by omega
  have HC := Lib.hid (And.intro c3 c5)
  clear ht hb t1
  go_enter Tryd.func30, Tryd.ntmps30
  go_wp2_with fail
  go_loopg [3] 1 (fun gg i wr => ((gg = 1 ∧ i = .int .i64 0) ∨ (gg = 0 ∧ i = .int .i64 1)) ∧ w = wr)
  case atStart => exact ⟨.inl ⟨rfl, rfl⟩, rfl⟩
  case round =>
    obtain ⟨hor, rfl⟩ := hrel
    rcases hor with ⟨rfl, rfl⟩ | ⟨rfl, rfl⟩
    · by_cases hbig : 40 < ts.length
      · have hbi : (40 : Int) < ts.length := by omega
        go_wp2_with fail
        go_ret
        exact ⟨_, rfl, ⟨_, rfl⟩, Kept.refl _ _⟩
      · have hbi : (ts.length : Int) ≤ 40 := by omega
        go_wp2_with fail
        go_loopg [4] ts.length (fun gg i wr => (∃ k : Nat, k + gg = ts.length ∧ i = .int .i64 k) ∧ w = wr)
        case atStart => exact ⟨⟨0, by omega, rfl⟩, rfl⟩
        case round =>
          obtain ⟨⟨k, hk, rfl⟩, rfl⟩ := hrel
          have HK := Lib.hid hk
          clear hk
          by_cases hlt : k < ts.length
          · obtain ⟨bt, ot, ct', Ab, cb, nb, ev, hbt, hcb, hnb⟩ := tearsN_cells HT.out hlt
            simp only [Value.slice.injEq] at ev
            obtain ⟨rfl, ev2, rfl⟩ := ev
            clear ev2
            unfold maxLen at hnb
            have k0 : (0 : Int) ≤ k := by omega
            have k1 : (k : Int) < ts.length := by omega
            have b0 : (0 : Int) ≤ nb := by omega
            by_cases hlong : 100 < nb
            · have hlo : (100 : Int) < nb := by omega
              go_wp2_with fail
              go_ret
              exact ⟨_, rfl, ⟨_, rfl⟩, Kept.refl _ _⟩
            · have hlo : (nb : Int) ≤ 100 := by omega
              go_wp2_with fail
              go_roundg (gk - 1)
              case measure => have := HK.out; omega
              case rel => exact ⟨⟨k + 1, by have := HK.out; omega, by go_num⟩, rfl⟩
          · have hkn : k = ts.length := by have := HK.out; omega
            clear hlt
            subst hkn
            go_wp2_with fail
            go_roundg 0
            case measure => omega
            case rel => exact ⟨.inr ⟨rfl, by go_num⟩, rfl⟩
    · go_wp2_with fail
      go_ret
      exact ⟨_, rfl, ⟨_, rfl⟩, Kept.refl _ _⟩
theorem fail_st {A : Nat → Prop} {W : World} {b : Nat} {s : DiskS} (h : St A W b s) (hm : s.marks < 1000000000) (n : Int) (h0 : -9223372036854775808 ≤ n) (h1 : n ≤ 9223372036854775807) :
    Calls Tryd.prog 31 #[pt b, .int .i64 n] W (fun e V => e = .returned (.tuple #[]) ∧ St A V b (s.fail n) ∧ KeptA A W V) := by
  obtain ⟨⟨F, h1', h2⟩, h3⟩ := h
  refine (fail_any W b F s h1' hm n h0 h1).mono ?_
  rintro _ V ⟨_, rfl, ⟨rfl, hd⟩, k⟩
  exact ⟨rfl, ⟨⟨F, hd, h2⟩, fun x hx => h3 x (Nat.le_trans k.size hx)⟩, KeptA.of k h2⟩
theorem crash_st {A : Nat → Prop} {W : World} {b : Nat} {s : DiskS} (h : St A W b s) {B : Nat} (hB : ∀ x, A x → B ≤ x) {tv : Value} {ts : List (Int × List Int)} (ht : SliceAt (TearK B) 2 W B tv ts) :
    Calls Tryd.prog 32 #[pt b, tv] W (fun e V => e = .returned (.tuple #[]) ∧ St A V b (s.crash ts) ∧ KeptA A W V) := by
  obtain ⟨⟨F, h1, h2⟩, h3⟩ := h
  refine (crash_any W b F s h1 tv ts (TearsAt.of ht (fun g hg => hB g (h2 g hg)))).mono ?_
  rintro _ V ⟨_, rfl, ⟨rfl, hd⟩, k⟩
  exact ⟨rfl, ⟨⟨F, hd, h2⟩, fun x hx => h3 x (Nat.le_trans k.size hx)⟩, KeptA.of k h2⟩
theorem opsN_st {A : Nat → Prop} {W : World} {b : Nat} {s : DiskS} (h : St A W b s) : Calls Tryd.prog 26 #[pt b] W (fun e V => e = .returned (.int .i64 s.ops) ∧ St A V b s ∧ KeptA A W V) := by
  obtain ⟨⟨F, h1, h2⟩, h3⟩ := h
  refine (ops_any W b F s h1).mono ?_
  rintro _ V ⟨_, rfl, rfl, k⟩
  exact ⟨rfl, St.kept0 ⟨⟨F, h1, h2⟩, h3⟩ k, KeptA.of0 k⟩
theorem KeptA.tears {A : Nat → Prop} {W V : World} (k : KeptA A W V) {B : Nat} (hB : ∀ x, A x → B ≤ x) (hBW : B ≤ W.heap.size) {tv : Value} {ts : List (Int × List Int)} (ht : SliceAt (TearK B) 2 W B tv ts) : SliceAt (TearK B) 2 V B tv ts :=
  let ⟨_, h1, h2⟩ := k; ht.kept h2 hBW (fun x hx => hB x (h1 x hx)) (fun _ _ h => h.kept h2 hBW (fun x hx => hB x (h1 x hx)))
end Go.Proofs.YtlglbgemmljmlaaDoor
