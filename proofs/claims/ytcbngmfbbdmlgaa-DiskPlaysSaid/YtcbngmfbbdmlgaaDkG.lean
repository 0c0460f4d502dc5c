/- PROVED: the contracts of disk.Open and disk.New. No conditions beyond those that each theorem states. -/
import Derived.Test.YtcbngmfbbdmlgaaDkF
namespace Go.Proofs.Ytcbngmfbbdmlgaa
open Go.RowKit Go.Proofs.YtcbngmfbbdmlgaaLib Go.WideElems Go.Maps
set_option linter.unusedSimpArgs false
set_option linter.unusedVariables false

/-- can there be such a disk? -/
def OpenOk (size : Int) (l : List Int) : Prop := 1 ≤ size ∧ size ≤ 4096 ∧ l.length % size.toNat = 0 ∧ l.length / size.toNat ≤ 4096
instance (size : Int) (l : List Int) : Decidable (OpenOk size l) := by unfold OpenOk; infer_instance
theorem open_ok {size : Int} {l : List Int} (h : OpenOk size l) (hB : Bts l) : (DiskS.open size.toNat l).Ok := by
  obtain ⟨h1, h2, h3, h4⟩ := h
  have e := Nat.div_mul_cancel (Nat.dvd_of_mod_eq_zero h3)
  refine ⟨by show 1 ≤ size.toNat; omega, by show size.toNat ≤ 4096; omega, by show (chop _ _ _).length ≤ _; rw [length_chop]; exact h4, by show (List.replicate _ _).length = (chop _ _ _).length; rw [length_chop, List.length_replicate], chop_sec _ _ _ (by omega) hB, ?_, Nat.zero_le _, Nat.zero_le _, Nat.zero_le _⟩
  intro x hx
  change some x ∈ List.replicate _ none at hx
  rw [List.mem_replicate] at hx
  cases hx.2
theorem open_bytes {size : Int} {l : List Int} (h : OpenOk size l) : (DiskS.open size.toNat l).bytes = l := by
  obtain ⟨h1, h2, h3, h4⟩ := h
  exact chop_flatten _ _ _ (Nat.div_mul_cancel (Nat.dvd_of_mod_eq_zero h3))
theorem wrap_quo (a n : Nat) (h : a ≤ 9223372036854775807) : wrap64 ((a : Int) / (n : Int)) = (a : Int) / (n : Int) := by
  have h1 := Nat.div_le_self a n
  rw [← Int.natCast_ediv]
  generalize a / n = q at *
  unfold wrap64
  omega
set_option maxRecDepth 100000 in
set_option maxHeartbeats 4000000 in
theorem open_no (w : World) (size : Int) (v : Value) (bq off : Nat) (l : List Int) (hs : Sl .u8 w v bq off l) (hz0 : -9223372036854775808 ≤ size) (hz1 : size ≤ 9223372036854775807) (h : ¬ OpenOk size l) :
    Calls Try.prog 22 #[.int .i64 size, v] w (Post w [] fun r W => r = .tuple #[.pointer none, .int .i64 1]) := by
  have hln := hs.len
  unfold maxLen at hln
  obtain ⟨A, c, rfl, h1, h2, h3, h4⟩ := hs
  clear h1 h2 h3 h4
  have l0 : (0 : Int) ≤ l.length := by omega
  have l1 : (l.length : Int) ≤ 9223372036854775807 := by omega
  unfold OpenOk at h
  go_enter Try.func22, Try.ntmps22
  by_cases q1 : size < 1
  · go_wp2
    go_ret2
    exact ⟨_, rfl, rfl, Kept.refl _ _⟩
  by_cases q2 : 4096 < size
  · have q1' : 1 ≤ size := by omega
    go_wp2
    go_ret2
    exact ⟨_, rfl, rfl, Kept.refl _ _⟩
  obtain ⟨n, rfl⟩ := Int.eq_ofNat_of_zero_le (show 0 ≤ size by omega)
  have n1 : (1 : Int) ≤ n := by omega
  have n2 : (n : Int) ≤ 4096 := by omega
  have t3 : ((n : Int) == 0) = false := by rw [beq_eq_false_iff_ne]; omega
  by_cases q3 : l.length % n ≠ 0
  · have q4 : (((l.length : Int) % (n : Int)) != 0) = true := by simp; omega
    clear h
    go_wp2
    go_ret2
    exact ⟨_, rfl, rfl, Kept.refl _ _⟩
  have q3' : l.length % n = 0 := by omega
  have q4 : (((l.length : Int) % (n : Int)) != 0) = false := by simp; omega
  have q5 : ¬ l.length / n ≤ 4096 := fun e => h ⟨n1, n2, by simpa using q3', by simpa using e⟩
  have q6 : decide (4096 < (l.length : Int) / (n : Int)) = true := by simp; omega
  have q7 := wrap_quo l.length n (by omega)
  clear h q3 q3'
  go_wp2
  go_ret2
  exact ⟨_, rfl, rfl, Kept.refl _ _⟩
theorem map_none (w : World) (R : Value → Option (DataW Value × List MemPlace)) : (w.alloc (.map #[] 0)).ownsMap Try.prog 3 R w.heap.size 0 (.map []) := World.ownsMap_made _ _ _ _
set_option maxRecDepth 100000 in
set_option maxHeartbeats 4000000 in
theorem open_yes (w : World) (size : Int) (v : Value) (bq off : Nat) (l : List Int) (hs : Sl .u8 w v bq off l) (hB : Bts l) (h : OpenOk size l) :
    Calls Try.prog 22 #[.int .i64 size, v] w (Post w [] fun r W => ∃ b F, r = .tuple #[.pointer (some ⟨b, 0, none⟩), .int .i64 0] ∧ DiskAt W b F (DiskS.open size.toNat l) ∧ ∀ g, g ∈ F → w.heap.size ≤ g) := by
  have hok := open_ok h hB
  have hby := open_bytes h
  have HSL := Lib.hid hs
  have HBT := Lib.hid hB
  have hln := hs.len
  unfold maxLen at hln
  obtain ⟨A, c, rfl, h1, h2, h3, h4⟩ := hs
  clear h1 h2 h3 h4
  obtain ⟨g1, g2, g3, g4⟩ := h
  obtain ⟨n, rfl⟩ := Int.eq_ofNat_of_zero_le (show 0 ≤ size by omega)
  simp only [Int.toNat_natCast] at *
  have l0 : (0 : Int) ≤ l.length := by omega
  have l1 : (l.length : Int) ≤ 9223372036854775807 := by omega
  have t3 : ((n : Int) == 0) = false := by rw [beq_eq_false_iff_ne]; omega
  have q4 : (((l.length : Int) % (n : Int)) != 0) = false := by simp; omega
  have q6 : decide (4096 < (l.length : Int) / (n : Int)) = false := by simp; omega
  have q7 := wrap_quo l.length n (by omega)
  have hll : l.length ≤ 16777216 := by have := bytes_bd hok; rw [hby] at this; exact this
  have HOK := Lib.hid hok
  have HBY := Lib.hid hby
  have hmm := @run_makeMap Try.prog
  clear hok hby g3 g4 hB
  go_enter Try.func22, Try.ntmps22
  go_wp2_with fail
  refine (clone_any _ _ bq off l HSL.out (by omega)).mono ?_
  rintro _ w1 ⟨vl, rfl, hv, k1⟩
  have HV := Lib.hid hv
  have K1 := Lib.hid k1
  obtain ⟨Av, cv, rfl⟩ := hv.sl.choose_spec.1.form
  clear hv k1
  go_wp2_with fail
  refine bodyPost_ret (v := .tuple #[.pointer (some ⟨w1.heap.size + 1 + 1, 0, none⟩), .int .i64 0]) (by simp [results, Try.results22, go_sem]) rfl ?_
  have hk := (((Kept.refl w1 []).alloc (.map #[] 0)).alloc (.map #[] 0)).alloc (.cells #[.int .i64 n, .slice Av l.length cv, .map (some w1.heap.size), .map (some (w1.heap.size + 1)), .int .i64 0, .int .i64 0] 60)
  have hvk := HV.out
  refine ⟨_, rfl, ⟨w1.heap.size + 1 + 1, (Value.slice Av l.length cv).ownBlock.toList ++ [w1.heap.size, w1.heap.size + 1, w1.heap.size + 1 + 1], rfl, ?_, ?_⟩, K1.out.trans hk (by simp)⟩
  · refine ⟨.slice Av l.length cv, w1.heap.size, w1.heap.size + 1, 0, .map [], 0, .map [], HOK.out, (by simpa [DiskS.open] using Blk.new ((w1.alloc (.map #[] 0)).alloc (.map #[] 0)) 60 [.int .i64 n, .slice Av l.length cv, .map (some w1.heap.size), .map (some (w1.heap.size + 1)), .int .i64 0, .int .i64 0]), ?_, ?_, Nat.zero_le _, ⟨?_, ?_, ?_⟩, ?_, Nat.zero_le _, fun _ => rfl, by omega, by simp, by simp, by simp, ?_, ?_⟩
    · show Row8 _ _ (DiskS.open n l).bytes
      rw [HBY.out]
      exact Own.mono (hvk.kept hk (by simp [Apart])) (Nat.zero_le _)
    · exact ((map_none w1 heldR).alloc _).alloc _
    · intro i hi hn
      rfl
    · intro i x hx
      change (List.replicate _ none)[i]?.join = some x at hx
      rw [List.getElem?_replicate] at hx
      split at hx <;> simp at hx
    · intro kl hkl; cases hkl
    · have := (map_none (w1.alloc (.map #[] 0)) Go.unitElem).alloc (.cells #[.int .i64 n, .slice Av l.length cv, .map (some w1.heap.size), .map (some (w1.heap.size + 1)), .int .i64 0, .int .i64 0] 60)
      simpa using this
    · intro g hg; simp [hg]
    · intro g hg
      simp only [List.mem_append, Option.mem_toList, List.mem_cons, List.not_mem_nil, or_false] at hg
      have := hvk.lt g
      rcases hg with hg | hg
      · have := (this hg).2; simp; omega
      · simp; omega
  · intro g hg
    have hs1 := K1.out.size
    simp only [List.mem_append, Option.mem_toList, List.mem_cons, List.not_mem_nil, or_false] at hg
    rcases hg with hg | hg
    · exact (hvk.lt g hg).1
    · omega
end Go.Proofs.Ytcbngmfbbdmlgaa
