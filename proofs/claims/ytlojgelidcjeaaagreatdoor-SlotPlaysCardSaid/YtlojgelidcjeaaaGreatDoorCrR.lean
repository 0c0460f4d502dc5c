/- PROVED: a text's check sum by dividing its bits is the one that goes bit by bit; zeros appended to a row of its own; the document's check sum: rows of bits, Bits. No conditions beyond those that each theorem states. -/
import Derived.WalkKit
import Derived.Laws.BitsLemmas
import Derived.Lib.AppendZerosOnto
import Derived.Laws.AppendOwn
import Derived.Test.YtlojgelidcjeaaaGreatDoorSlC
import Derived.Test.YtlojgelidcjeaaaGreatDoorClo
import Derived.Test.YtlojgelidcjeaaaGreatDoorRw
import Derived.IntWalk
namespace Go.Proofs.YtlojgelidcjeaaaGreatDoorLib
open Go.RowKit
set_option linter.unusedSimpArgs false
set_option linter.unusedVariables false

def polyV : BitVec 32 := 3988292384#32
def timesV (a : BitVec 32) : BitVec 32 := (a >>> 1) ^^^ (if a.getLsbD 0 then polyV else 0#32)
theorem timesV_get (a : BitVec 32) (k : Nat) : (timesV a).getLsbD k = ((a.getLsbD (k + 1)) ^^ (a.getLsbD 0 && polyV.getLsbD k)) := by
  unfold timesV
  rw [BitVec.getLsbD_xor, BitVec.getLsbD_ushiftRight, Nat.add_comm 1 k]
  split
  · rename_i h; rw [h, Bool.true_and]
  · rename_i h; rw [Bool.not_eq_true] at h; rw [h, Bool.false_and]; simp
theorem timesV_xor (a b : BitVec 32) : timesV (a ^^^ b) = timesV a ^^^ timesV b := by
  apply BitVec.eq_of_getLsbD_eq
  intro i _
  simp only [timesV_get, BitVec.getLsbD_xor]
  cases a.getLsbD (i + 1) <;> cases b.getLsbD (i + 1) <;> cases a.getLsbD 0 <;> cases b.getLsbD 0 <;> cases polyV.getLsbD i <;> rfl
def bitV (x : Bool) : BitVec 32 := if x then 1#32 else 0#32
theorem bitV_get (x : Bool) (k : Nat) : (bitV x).getLsbD k = (decide (k = 0) && x) := by
  cases x
  · simp [bitV]
  · simp [bitV]
def topV (x : Bool) : BitVec 32 := if x then 2147483648#32 else 0#32
theorem topV_get (x : Bool) (k : Nat) (hk : k < 32) : (topV x).getLsbD k = (decide (k = 31) && x) := by
  cases x
  · simp [topV]
  · exact (by decide : ∀ k : Fin 32, (topV true).getLsbD k.val = (decide (k.val = 31) && true)) ⟨k, hk⟩
/-- one bit -/
def cb (c : BitVec 32) (x : Bool) : BitVec 32 := timesV (c ^^^ bitV x)
def divs : List Nat := [0, 6, 9, 10, 16, 20, 21, 22, 24, 25, 27, 28, 30, 31, 32]
def flip1 (L : List Bool) (j : Nat) : List Bool := L.set j (!(L[j]?.getD false))
def flips (L : List Bool) (i : Nat) (D : List Nat) : List Bool := D.foldl (fun L d => flip1 L (i + d)) L
def divStep (L : List Bool) (i : Nat) : List Bool := if L[i]?.getD false then flips L i divs else L
def divN (L : List Bool) : Nat → List Bool
  | 0 => L
  | i + 1 => divStep (divN L i) i
theorem flip1_len (L : List Bool) (j : Nat) : (flip1 L j).length = L.length := by simp [flip1]
theorem flips_len (D : List Nat) (L : List Bool) (i : Nat) : (flips L i D).length = L.length := by
  induction D generalizing L with
  | nil => rfl
  | cons d D ih => exact (ih (flip1 L (i + d))).trans (flip1_len _ _)
theorem divStep_len (L : List Bool) (i : Nat) : (divStep L i).length = L.length := by
  unfold divStep; split
  · exact flips_len _ _ _
  · rfl
theorem divN_len (L : List Bool) (i : Nat) : (divN L i).length = L.length := by
  induction i with
  | zero => rfl
  | succ i ih => exact (divStep_len _ _).trans ih
theorem flip1_get (L : List Bool) (i j : Nat) : (flip1 L i)[j]? = (L[j]?).map (fun b => b ^^ (i == j)) := by
  unfold flip1
  rw [List.getElem?_set]
  by_cases h : i = j
  · subst h
    by_cases hi : i < L.length
    · rw [if_pos rfl, if_pos hi, List.getElem?_eq_getElem hi]; simp
    · rw [if_pos rfl, if_neg hi, List.getElem?_eq_none (by omega)]; rfl
  · rw [if_neg h]
    have : (i == j) = false := by simp [h]
    rw [this]
    cases L[j]? <;> simp
theorem flips_get (D : List Nat) (hD : D.Nodup) (L : List Bool) (i j : Nat) : (flips L i D)[j]? = (L[j]?).map (fun b => b ^^ D.any (fun d => i + d == j)) := by
  induction D generalizing L with
  | nil => show L[j]? = _; cases L[j]? <;> simp
  | cons d D ih =>
    show (flips (flip1 L (i + d)) i D)[j]? = _
    obtain ⟨h1, h2⟩ := List.nodup_cons.1 hD
    rw [ih h2, flip1_get]
    cases L[j]? with
    | none => rfl
    | some b =>
      simp only [Option.map_some, List.any_cons]
      congr 1
      by_cases h : i + d = j
      · have e1 : (i + d == j) = true := by simp [h]
        have e2 : D.any (fun d => i + d == j) = false := by
          rw [List.any_eq_false]
          intro x hx hxe
          have : x = d := by simp at hxe; omega
          exact h1 (this ▸ hx)
        rw [e1, e2]; simp
      · have e1 : (i + d == j) = false := by simp [h]
        rw [e1]; simp
theorem divs_any (i k : Nat) (hk : k < 32) : divs.any (fun d => i + d == i + 1 + k) = polyV.getLsbD k := by
  have e : (fun d => i + d == i + 1 + k) = (fun d => d == k + 1) := by
    funext d
    rw [Bool.eq_iff_iff]; simp; omega
  rw [e]
  exact (by decide : ∀ k : Fin 32, divs.any (fun d => d == k.val + 1) = polyV.getLsbD k.val) ⟨k, hk⟩
def Win (L : List Bool) (i : Nat) (V : BitVec 32) : Prop := ∀ k, k < 32 → L[i + k]? = some (V.getLsbD k)
theorem div_step {L : List Bool} {i : Nat} {V : BitVec 32} (h : Win L i V) (x : Bool) (hx : L[i + 32]? = some x) :
    Win (divStep L i) (i + 1) (timesV V ^^^ topV x) ∧ ∀ j, i + 33 ≤ j → (divStep L i)[j]? = L[j]? := by
  have h0 := h 0 (by omega)
  rw [Nat.add_zero] at h0
  have hw : ∀ k, k < 32 → L[i + 1 + k]? = some (if k = 31 then x else V.getLsbD (k + 1)) := by
    intro k hk
    by_cases e : k = 31
    · subst e; rw [if_pos rfl]; exact hx
    · rw [if_neg e, Nat.add_assoc, Nat.add_comm 1 k]; exact h (k + 1) (by omega)
  have hv : ∀ k, k < 32 → (timesV V ^^^ topV x).getLsbD k = ((if k = 31 then x else V.getLsbD (k + 1)) ^^ (V.getLsbD 0 && polyV.getLsbD k)) := by
    intro k hk
    rw [BitVec.getLsbD_xor, timesV_get, topV_get x k hk]
    by_cases e : k = 31
    · subst e
      rw [if_pos rfl, show V.getLsbD (31 + 1) = false from BitVec.getLsbD_of_ge V 32 (Nat.le_refl _)]
      cases x <;> cases V.getLsbD 0 <;> cases polyV.getLsbD 31 <;> rfl
    · rw [if_neg e]
      simp [e]
  unfold divStep
  rw [h0, Option.getD_some]
  cases hb : V.getLsbD 0 with
  | false =>
    rw [if_neg (by simp)]
    refine ⟨fun k hk => ?_, fun j _ => rfl⟩
    rw [hw k hk, hv k hk, hb]
    simp
  | true =>
    rw [if_pos rfl]
    refine ⟨fun k hk => ?_, fun j hj => ?_⟩
    · rw [flips_get _ (by decide), hw k hk, hv k hk, hb, divs_any i k hk]
      simp
    · rw [flips_get _ (by decide)]
      have : divs.any (fun d => i + d == j) = false := by
        rw [List.any_eq_false]
        intro d hd
        have h2 : ∀ d, d ∈ divs → d ≤ 32 := by decide
        have := h2 d hd
        simp; omega
      rw [this]
      cases L[j]? <;> simp
theorem exists_win (f : Nat → Bool) (n : Nat) (hn : n ≤ 32) : ∃ V : BitVec 32, ∀ k, k < 32 → V.getLsbD k = (decide (k < n) && f k) := by
  induction n with
  | zero => exact ⟨0#32, fun k _ => by simp⟩
  | succ n ih =>
    obtain ⟨V, hV⟩ := ih (by omega)
    refine ⟨V ||| (if f n then BitVec.twoPow 32 n else 0#32), fun k hk => ?_⟩
    rw [BitVec.getLsbD_or, hV k hk]
    by_cases h : f n
    · rw [if_pos h, BitVec.getLsbD_twoPow]
      by_cases e : n = k
      · subst e; simp [h]; omega
      · have e1 : decide (k < n + 1) = decide (k < n) := by rw [decide_eq_decide]; omega
        simp [e, e1]
    · rw [if_neg h]
      by_cases e : n = k
      · subst e; simp at h; simp [h]
      · have e1 : decide (k < n + 1) = decide (k < n) := by rw [decide_eq_decide]; omega
        simp [e1]
theorem win_of (L : List Bool) (i : Nat) (h : i + 32 ≤ L.length) : ∃ V, Win L i V := by
  obtain ⟨V, hV⟩ := exists_win (fun k => L[i + k]?.getD false) 32 (Nat.le_refl _)
  refine ⟨V, fun k hk => ?_⟩
  rw [hV k hk, List.getElem?_eq_getElem (by omega)]
  simp [hk]
theorem win_eq {L : List Bool} {i : Nat} {V U : BitVec 32} (h : Win L i V) (h' : Win L i U) : V = U :=
  BitVec.eq_of_getLsbD_eq fun k hk => by have := (h k hk).symm.trans (h' k hk); simpa using this
theorem div_inv (L o : List Bool) (c0 : BitVec 32) (hlen : L.length = o.length) (h0 : ∀ V, Win o 0 V → Win L 0 (c0 ^^^ V)) (ht : ∀ j, 32 ≤ j → L[j]? = o[j]?) (i : Nat) (hi : i + 32 ≤ o.length) :
    (∀ V, Win o i V → Win (divN L i) i ((o.take i).foldl cb c0 ^^^ V)) ∧ ∀ j, i + 32 ≤ j → (divN L i)[j]? = o[j]? := by
  induction i with
  | zero => exact ⟨h0, fun j hj => ht j (by omega)⟩
  | succ i ih =>
    obtain ⟨h1, h2⟩ := ih (by omega)
    obtain ⟨U, hU⟩ := win_of o i (by omega)
    have hx : o[i + 32]? = some o[i + 32] := List.getElem?_eq_getElem (by omega)
    have hy : o[i]? = some o[i] := List.getElem?_eq_getElem (by omega)
    obtain ⟨h3, h4⟩ := div_step (h1 U hU) o[i + 32] ((h2 (i + 32) (Nat.le_refl _)).trans hx)
    refine ⟨fun V hV => ?_, fun j hj => (h4 j (by omega)).trans (h2 j (by omega))⟩
    have e : timesV ((o.take i).foldl cb c0 ^^^ U) ^^^ topV o[i + 32] = (o.take (i + 1)).foldl cb c0 ^^^ V := by
      rw [List.take_add_one, hy, List.foldl_append]
      show _ = timesV ((o.take i).foldl cb c0 ^^^ bitV o[i]) ^^^ V
      generalize (o.take i).foldl cb c0 = c
      have hu0 : U.getLsbD 0 = o[i] := by have := hU 0 (by omega); rw [Nat.add_zero, hy] at this; simpa using this.symm
      have hv : ∀ k, k < 32 → V.getLsbD k = if k = 31 then o[i + 32] else U.getLsbD (k + 1) := by
        intro k hk
        have a := hV k hk
        by_cases ek : k = 31
        · subst ek
          rw [if_pos rfl]
          rw [show i + 1 + 31 = i + 32 by omega, hx] at a
          simpa using a.symm
        · rw [if_neg ek]
          have b := hU (k + 1) (by omega)
          rw [show i + 1 + k = i + (k + 1) by omega, b] at a
          simpa using a.symm
      apply BitVec.eq_of_getLsbD_eq
      intro k hk
      rw [BitVec.getLsbD_xor, BitVec.getLsbD_xor, timesV_get, timesV_get, topV_get _ k hk, hv k hk]
      simp only [BitVec.getLsbD_xor, bitV_get, hu0]
      by_cases ek : k = 31
      · subst ek
        rw [if_pos rfl, show U.getLsbD (31 + 1) = false from BitVec.getLsbD_of_ge U 32 (Nat.le_refl _)]
        simp
      · rw [if_neg ek]
        generalize c.getLsbD (k + 1) = a1
        generalize U.getLsbD (k + 1) = a2
        generalize c.getLsbD 0 = a3
        generalize o[i] = a4
        generalize polyV.getLsbD k = a5
        cases a1 <;> cases a2 <;> cases a3 <;> cases a4 <;> cases a5 <;> simp [ek]
    have h5 : Win (divN L (i + 1)) (i + 1) (timesV ((o.take i).foldl cb c0 ^^^ U) ^^^ topV o[i + 32]) := h3
    rw [e] at h5
    exact h5
/-- a word of 32 bits -/
def wordN (r : List Bool) : Nat → Nat
  | 0 => 0
  | m + 1 => 2 * wordN r m + (if r[31 - m]?.getD false then 1 else 0)
theorem wordN_eq (r : List Bool) (V : BitVec 32) (h : Win r 0 V) (m : Nat) (hm : m ≤ 32) : wordN r m = V.toNat / 2 ^ (32 - m) := by
  induction m with
  | zero => have := V.isLt; rw [Nat.sub_zero, Nat.div_eq_of_lt this]; rfl
  | succ m ih =>
    rw [wordN, ih (by omega)]
    have a := h (31 - m) (by omega)
    rw [Nat.zero_add] at a
    rw [a, Option.getD_some, ← BitVec.testBit_toNat, Nat.testBit_eq_decide_div_mod_eq, show 32 - m = (31 - m) + 1 by omega, show 32 - (m + 1) = 31 - m by omega, Nat.pow_succ, ← Nat.div_div_eq_div_mul]
    generalize V.toNat / 2 ^ (31 - m) = q
    have := Nat.div_add_mod q 2
    by_cases e : q % 2 = 1
    · simp [e]; omega
    · simp [e]; omega
/-- the bits of a byte -/
def bits8 (x : Nat) : List Bool := (List.range 8).map (fun k => decide (x / 2 ^ k % 2 = 1))
def bitsL (l : List Nat) : List Bool := l.flatMap bits8
theorem bits8_len (x : Nat) : (bits8 x).length = 8 := by simp [bits8]
theorem bitsL_len (l : List Nat) : (bitsL l).length = 8 * l.length := by
  induction l with
  | nil => rfl
  | cons x l ih => show (bits8 x ++ bitsL l).length = _; rw [List.length_append, ih, bits8_len, List.length_cons]; omega
def itV : Nat → BitVec 32 → BitVec 32
  | 0, a => a
  | k + 1, a => timesV (itV k a)
theorem shr_step (X : BitVec 32) (m : Nat) : timesV (bitV (X.getLsbD m) ^^^ (X >>> m)) = X >>> (m + 1) := by
  apply BitVec.eq_of_getLsbD_eq
  intro k hk
  rw [timesV_get]
  simp only [BitVec.getLsbD_xor, bitV_get, BitVec.getLsbD_ushiftRight, Nat.add_zero]
  simp
  rw [show m + (k + 1) = m + 1 + k by omega]
theorem it_bits (c X : BitVec 32) (m : Nat) : itV m (c ^^^ X) = ((List.range m).map (fun k => X.getLsbD k)).foldl cb c ^^^ (X >>> m) := by
  induction m with
  | zero => simp [itV]
  | succ m ih =>
    rw [itV, ih, List.range_succ, List.map_append, List.foldl_append]
    show _ = timesV (_ ^^^ bitV (X.getLsbD m)) ^^^ (X >>> (m + 1))
    generalize ((List.range m).map (fun k => X.getLsbD k)).foldl cb c = d
    rw [← shr_step X m, ← timesV_xor]
    congr 1
    rw [BitVec.xor_assoc, ← BitVec.xor_assoc (bitV _) (bitV _), BitVec.xor_self, BitVec.zero_xor]
theorem it8 (c : BitVec 32) (x : Nat) (hx : x < 256) : itV 8 (c ^^^ BitVec.ofNat 32 x) = (bits8 x).foldl cb c := by
  rw [it_bits]
  have e : BitVec.ofNat 32 x >>> 8 = 0#32 := by
    apply BitVec.eq_of_toNat_eq
    rw [BitVec.toNat_ushiftRight, BitVec.toNat_ofNat, Nat.mod_eq_of_lt (show x < 2 ^ 32 by omega), Nat.shiftRight_eq_div_pow]
    simp; omega
  rw [e, BitVec.xor_zero]
  congr 1
  unfold bits8
  apply List.map_congr_left
  intro k hk
  rw [← BitVec.testBit_toNat, BitVec.toNat_ofNat, Nat.mod_eq_of_lt (show x < 2 ^ 32 by omega), Nat.testBit_eq_decide_div_mod_eq]
def crcV (c : BitVec 32) (l : List Nat) : BitVec 32 := l.foldl (fun c x => itV 8 (c ^^^ BitVec.ofNat 32 x)) c
theorem crcV_bits (c : BitVec 32) (l : List Nat) (hl : ∀ x, x ∈ l → x < 256) : crcV c l = (bitsL l).foldl cb c := by
  induction l generalizing c with
  | nil => rfl
  | cons x l ih =>
    show crcV (itV 8 (c ^^^ BitVec.ofNat 32 x)) l = (bits8 x ++ bitsL l).foldl cb c
    rw [List.foldl_append, ← it8 c x (hl x List.mem_cons_self)]
    exact ih _ (fun y hy => hl y (List.mem_cons_of_mem _ hy))
/-- the first 32 the other way round -/
def inv32 (L : List Bool) : List Bool := L.zipIdx.map (fun p => p.1 ^^ decide (p.2 < 32))
theorem inv32_get (L : List Bool) (j : Nat) : (inv32 L)[j]? = (L[j]?).map (fun b => b ^^ decide (j < 32)) := by
  simp [inv32]
  cases L[j]? <;> rfl
theorem inv32_len (L : List Bool) : (inv32 L).length = L.length := by simp [inv32]
theorem ones_get (k : Nat) (hk : k < 32) : (4294967295#32).getLsbD k = true := (by decide : ∀ k : Fin 32, (4294967295#32).getLsbD k.val = true) ⟨k, hk⟩
/-- the sum, divided bit by bit -/
theorem sum_law (l : List Nat) (hl : ∀ x, x ∈ l → x < 256) (r : List Bool) (hr : r = inv32 ((divN (inv32 (bitsL l ++ List.replicate 32 false)) (8 * l.length)).drop (8 * l.length))) :
    wordN r 32 = (crcV 4294967295#32 l ^^^ 4294967295#32).toNat := by
  have ho : (bitsL l ++ List.replicate 32 false).length = 8 * l.length + 32 := by rw [List.length_append, bitsL_len, List.length_replicate]
  have hz : Win (bitsL l ++ List.replicate 32 false) (8 * l.length) 0#32 := fun k hk => by
    rw [List.getElem?_append_right (by rw [bitsL_len]; omega), bitsL_len, Nat.add_sub_cancel_left, List.getElem?_replicate, if_pos hk]
    simp
  obtain ⟨h1, -⟩ := div_inv (inv32 (bitsL l ++ List.replicate 32 false)) (bitsL l ++ List.replicate 32 false) 4294967295#32 (inv32_len _)
    (fun V hV k hk => by
      have a := hV k hk
      rw [inv32_get, a, Option.map_some, BitVec.getLsbD_xor, ones_get k hk, Nat.zero_add]
      simp [hk, Bool.xor_comm])
    (fun j hj => by
      rw [inv32_get]
      have : decide (j < 32) = false := by simp; omega
      rw [this]
      cases (bitsL l ++ List.replicate 32 false)[j]? <;> simp)
    (8 * l.length) (by omega)
  have h2 := h1 _ hz
  rw [List.take_append_of_le_length (by rw [bitsL_len]; exact Nat.le_refl _), List.take_of_length_le (by rw [bitsL_len]; exact Nat.le_refl _), BitVec.xor_zero, ← crcV_bits _ _ hl] at h2
  have h3 : Win r 0 (crcV 4294967295#32 l ^^^ 4294967295#32) := fun k hk => by
    have a := h2 k hk
    rw [hr, Nat.zero_add, inv32_get, List.getElem?_drop, a, Option.map_some, BitVec.getLsbD_xor, ones_get k hk]
    simp [hk]
  rw [wordN_eq r _ h3 32 (Nat.le_refl _)]
  simp
end Go.Proofs.YtlojgelidcjeaaaGreatDoorLib
namespace Go.Proofs.YtlojgelidcjeaaaGreatDoorLib
open Go
set_option linter.unusedSimpArgs false
set_option linter.unusedVariables false

theorem zeroCells_one {z : Value} (hz : z.cells = #[z]) (k : Nat) : Builtin.zeroCells z.cells k = (List.replicate k z).toArray := by
  rw [hz]
  apply Array.ext
  · simp [Builtin.zeroCells]
  · intro j h1 h2
    simp [Builtin.zeroCells, Nat.mod_one]
theorem run_append_own_zeros {P : Program} (w : World) (base : Nat) (t tn ty e : TypeId) (i : TypeInfo) (z : Value) (bytes : Nat) (kq kn : IntKind) (ht : P.underlying t = some (.slice e)) (htn : P.underlying tn = some (.int kn)) (hi : P.info? e = some i) (hz : i.zero = some z)
    (hsize : i.size = 1) (hby : i.bytes = bytes) (hzc : z.cells = #[z]) (hz1 : z.oneCell' = true)
    (v : Value) (n : Nat) (xs : List Value) (hown : w.ownsRow base e 1 v n xs) (k : Nat)
    (h63 : n + k ≤ maxLen) (hbytes : (n + k) * bytes ≤ 140737488355328) (hbase : base ≤ w.heap.size) :
    ∃ v' w', (Builtin.append_ #[t, tn] ty #[v, .int kq k]).run P w = .ok v' w' ∧ w'.ownsRow base e 1 v' (n + k) (xs ++ List.replicate k z) ∧ w.grownBy w' v.ownBlock := by
  subst hby
  have hw : IntKind.i64.wrap (k : Int) = k := by simp only [maxLen] at h63; rw [IntKind.wrap_i64]; omega
  have hneg : ¬ ((k : Int) < 0) := by omega
  have hkb : k * i.bytes ≤ (n + k) * i.bytes := Nat.mul_le_mul_right _ (by omega)
  have h48i : ¬ (281474976710656 < (k : Int) * (i.bytes : Int)) := by rw [← Int.natCast_mul]; omega
  have hlen : (xs ++ List.replicate k z).length = (n + k) * 1 := by rw [List.length_append, hown.1, List.length_replicate]; omega
  have hsmall : n + k ≤ 9223372036854775807 := by simp only [maxLen] at h63; omega
  have hsz : (Builtin.zeroCells z.cells k).size = k := by rw [zeroCells_one hzc]; simp
  have htl : (Builtin.zeroCells z.cells k).toList = List.replicate k z := by rw [zeroCells_one hzc]
  have grown : ∀ (old : Nat), old < n + k → ∀ (row : Option Nat),
      (w.drew.alloc (.cells (xs.toArray ++ Builtin.zeroCells z.cells k ++ Builtin.zeroCells z.cells (grownCap w (n + k) old e - (n + k))) e)).ownsRow base e 1
        (.slice (some ⟨w.heap.size, 0, none⟩) (n + k) (grownCap w (n + k) old e)) (n + k) (xs ++ List.replicate k z) ∧
      w.grownBy (w.drew.alloc (.cells (xs.toArray ++ Builtin.zeroCells z.cells k ++ Builtin.zeroCells z.cells (grownCap w (n + k) old e - (n + k))) e)) row := by
    intro old ho row
    have hge := grownCap_ge w (n + k) old e
    have hcm : grownCap w (n + k) old e ≤ maxLen := grownCap_le_maxLen w (n + k) old e h63
    have hx := hown.1
    refine ⟨⟨hlen, .inr ⟨w.heap.size, _, _, rfl, hbase, heap_alloc_new w.drew _, hge, hcm, ?_, ?_⟩⟩, ⟨rfl, rfl, rfl, by simp, fun k hk _ => by first | exact heap_alloc_old w.drew _ k hk | exact heap_alloc_old w.drew _ hk⟩⟩
    · simp only [Array.size_append, List.size_toArray, hsz, size_zeroCells, hzc]
      simp at hx ⊢
      omega
    · simp only [Array.toList_append, List.append_assoc, htl]
      rw [← List.append_assoc, ← hlen]
      exact List.take_left
  rcases hown.2 with ⟨rfl, rfl⟩ | ⟨g, cap, cur, rfl, hbg, hg, hnc, hcm, hcs, htake⟩
  · have hx : xs = [] := List.eq_nil_of_length_eq_zero (by simpa using hown.1)
    subst hx
    by_cases hk : k = 0
    · subst hk
      refine ⟨.slice none 0 0, w, ?_, World.ownsRow_nil w base e 1, ⟨rfl, rfl, rfl, Nat.le_refl _, fun _ _ _ => rfl⟩⟩
      simp [Builtin.append_, run_underlying ht, run_underlying htn, sizeOf, typeInfo, zeroValue, hi, hz, asInt, asIntOf, show IntKind.i64.wrap 0 = 0 from rfl, hsize, Builtin.lenOf, Builtin.firstCells, loadCells, loadCellsFrom]
    · have hr := Lib.run_append_nil_zeros (P := P) w t tn ty e i z kq kn ht htn hi hz k (by omega) (by omega) (by omega) (by omega)
      have hgr := grown 0 (by omega) (Value.ownBlock (.slice none 0 0))
      simp only [Nat.zero_add, List.nil_append, Array.empty_append] at hgr ⊢
      exact ⟨_, _, hr, hgr.1, hgr.2⟩
  · by_cases hroom : n + k ≤ cap
    · have hfit : n * 1 + (List.replicate k z).length ≤ cur.size := by rw [hcs, List.length_replicate]; omega
      have hst := run_storeCells_at P g (n * 1) e (List.replicate k z) 0 cur w hg (by simpa using hfit) (by intro u hu; rw [List.eq_of_mem_replicate hu]; exact hz1)
      simp only [Nat.add_zero] at hst
      have hr : (Builtin.append_ #[t, tn] ty #[.slice (some ⟨g, 0, none⟩) n cap, .int kq k]).run P w = .ok (.slice (some ⟨g, 0, none⟩) (n + k) cap) (w.setRow g (cur.toList.take (n * 1) ++ List.replicate k z ++ cur.toList.drop (n * 1 + (List.replicate k z).length)).toArray) := by
        by_cases hk : k = 0
        · subst hk
          simp only [List.replicate_zero] at hst ⊢
          simp [Builtin.append_, run_underlying ht, run_underlying htn, sizeOf, typeInfo, zeroValue, hi, hz, asInt, asIntOf, show IntKind.i64.wrap 0 = 0 from rfl, hsize, hnc, Addr.add_lit] at hst ⊢
          rw [hst]
          rfl
        · have hns : ¬ (k * 1 = 0) := by omega
          simp [Builtin.append_, run_underlying ht, run_underlying htn, sizeOf, typeInfo, zeroValue, hi, hz, asInt, asIntOf, hw, hneg, h48i, hsize, hk, hroom, zeroCells_one hzc, Addr.add_lit] at hst ⊢
          simp [hst]
      refine ⟨_, _, hr, ⟨hlen, .inr ⟨g, cap, _, rfl, hbg, setRow_heap w g cur _ e _ hg, hroom, hcm, ?_, ?_⟩⟩, ⟨rfl, rfl, rfl, by simp, fun k _ hk => setRow_other w g k _ (fun e => hk (by simp [Value.ownBlock, e]))⟩⟩
      · simp only [List.size_toArray, List.length_append, List.length_take, List.length_drop, Array.length_toList]
        omega
      · rw [htake, ← hlen]
        exact List.take_left
    · have hcap : cap < n + k := by omega
      have hk0 : 0 < k := by omega
      have holds : ∀ j u, xs[j]? = some u → w.cell? ((⟨g, 0, none⟩ : Addr).add j) = some u := hown.cells (g := g) rfl
      have hf := run_firstCells_some (P := P) w.drew i.size n ⟨g, 0, none⟩ n cap xs (by rw [hsize]; exact hown.1) (fun j u hj => holds j u hj)
      have hr := Lib.run_append_grow_zeros (P := P) w t tn ty e i z kq kn ht htn hi hz (some ⟨g, 0, none⟩) n cap xs hf k hk0 (by omega) hcap (by omega) (by omega) (growslice_fits (by omega) hbytes)
      have hgr := grown cap (by omega) (Value.ownBlock (.slice (some ⟨g, 0, none⟩) n cap))
      exact ⟨_, _, hr, hgr.1, hgr.2⟩
end Go.Proofs.YtlojgelidcjeaaaGreatDoorLib
namespace Go.Proofs.YtlojgelidcjeaaaGreatDoor
open Go.RowKit Go.Proofs.YtlojgelidcjeaaaGreatDoorLib Go.WideElems Go.Maps
set_option linter.unusedSimpArgs false
set_option linter.unusedVariables false

theorem infoB : (Tryz.prog.info? 4).map (fun i => (i.zero, i.size, i.bytes)) = some (some (.bool false), 1, 1) := by kernel_rfl
/-- a row of bits -/
abbrev RowB (w : World) (base : Nat) (v : Value) (L : List Bool) : Prop := w.ownsRow base 4 1 v L.length (L.map Value.bool)
theorem RowB.nil (w : World) (base : Nat) : RowB w base (.slice none 0 0) [] := World.ownsRow_nil _ _ _ _
theorem RowB.kept {w w1 : World} {base : Nat} {v : Value} {L : List Bool} {S : List Nat} (h : RowB w base v L) (hk : Kept w w1 S) (hS : Apart v S) : RowB w1 base v L := by
  obtain ⟨h1, h2⟩ := h
  refine ⟨h1, h2.imp id ?_⟩
  rintro ⟨g, cap, cur, rfl, hg, hc, r⟩
  refine ⟨g, cap, cur, rfl, hg, ?_, r⟩
  rw [hk.block g ((Array.getElem?_eq_some_iff.1 hc).1) (hS g rfl)]
  exact hc
theorem RowB.lt {w : World} {base : Nat} {v : Value} {L : List Bool} (h : RowB w base v L) : ∀ g, v.ownBlock = some g → base ≤ g ∧ g < w.heap.size := by
  obtain ⟨h1, ⟨rfl, _⟩ | ⟨g, cap, cur, rfl, hg, r, _⟩⟩ := h
  · intro g h; simp [Value.ownBlock] at h
  · intro g' h
    simp [Value.ownBlock] at h
    subst h
    exact ⟨hg, (Array.getElem?_eq_some_iff.1 r).1⟩
theorem RowB.form {w : World} {base : Nat} {v : Value} {L : List Bool} (h : RowB w base v L) : ∃ A c, v = .slice A L.length c ∧ L.length ≤ c ∧ c ≤ maxLen := by
  obtain ⟨h1, ⟨rfl, h0⟩ | ⟨g, cap, cur, rfl, hg, hc, h2, h3, h4, h5⟩⟩ := h
  · exact ⟨none, 0, by rw [h0], by omega, Nat.zero_le _⟩
  · exact ⟨_, cap, rfl, h2, h3⟩
theorem RowB.at {w : World} {base : Nat} {v : Value} {L : List Bool} (h : RowB w base v L) (hL : L ≠ []) : ∃ g c, v = .slice (some ⟨g, 0, none⟩) L.length c ∧ L.length ≤ c ∧ c ≤ maxLen ∧ (∀ (i : Nat) (x : Bool), L[i]? = some x → w.cell? ⟨g, i, none⟩ = some (.bool x)) ∧ (∀ i, w.frozen? ⟨g, i, none⟩ = false) := by
  obtain ⟨h1, ⟨rfl, h0⟩ | ⟨g, cap, cur, rfl, hg, hc, h2, h3, h4, h5⟩⟩ := h
  · exact absurd (List.eq_nil_of_length_eq_zero h0) hL
  · refine ⟨g, cap, rfl, h2, h3, fun i x hi => ?_, fun i => by simp [World.frozen?, hc]⟩
    have hlt : i < L.length := (List.getElem?_eq_some_iff.1 hi).1
    rw [Nat.mul_one] at h4 h5
    have e : cur[i]? = some (.bool x) := by
      have : (cur.toList.take L.length)[i]? = some (.bool x) := by rw [h5, List.getElem?_map, hi]; rfl
      rw [List.getElem?_take, if_pos hlt] at this
      simpa using this
    simp [World.cell?, hc, e]
/-- a bit is turned -/
theorem RowB.flip {w : World} {base : Nat} {v : Value} {L : List Bool} (h : RowB w base v L) {g : Nat} (hb : v.ownBlock = some g) {i : Nat} {x : Bool} (hi : L[i]? = some x) : RowB (w.setCell ⟨g, i, none⟩ (.bool !x)) base v (flip1 L i) := by
  obtain ⟨h1, ⟨rfl, _⟩ | ⟨g', cap, cur, rfl, hg, hc, h2, h3, h4, h5⟩⟩ := h
  · simp [Value.ownBlock] at hb
  · simp [Value.ownBlock] at hb
    subst hb
    rw [Nat.mul_one] at h4 h5
    have e : flip1 L i = L.set i (!x) := by unfold flip1; rw [hi]; rfl
    have el : (flip1 L i).length = L.length := flip1_len _ _
    refine ⟨by simp, .inr ⟨g', cap, cur.setIfInBounds i (.bool !x), by rw [el], hg, ?_, by rw [el]; exact h2, h3, by simpa using h4, ?_⟩⟩
    · simp [World.setCell, Array.getElem?_modify, hc]
    · simp only [el, Nat.mul_one, Array.toList_setIfInBounds]
      rw [List.take_set, h5, e, List.map_set]
/-- a bit appended -/
theorem bools_append {W : World} {base : Nat} {v : Value} {L : List Bool} (h : RowB W base v L) {q T : Nat} {x : Bool} (hq : Blk W q T [.bool x]) (hn : L.length ≤ 1000000000) (hbase : base ≤ W.heap.size) :
    ∃ v' w', (Builtin.append_ #[108, 108] 108 #[v, .slice (some ⟨q, 0, none⟩) 1 1]).run Tryz.prog W = .ok v' w' ∧ RowB w' base v' (L ++ [x]) ∧ Kept W w' v.ownBlock.toList := by
  obtain ⟨i0, hi, hz0, hz1, hz2⟩ := info_parts infoB
  obtain ⟨v', w', hrun, hown, hg, hn'⟩ := run_append_own (P := Tryz.prog) W base 108 108 4 i0 _ 1 1 Tryz.underlying108 hi hz0 hz1 hz2 rfl (by decide) v L.length (L.map Value.bool) h ⟨q, 0, none⟩ 1 1 [.bool x] rfl
    (fun j y hj => by rw [Addr.add_lit]; exact hq.cell (0 + j) (by rw [Nat.zero_add]; exact hj)) (by intro y hy; simp at hy; subst hy; rfl) (by unfold maxLen; omega) (by omega) hbase
  refine ⟨v', w', hrun, by unfold RowB; rw [List.length_append, List.map_append]; exact hown, Kept.grown hg _ (fun g hg => by simp [hg])⟩
/-- zeros appended -/
theorem bools_zeros {W : World} {base : Nat} {v : Value} {L : List Bool} (h : RowB W base v L) (k : Nat) (hn : L.length + k ≤ 1000000000) (hbase : base ≤ W.heap.size) :
    ∃ v' w', (Builtin.append_ #[108, 3] 108 #[v, .int .i64 k]).run Tryz.prog W = .ok v' w' ∧ RowB w' base v' (L ++ List.replicate k false) ∧ Kept W w' v.ownBlock.toList := by
  obtain ⟨i0, hi, hz0, hz1, hz2⟩ := info_parts infoB
  obtain ⟨v', w', hrun, hown, hg⟩ := run_append_own_zeros (P := Tryz.prog) W base 108 3 108 4 i0 (.bool false) 1 .i64 .i64 Tryz.underlying108 Tryz.underlying3 hi hz0 hz1 hz2 rfl rfl v L.length (L.map Value.bool) h k (by unfold maxLen; omega) (by omega) hbase
  refine ⟨v', w', hrun, by unfold RowB; rw [List.length_append, List.length_replicate, List.map_append, List.map_replicate]; exact hown, Kept.grown hg _ (fun g hg => by simp [hg])⟩
def bitsI (l : List Int) : List Bool := bitsL (l.map Int.toNat)
theorem bitsI_len (l : List Int) : (bitsI l).length = 8 * l.length := by unfold bitsI; rw [bitsL_len, List.length_map]
theorem bitsI_take (l : List Int) (k : Nat) (x : Nat) (hx : l[k]? = some (x : Int)) : bitsI (l.take (k + 1)) = bitsI (l.take k) ++ bits8 x := by
  unfold bitsI bitsL
  rw [List.take_add_one, hx, List.map_append, List.flatMap_append]
  simp
theorem bits8_take (x k : Nat) (hk : k < 8) : (bits8 x).take (k + 1) = (bits8 x).take k ++ [decide (x / 2 ^ k % 2 = 1)] := by
  rw [List.take_add_one]
  congr 1
  unfold bits8
  rw [List.getElem?_map, List.getElem?_range hk]
  rfl
set_option maxRecDepth 100000 in
set_option maxHeartbeats 4000000 in
theorem rbits_any (w : World) (v : Value) (b off : Nat) (l : List Int) (h : Sl .u8 w v b off l) (hB : Bts l) (hl : l.length ≤ 10000000) :
    Calls Tryz.prog 82 #[v] w (Post w [] fun r W => RowB W w.heap.size r (bitsI l)) := by
  obtain ⟨A, c, rfl⟩ := h.form
  have H := Lib.hid h
  have HB := Lib.hid hB
  have l0 : (0 : Int) ≤ l.length := by omega
  have l1 : (l.length : Int) ≤ 10000000 := by omega
  clear h hB
  go_enter Tryz.func82, Tryz.ntmps82
  go_wp2_with fail
  go_loopg [3, 4] l.length (fun g o i wr => ∃ k : Nat, k + g = l.length ∧ i = .int .i64 k ∧ RowB wr w.heap.size o (bitsI (l.take k)) ∧ Kept w wr [])
  case atStart => exact ⟨0, by omega, rfl, RowB.nil _ _, Kept.refl _ _⟩
  case round =>
    obtain ⟨k, hk, rfl, hrow, hkept⟩ := hrel
    have HK := Lib.hid hk
    have HKE := Lib.hid hkept
    have HRO := Lib.hid hrow
    obtain ⟨Ao, co, rfl, _, _⟩ := hrow.form
    clear hk hkept hrow
    by_cases hlt : k < l.length
    · have k0 : (0 : Int) ≤ k := by omega
      have k1 : (k : Int) < l.length := by omega
      have hx := List.getElem?_eq_getElem hlt
      obtain ⟨cx, gx⟩ := H.out.at (by intro e; rw [e] at hlt; simp at hlt)
      simp only [Value.slice.injEq] at gx
      obtain ⟨rfl, _, rfl⟩ := gx
      have dx := (H.out.kept HKE.out (.inr (by simp))).cell hx
      have hxb := HB.out.get hx
      generalize l[k] = x at *
      obtain ⟨x, rfl⟩ := Int.eq_ofNat_of_zero_le hxb.1
      have x1 : x ≤ 255 := by have := hxb.2; omega
      have x1' : (x : Int) ≤ 255 := by omega
      have x0' : (0 : Int) ≤ x := by omega
      have hxw : IntKind.i64.wrap (x : Int) = x := IntWalk.i64_in _ (by omega)
      have HST := Lib.hid (bitsI_take l k x hx)
      have HPL : Hid ((bitsI (l.take k)).length ≤ 80000000) := Lib.hid (by rw [bitsI_len, List.length_take]; omega)
      generalize bitsI (l.take k) = P at *
      clear hxb hx
      go_wp2_with fail
      obtain ⟨go, hgo⟩ : ∃ g, g = gk := ⟨_, rfl⟩
      have HGO := Lib.hid hgo
      clear hgo
      go_loopg [3, 5, 6] 8 (fun g o y j wx => ∃ m : Nat, m + g = 8 ∧ j = .int .i64 m ∧ y = .int .i64 ((x / 2 ^ m : Nat) : Int) ∧ RowB wx w.heap.size o (P ++ (bits8 x).take m) ∧ Kept w wx [])
      case atStart => exact ⟨0, by omega, rfl, by simp, by simpa using HRO.out, HKE.out⟩
      case round =>
        obtain ⟨m, hm, rfl, rfl, hrx, hkx⟩ := hrel
        have HM := Lib.hid hm
        have HKX := Lib.hid hkx
        have HRX := Lib.hid hrx
        obtain ⟨Ax, cx2, rfl, _, _⟩ := hrx.form
        clear hm hkx hrx
        by_cases hlm : m < 8
        · have m0 : (0 : Int) ≤ m := by omega
          have m1 : (m : Int) < 8 := by omega
          have hst := bits8_take x m hlm
          have hdl : x / 2 ^ m ≤ x := Nat.div_le_self _ _
          have hd2 : x / 2 ^ (m + 1) = x / 2 ^ m / 2 := by rw [Nat.pow_succ, Nat.div_div_eq_div_mul]
          have HD2 := Lib.hid hd2
          have hln : ((bits8 x).take m).length ≤ 8 := by rw [List.length_take, bits8_len]; omega
          obtain ⟨y, hy⟩ : ∃ y, y = x / 2 ^ m := ⟨_, rfl⟩
          rw [← hy] at hst hdl HD2 ⊢
          have hq2 : IntKind.i64.wrap ((y : Int) / 2) = ((y / 2 : Nat) : Int) := by rw [IntWalk.i64_in _ (by omega)]; omega
          obtain ⟨bb, hbb⟩ : ∃ bb, bb = decide (y % 2 = 1) := ⟨_, rfl⟩
          rw [← hbb] at hst
          have hbv : ((y : Int) % 2 == 1) = bb := by rw [hbb, Bool.eq_iff_iff]; simp; omega
          have y0 : (0 : Int) ≤ y := by omega
          have y1 : (y : Int) ≤ 255 := by omega
          have hb2 := Blk.new wr 4 [.bool bb]
          have hrx2 : RowB (wr.alloc (.cells #[.bool bb] 4)) w.heap.size (.slice Ax (P ++ (bits8 x).take m).length cx2) (P ++ (bits8 x).take m) := HRX.out.kept (S := []) ((Kept.refl wr []).alloc _) (by simp [Apart])
          obtain ⟨v7, w7, hap, ho7, k7⟩ := bools_append hrx2 hb2 (by rw [List.length_append]; have := HPL.out; omega) (by have := HKX.out.size; simp; omega)
          rw [List.append_assoc, ← hst] at ho7
          have HAP := Lib.hid hap
          have HO7 := Lib.hid ho7
          have K7 : Hid (Kept w w7 []) := Lib.hid ((HKX.out.alloc _).trans k7 (fun g hg => .inr (by simp only [Option.mem_toList] at hg; exact (HRX.out.lt g hg).1)))
          clear hb2 hrx2 hap ho7 k7 hst hbb hln hd2 hy
          generalize (P ++ (bits8 x).take m).length = nu at *
          go_wp2_with (first | (at_builtin; refine wpList_append_run rfl _ _ _ rfl rfl rfl HAP.out ?_))
          go_roundg (gk - 1)
          case measure => have := HM.out; omega
          case rel => exact ⟨m + 1, by have := HM.out; omega, by go_num, by rw [HD2.out]; simp, HO7.out, K7.out⟩
        · have hm8 : m = 8 := by have := HM.out; omega
          subst hm8
          have hrv : ∀ v, RowB wr w.heap.size v (P ++ (bits8 x).take 8) → RowB wr w.heap.size v (bitsI (l.take (k + 1))) := fun v hv => by
            rw [List.take_of_length_le (by rw [bits8_len]; exact Nat.le_refl _), ← HST.out] at hv
            exact hv
          have hrx := hrv _ HRX.out
          clear hrv
          have HRY := Lib.hid hrx
          clear hrx
          go_wp2_with fail
          go_roundg (go - 1)
          case measure => have := HK.out; have := HGO.out; omega
          case rel => exact ⟨k + 1, by have := HK.out; have := HGO.out; omega, by go_num, HRY.out, HKX.out⟩
    · have hkn : k = l.length := by have := HK.out; omega
      clear hlt
      subst hkn
      have hrv : ∀ v, RowB wr w.heap.size v (bitsI (l.take l.length)) → RowB wr w.heap.size v (bitsI l) := fun v hv => by rw [List.take_length] at hv; exact hv
      have hr := hrv _ HRO.out
      clear hrv
      have HR := Lib.hid hr
      clear hr
      go_wp2_with fail
      go_ret
      exact ⟨_, rfl, HR.out, HKE.out⟩
end Go.Proofs.YtlojgelidcjeaaaGreatDoor
