/- PROVED: plain laws of what a chip that is written to has. No conditions beyond those that each theorem states. -/
import Derived.Test.YtdpiaibjpaalhaaDoorEpY
namespace Go.Proofs.YtdpiaibjpaalhaaDoorLib
set_option linter.unusedSimpArgs false
set_option linter.unusedVariables false

theorem lookup_cons_self (p : Nat) (y : Int) (C : List (Nat × Int)) : List.lookup p ((p, y) :: C) = some y := by simp [List.lookup_cons]
theorem lookup_cons_ne {i p : Nat} (y : Int) (C : List (Nat × Int)) (h : i ≠ p) : List.lookup i ((p, y) :: C) = List.lookup i C := by
  rw [List.lookup_cons, show (i == p) = false by rw [beq_eq_false_iff_ne]; exact h]
theorem laid_nil (d : List Int) : laid d [] = d := by
  apply List.ext_getElem?
  intro i
  rw [laid_get]
  simp
theorem laid_cons (d : List Int) (p : Nat) (y : Int) (C : List (Nat × Int)) : laid d ((p, y) :: C) = (laid d C).set p y := by
  apply List.ext_getElem?
  intro i
  rw [laid_get, List.getElem?_set, laid_get, length_laid]
  by_cases e : p = i
  · subst e
    rw [lookup_cons_self, if_pos rfl]
    by_cases h : p < d.length
    · rw [if_pos h, List.getElem?_eq_getElem h]; rfl
    · rw [if_neg h, List.getElem?_eq_none (by omega)]; rfl
  · rw [lookup_cons_ne _ _ (fun h => e h.symm), if_neg e]
theorem nextL_succ (P p n : Nat) : nextL P p (n + 1) = nextIn P (nextL P p n) := by
  induction n generalizing p with
  | zero => rfl
  | succ n ih =>
    show nextL P (nextIn P p) (n + 1) = nextIn P (nextL P (nextIn P p) n)
    exact ih _
theorem collL_snoc (P p : Nat) (l : List Int) (y : Int) (C : List (Nat × Int)) : collL P p (l ++ [y]) C = (nextL P p l.length, y) :: collL P p l C := by
  induction l generalizing p C with
  | nil => rfl
  | cons x l ih =>
    show collL P (nextIn P p) (l ++ [y]) ((p, x) :: C) = _
    rw [ih]
    rfl
/-- the place of a data byte -/
def placeN (P at' i : Nat) : Nat := at' - at' % P + (at' % P + i) % P
theorem nextIn_eq (P p : Nat) : nextIn P p = p / P * P + (p % P + 1) % P := by
  unfold nextIn
  have h : p + 1 - p / P * P = p % P + 1 := by
    have := Nat.div_add_mod p P
    rw [Nat.mul_comm] at this
    omega
  rw [h]
theorem nextL_place (P at' i : Nat) (hP : 0 < P) : nextL P at' i = placeN P at' i := by
  have e0 : at' / P * P = at' - at' % P := by
    have := Nat.div_add_mod at' P
    rw [Nat.mul_comm] at this
    omega
  have hm := Nat.mod_lt at' hP
  induction i with
  | zero =>
    show at' = placeN P at' 0
    unfold placeN
    rw [Nat.add_zero, Nat.mod_mod]
    have := Nat.mod_le at' P
    omega
  | succ i ih =>
    rw [nextL_succ, ih, nextIn_eq]
    unfold placeN
    have hr := Nat.mod_lt (at' % P + i) hP
    have hd : (at' - at' % P + (at' % P + i) % P) / P = at' / P := by
      rw [← e0, Nat.mul_comm, Nat.mul_add_div hP, Nat.div_eq_of_lt hr]; rfl
    have hmm : (at' - at' % P + (at' % P + i) % P) % P = (at' % P + i) % P := by
      rw [← e0, Nat.mul_comm, Nat.mul_add_mod, Nat.mod_mod]
    rw [hd, hmm, e0]
    congr 1
    rw [Nat.mod_add_mod, Nat.add_assoc]
/-- what is wanted when so many bytes were written -/
def wantK (d : List Int) (P at' : Nat) (l : List Int) (i : Nat) : List Int := laid d (collL P at' (l.take i) [])
theorem wantK_zero (d : List Int) (P at' : Nat) (l : List Int) : wantK d P at' l 0 = d := by
  unfold wantK
  rw [List.take_zero]
  exact laid_nil d
theorem wantK_succ (d : List Int) (P at' : Nat) (l : List Int) (i : Nat) (y : Int) (hP : 0 < P) (hy : l[i]? = some y) : wantK d P at' l (i + 1) = (wantK d P at' l i).set (placeN P at' i) y := by
  unfold wantK
  have hi := (List.getElem?_eq_some_iff.1 hy).1
  rw [List.take_add_one, hy]
  show laid d (collL P at' (l.take i ++ [y]) []) = _
  rw [collL_snoc, laid_cons, List.length_take, Nat.min_eq_left (Nat.le_of_lt hi), nextL_place P at' i hP]
theorem wantK_len (d : List Int) (P at' : Nat) (l : List Int) (i : Nat) : (wantK d P at' l i).length = d.length := length_laid _ _
theorem wantK_bts {d l : List Int} (hd : Bts d) (hl : Bts l) (P at' : Nat) (i : Nat) (hP : 0 < P) : Bts (wantK d P at' l i) := by
  induction i with
  | zero => rw [wantK_zero]; exact hd
  | succ i ih =>
    cases hy : l[i]? with
    | none =>
      have : l.take (i + 1) = l.take i := by rw [List.take_add_one, hy]; simp
      unfold wantK at ih ⊢
      rw [this]; exact ih
    | some y => rw [wantK_succ d P at' l i y hP hy]; exact ih.set _ (hl.get hy)
theorem placeN_lt {P at' n : Nat} (i : Nat) (hP : 0 < P) (hd : P ∣ n) (h : at' < n) : placeN P at' i < n := by
  obtain ⟨q, rfl⟩ := hd
  unfold placeN
  have e0 : at' / P * P = at' - at' % P := by
    have := Nat.div_add_mod at' P
    rw [Nat.mul_comm] at this
    omega
  have hr := Nat.mod_lt (at' % P + i) hP
  have h2 : at' / P < q := Nat.div_lt_of_lt_mul h
  have h3 : (at' / P + 1) * P ≤ q * P := Nat.mul_le_mul_right _ h2
  rw [Nat.succ_mul] at h3
  have e : q * P = P * q := Nat.mul_comm _ _
  omega
theorem puts_snoc (s : EpS) (l : List Int) (y : Int) : s.puts (l ++ [y]) = (s.puts l).put1 y ∧ s.acks (l ++ [y]) = s.acks l + (s.puts l).ack y := by
  induction l generalizing s with
  | nil =>
    rw [List.nil_append, puts_cons, puts_nil, puts_nil, acks_cons, acks_nil, acks_nil]
    exact ⟨rfl, by omega⟩
  | cons x l ih =>
    rw [List.cons_append, puts_cons, puts_cons, acks_cons, acks_cons]
    obtain ⟨h1, h2⟩ := ih (s.put1 x)
    exact ⟨h1, by rw [h2]; omega⟩
/-- behind a Stop -/
theorem stop_armed {s : EpS} {k : Nat} {d : List Int} {p : Nat} {C wa : List (Nat × Int)} (h : s.Armed k d p C wa) (hC : C ≠ []) :
    (s.runs false endL).Rests ∧ (s.runs false endL).data = d ∧ (s.runs false endL).left = 50 ∧ (s.runs false endL).waits = C ∧ (s.runs false endL).kind = k ∧ (s.runs false endL).pointer = p := by
  rw [end_listens s .store false h.li (.inl h.le)]
  have hst : EpS.stopped { s with scl := true, sda := true, bits := 1, clock := s.clock + 3, left := s.left - 3 } false = true := by
    have h1 := h.li.hp
    have h2 := h.co
    show (!s.coll.isEmpty && !s.pulls && (1 : Nat) == 1 && !false) = true
    rw [h1, h2]
    cases C with
    | nil => exact absurd rfl hC
    | cons c C => rfl
  refine ⟨stop_rests _ _ rfl rfl, ?_, ?_, ?_, ?_, ?_⟩ <;> unfold EpS.stop <;> rw [if_pos hst]
  · exact h.da
  · rfl
  · exact h.co
  · exact h.kd
  · exact h.po
theorem collL_ne' (P : Nat) (l : List Int) : ∀ (p : Nat) (C : List (Nat × Int)), C ≠ [] → collL P p l C ≠ [] := by
  induction l with
  | nil => intro p C h; exact h
  | cons y l ih => intro p C h; exact ih _ _ (by simp)
theorem collL_ne (P p : Nat) (l : List Int) (h : l ≠ []) : collL P p l [] ≠ [] := by
  cases l with
  | nil => exact absurd rfl h
  | cons y l => exact collL_ne' P l _ _ (by simp)
theorem new_calm (k : Nat) (d : List Int) : (EpS.new k d).Calm := ⟨rfl, .inl rfl⟩
/-- WHAT IS WRITTEN TO AN ADDRESS: the plain law -/
theorem writes_law {k : Nat} (h1 : 1 ≤ k) (h2 : k ≤ 10) (d : List Int) (hd : d.length = geoBytes k) (at' : Nat) (hat : at' < geoBytes k) (l : List Int) (hb : Bts l) (hl : l ≠ []) :
    (EpS.new k d).aimAcks k at' + ((EpS.new k d).aimed k at').acks l = 1 + geoWide k + l.length ∧
    ((((EpS.new k d).aimed k at').puts l).runs false endL).Rests ∧
    ((((EpS.new k d).aimed k at').puts l).runs false endL).left = 50 ∧
    ((((EpS.new k d).aimed k at').puts l).runs false endL).data = d ∧
    laid ((((EpS.new k d).aimed k at').puts l).runs false endL).data ((((EpS.new k d).aimed k at').puts l).runs false endL).waits = wantK d (geoPage k) at' l l.length ∧
    ((((EpS.new k d).aimed k at').puts l).runs false endL).pointer = placeN (geoPage k) at' l.length := by
  have hgb := geo_bd h1 h2
  obtain ⟨a1, a2⟩ := aimed_armed h1 h2 (new_calm k d) rfl rfl hd at' hat
  have a1 : ((EpS.new k d).aimed k at').Armed k d at' [] [] := a1
  obtain ⟨b1, b2⟩ := puts_armed l a1 hb
  have hC := collL_ne (geoPage k) at' l hl
  obtain ⟨c1, c2, c3, c4, c5, c6⟩ := stop_armed b1 hC
  refine ⟨by rw [a2, b2], c1, c3, c2, ?_, ?_⟩
  · rw [c2, c4]
    unfold wantK
    rw [List.take_of_length_le (Nat.le_refl _)]
  · rw [c6, nextL_place _ _ _ (by omega)]
end Go.Proofs.YtdpiaibjpaalhaaDoorLib
