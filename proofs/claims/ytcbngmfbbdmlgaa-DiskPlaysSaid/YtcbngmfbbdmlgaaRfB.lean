/- PROVED: the document's disk: Open. No conditions beyond those that each theorem states. -/
import Derived.Test.YtcbngmfbbdmlgaaRfA
import Derived.Test.YtcbngmfbbdmlgaaSap
import Derived.Maps.AppendAt
namespace Go.Proofs.Ytcbngmfbbdmlgaa
open Go.RowKit Go.Proofs.YtcbngmfbbdmlgaaLib Go.WideElems Go.Maps
set_option linter.unusedSimpArgs false
set_option linter.unusedVariables false

theorem info8s : (Try.prog.info? 31).map (fun i => (i.zero, i.size, i.bytes)) = some (some (.slice none 0 0), 1, 24) := by kernel_rfl
/-- a slice appended to a row of slices -/
theorem rows_append {W : World} {v u : Value} {L : List Value} (h : Rows W v L) {q T : Nat} (hq : Blk W q T [u]) (h1 : u.oneCell' = true) (hn : L.length ≤ 1000000) :
    ∃ v' w', (Builtin.append_ #[40, 40] 40 #[v, .slice (some ⟨q, 0, none⟩) 1 1]).run Try.prog W = .ok v' w' ∧ Rows w' v' (L ++ [u]) ∧ Kept W w' v.ownBlock.toList ∧ ∀ g, v'.ownBlock = some g → v.ownBlock = some g ∨ g = W.heap.size := by
  obtain ⟨i0, hi, hz0, hz1, hz2⟩ := info_parts info8s
  obtain ⟨v', w', hrun, hown, hg, hn', hloc⟩ := run_append_own_at (P := Try.prog) W 0 40 40 31 i0 _ 1 24 Try.underlying40 hi hz0 hz1 hz2 rfl (by decide) v L.length L h ⟨q, 0, none⟩ 1 1 [u] rfl
    (fun j x hj => by rw [Addr.add_lit]; exact hq.cell (0 + j) (by rw [Nat.zero_add]; exact hj)) (by intro x hx; simp at hx; subst hx; exact h1) (by unfold maxLen; omega) (by omega) (Nat.zero_le _)
  refine ⟨v', w', hrun, by unfold Rows; rw [List.length_append]; exact hown, Kept.grown hg _ (fun g hg => by simp [hg]), fun g hg => ?_⟩
  rcases hloc with e | e
  · exact .inl (by rw [← e]; exact hg)
  · rw [e] at hg; simp at hg; exact .inr hg.symm
/-- a disk that is being made: k of its sectors are there -/
def DiskS.made (n : Nat) (l : List Int) (k : Nat) : DiskS := ⟨n, chop n l k, List.replicate k none, fun _ => false, 0, 0, 0⟩
theorem chop_get (n : Nat) (l : List Int) (N k : Nat) (hk : k < N) : (chop n l N)[k]? = some ((l.drop (k * n)).take n) := by
  induction N generalizing l k with
  | zero => omega
  | succ N ih =>
    cases k with
    | zero => simp [chop]
    | succ k =>
      rw [chop, List.getElem?_cons_succ, ih (l.drop n) k (by omega), List.drop_drop, Nat.succ_mul, Nat.add_comm n]
theorem chop_snoc (n : Nat) (l : List Int) (k : Nat) : chop n l (k + 1) = chop n l k ++ [(l.drop (k * n)).take n] := by
  apply List.ext_getElem?
  intro i
  by_cases h1 : i < k
  · rw [List.getElem?_append_left (by rw [length_chop]; exact h1), chop_get _ _ _ _ h1, chop_get _ _ _ _ (by omega)]
  · by_cases h2 : i = k
    · subst h2
      rw [chop_get _ _ _ _ (by omega), List.getElem?_append_right (by rw [length_chop]; exact Nat.le_refl _), length_chop, Nat.sub_self]
      rfl
    · rw [List.getElem?_eq_none (by rw [length_chop]; omega), List.getElem?_eq_none (by simp [length_chop]; omega)]
set_option maxRecDepth 100000 in
set_option maxHeartbeats 4000000 in
theorem ropen_no (w : World) (size : Int) (v : Value) (bq off : Nat) (l : List Int) (hs : Sl .u8 w v bq off l) (hz0 : -9223372036854775808 ≤ size) (hz1 : size ≤ 9223372036854775807) (h : ¬ OpenOk size l) :
    Calls Try.prog 23 #[.int .i64 size, v] w (Post w [] fun r W => r = .pointer none) := by
  have hln := hs.len
  unfold maxLen at hln
  obtain ⟨A, c, rfl, h1, h2, h3, h4⟩ := hs
  clear h1 h2 h3 h4
  have l0 : (0 : Int) ≤ l.length := by omega
  have l1 : (l.length : Int) ≤ 9223372036854775807 := by omega
  unfold OpenOk at h
  go_enter Try.func23, Try.ntmps23
  by_cases q1 : size < 1
  · go_wp2
    go_ret
    exact ⟨_, rfl, rfl, Kept.refl _ _⟩
  by_cases q2 : 4096 < size
  · have q1' : 1 ≤ size := by omega
    go_wp2
    go_ret
    exact ⟨_, rfl, rfl, Kept.refl _ _⟩
  obtain ⟨n, rfl⟩ := Int.eq_ofNat_of_zero_le (show 0 ≤ size by omega)
  have n1 : (1 : Int) ≤ n := by omega
  have n2 : (n : Int) ≤ 4096 := by omega
  have t3 : ((n : Int) == 0) = false := by rw [beq_eq_false_iff_ne]; omega
  by_cases q3 : l.length % n ≠ 0
  · have q4 : (((l.length : Int) % (n : Int)) != 0) = true := by simp; omega
    clear h
    go_wp2
    go_ret
    exact ⟨_, rfl, rfl, Kept.refl _ _⟩
  have q3' : l.length % n = 0 := by omega
  have q4 : (((l.length : Int) % (n : Int)) != 0) = false := by simp; omega
  have q5 : ¬ l.length / n ≤ 4096 := fun e => h ⟨n1, n2, by simpa using q3', by simpa using e⟩
  have q6 : decide (4096 < (l.length : Int) / (n : Int)) = true := by simp; omega
  have q7 := wrap_quo l.length n (by omega)
  clear h q3 q3'
  go_wp2
  go_ret
  exact ⟨_, rfl, rfl, Kept.refl _ _⟩
theorem made_ok {n : Nat} {l : List Int} (h : OpenOk (n : Int) l) (hB : Bts l) (k : Nat) (hk : k ≤ l.length / n) : (DiskS.made n l k).Ok := by
  obtain ⟨h1, h2, h3, h4⟩ := h
  simp only [Int.toNat_natCast] at h3 h4
  have e := Nat.div_mul_cancel (Nat.dvd_of_mod_eq_zero h3)
  refine ⟨by show 1 ≤ n; omega, by show n ≤ 4096; omega, by show (chop _ _ _).length ≤ _; rw [length_chop]; omega, by show (List.replicate _ _).length = (chop _ _ _).length; rw [length_chop, List.length_replicate], chop_sec _ _ _ (by have := Nat.mul_le_mul_right n hk; omega) hB, ?_, Nat.zero_le _, Nat.zero_le _, Nat.zero_le _⟩
  intro x hx
  change some x ∈ List.replicate _ none at hx
  rw [List.mem_replicate] at hx
  cases hx.2
/-- one sector more -/
theorem RDiskX.push {w w1 : World} {b n k : Nat} {l : List Int} {F F' X X' : List Nat} {vl vc vl' vc' u : Value} {Ls Cs : List Value} (h : RDiskX w b F X (DiskS.made n l k) vl vc (.slice none 0 0) Ls Cs []) (hok : (DiskS.made n l (k + 1)).Ok) (hk : Kept w w1 F)
    (hb : Blk w1 b 43 [.int .i64 n, vl', vc', .slice none 0 0, .int .i64 0, .int .i64 0]) (hl : Rows w1 vl' (Ls ++ [u])) (hc : Rows w1 vc' (Cs ++ [.slice none 0 0])) (hu : Cel w1 X' u (some ((l.drop (k * n)).take n)))
    (hF : ∀ g, g ∈ X' → g ∈ X ∨ w.heap.size ≤ g) (fb : b ∈ F') (fl : ∀ g, vl'.ownBlock = some g → g ∈ F') (fc : ∀ g, vc'.ownBlock = some g → g ∈ F') (ne : ∀ g, vl'.ownBlock = some g → vc'.ownBlock ≠ some g) (fx : ∀ g, g ∈ F' → g ∈ X') (lt : ∀ g, g ∈ X' → g < w1.heap.size)
    (hsec : ∀ (i : Nat) x, (chop n l k)[i]? = some x → ∃ bb c, Ls[i]? = some (.slice (some ⟨bb, 0, none⟩) x.length c) ∧ bb < w.heap.size) : RDiskX w1 b F' X' (DiskS.made n l (k + 1)) vl' vc' (.slice none 0 0) (Ls ++ [u]) (Cs ++ [.slice none 0 0]) [] := by
  have hll : Ls.length = k := h.ll.trans (length_chop _ _ _)
  have hlc : Cs.length = k := h.lc.trans (length_chop _ _ _)
  refine ⟨hok, hb, hl, hc, ?_, ?_, ?_, ?_, Own.nil _ _ _ _, fun _ => rfl, Nat.zero_le _, by simp, fb, fl, fc, by simp [Value.ownBlock], ne, fx, lt⟩
  · show (Ls ++ [u]).length = (chop n l (k + 1)).length; rw [length_chop]; simp [hll]
  · show (Cs ++ [_]).length = (chop n l (k + 1)).length; rw [length_chop]; simp [hlc]
  · intro i x hx
    change (chop n l (k + 1))[i]? = some x at hx
    rw [chop_snoc, List.getElem?_append] at hx
    split at hx
    · rename_i hi
      obtain ⟨y, hy, hcel⟩ := h.lel i x hx
      have hi' : i < Ls.length := by rw [length_chop] at hi; omega
      refine ⟨y, by rw [List.getElem?_append_left hi']; exact hy, ?_⟩
      obtain ⟨b1, c1, e1, s1, n1⟩ := hcel
      obtain ⟨b2, c2, e2, lt2⟩ := hsec i x hx
      have : b2 = b1 := by rw [hy, e1] at e2; simp at e2; exact e2.1.symm
      subst this
      refine ⟨b2, c1, e1, s1.kept hk (.inr (fun hm => n1 (h.fx _ hm))), fun hm => ?_⟩
      rcases hF _ hm with h1 | h1
      · exact n1 h1
      · omega
    · rename_i hi
      rw [length_chop] at hi
      have hik : i - k = 0 := by
        have := (List.getElem?_eq_some_iff.1 hx).1
        rw [length_chop] at this
        simp at this; omega
      rw [length_chop, hik] at hx
      simp at hx
      subst hx
      exact ⟨u, by rw [List.getElem?_append_right (by omega), show i - Ls.length = 0 by omega]; rfl, hu⟩
  · intro i o ho
    change (List.replicate (k + 1) none)[i]? = some o at ho
    rw [List.getElem?_replicate] at ho
    split at ho
    · rename_i hi
      simp only [Option.some.injEq] at ho
      subst ho
      by_cases hik : i < k
      · obtain ⟨y, hy, hcel⟩ := h.cel i none (by show (List.replicate k none)[i]? = _; rw [List.getElem?_replicate, if_pos hik])
        exact ⟨y, by rw [List.getElem?_append_left (by omega)]; exact hy, hcel⟩
      · exact ⟨.slice none 0 0, by rw [List.getElem?_append_right (by omega), show i - Cs.length = 0 by omega]; rfl, rfl⟩
    · cases ho
end Go.Proofs.Ytcbngmfbbdmlgaa
