/- PROVED: plain lemmas on spans; both Reads of a slot, whatever it is; an append within a drawn region. No conditions beyond those that each theorem states. -/
import Derived.Test.YtlojgelidcjeaaaGreatDoorSlU
import Derived.Test.YtlojgelidcjeaaaGreatDoorRiB
import Derived.Test.YtlojgelidcjeaaaGreatDoorSlGr
namespace Go.Proofs.YtlojgelidcjeaaaGreatDoor
open Go.RowKit Go.Proofs.YtlojgelidcjeaaaGreatDoorLib
set_option linter.unusedSimpArgs false
set_option linter.unusedVariables false

def freshM (sz : Int) : Nat := (32 + sz % 100).toNat
theorem freshM_bd (sz : Int) : 32 ≤ freshM sz ∧ freshM sz ≤ 131 ∧ (freshM sz : Int) = 32 + sz % 100 := by unfold freshM; omega
theorem span_few {e f g : Int} (hr : gRight e f g = true) (ht : gTotal e f g ≤ 500) (m : Nat) (h1 : 32 ≤ m) (h2 : m ≤ 4096) : spanN m e f g ≤ 17 ∧ 1 ≤ spanN m e f g := by
  rw [spanN_eq hr h1 h2]
  have h3 : secs (gTotal e f g) m ≤ 16 := by
    unfold secs
    apply Nat.le_of_lt_succ
    rw [Nat.div_lt_iff_lt_mul (by omega)]
    omega
  omega
end Go.Proofs.YtlojgelidcjeaaaGreatDoor
namespace Go.Proofs.YtlojgelidcjeaaaGreatDoor
open Go.RowKit Go.Proofs.YtlojgelidcjeaaaGreatDoorLib Go.WideElems Go.Maps
set_option linter.unusedSimpArgs false
set_option linter.unusedVariables false

theorem step_append_at2 {P : Program} {ops : Array Oper} {o : Oper} {a : Act} {w w' W0 : World} {K : Act → World → Prop} {Q : Exit → Act → World → Prop} {E : Prop} {v1 v2 v' : Value} (t tn ty : TypeId) (hr : (Builtin.append_ #[t, tn] ty #[v1, v2]).run P W0 = .ok v' w') (s x : Operand) (hW : w = W0) (hgd : o.guard = none)
    (ho : o.op = .call { callee := .builtin .append, args := #[s, x], argTypes := #[t, tn] }) (hty : o.type = ty) (hs : a.eval s = v1) (hx : a.eval x = v2)
    (h : K (a.put o.dst v') w') : if Region.wanted o (yielded ops a.tmps) = true then Oper.wp P o a w K Q else E := by
  subst hW
  subst hty
  have hw : Region.wanted o (yielded ops a.tmps) = true := by simp [Region.wanted, hgd]
  rw [if_pos hw]
  unfold Oper.wp
  simp [execOp, ho, resolve, invoke, builtin, hs, hx, hr, Result.andThen]
  exact h
/-- zeros appended to bytes -/
theorem u8_zeros {W : World} {base : Nat} {v : Value} {l : List Int} (h : Own 5 .u8 W base v l) (k : Nat) (hn : l.length + k ≤ 1000000000) (hbase : base ≤ W.heap.size) :
    ∃ v' w', (Builtin.append_ #[35, 3] 35 #[v, .int .i64 k]).run Tryz.prog W = .ok v' w' ∧ Own 5 .u8 w' base v' (l ++ List.replicate k 0) ∧ Kept W w' v.ownBlock.toList := by
  obtain ⟨i0, hi, hz0, hz1, hz2⟩ := info_parts info8
  obtain ⟨v', w', hrun, hown, hg⟩ := run_append_own_zeros (P := Tryz.prog) W base 35 3 35 5 i0 (.int .u8 0) 1 .i64 .i64 Tryz.underlying35 Tryz.underlying3 hi hz0 hz1 hz2 rfl rfl v l.length (l.map (Value.int .u8)) h k (by unfold maxLen; omega) (by omega) hbase
  refine ⟨v', w', hrun, by unfold Own; rw [List.length_append, List.length_replicate, List.map_append, List.map_replicate]; exact hown, Kept.grown hg _ (fun g hg => by simp [hg])⟩
theorem readsM_last (s : DiskS) (a n : Nat) : (readsM s a n).1.last = s.last := by
  induction n generalizing s a with
  | zero => rfl
  | succ n ih =>
    rw [readsM]
    split
    · rfl
    · exact (ih s.tick (a + 1)).trans rfl
theorem readM_last (s : DiskS) (which e f g : Int) : (readM s which e f g).1.last = s.last := by
  unfold readM
  split
  · rfl
  split
  · rfl
  split
  · rfl
  split
  · rfl
  split
  · exact (readsM_last _ _ _).trans rfl
  split
  · exact (readsM_last _ _ _).trans rfl
  · exact (readsM_last _ _ _).trans rfl
theorem read_both (w : World) (hg : GeoLaid w) (b : Nat) (F : List Nat) (s : DiskS) (h : DiskAt w b F s) (hF : ∀ x, x ∈ F → nGlobals ≤ x) (ho : s.ops < 800000000) (which e f g : Int) (hs4 : s.size ≤ 4096) (hfew : fewG e f g = true) :
    Calls Tryz.prog 15 #[pt b, .int .i64 which, geoW e f g] w (Post w [b] (ReadP w b F (readM s which e f g))) := by
  by_cases hw : atWhy s which e f g = 0
  · obtain ⟨hr, _, hsz, _⟩ := atWhy_yes hw
    have ht : gTotal e f g ≤ 500 := by unfold fewG at hfew; rw [hr] at hfew; simpa using hfew
    exact read_yes w hg b F s h hF ho which e f g hw (Nat.le_trans (span_few hr ht s.size hsz hs4).1 (by decide))
  · exact read_no w hg b F s h which e f g hw
theorem rslot_both (w : World) (b : Nat) (F X : List Nat) (s : DiskS) (h : RDisk w b F X s) (ho : s.ops < 800000000) (which e f g : Int) (hs4 : s.size ≤ 4096) (hfew : fewG e f g = true) :
    Calls Tryz.prog 16 #[pt b, .int .i64 which, geoW e f g] w (Post w [b] (RReadP w b F X (readM s which e f g))) := by
  by_cases hw : atWhy s which e f g = 0
  · obtain ⟨hr, _, hsz, _⟩ := atWhy_yes hw
    have ht : gTotal e f g ≤ 500 := by unfold fewG at hfew; rw [hr] at hfew; simpa using hfew
    exact rslot_yes w b F X s h ho which e f g hw (Nat.le_trans (span_few hr ht s.size hsz hs4).1 (by decide))
  · exact rslot_no w b F X s h which e f g hw
end Go.Proofs.YtlojgelidcjeaaaGreatDoor
