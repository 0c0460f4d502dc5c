/- PROVED: the document's disk: one more operation that is to fail. No conditions beyond those that each theorem states. -/
import Derived.Test.YtlojgelidcjeaaaGreatDoorRfG
import Derived.Test.YtlojgelidcjeaaaGreatDoorRfX
namespace Go.Proofs.YtlojgelidcjeaaaGreatDoor
open Go.RowKit Go.Proofs.YtlojgelidcjeaaaGreatDoorLib Go.WideElems Go.Maps
set_option linter.unusedSimpArgs false
set_option linter.unusedVariables false

def RDiskOn (w : World) (n b : Nat) (F X : List Nat) (s : DiskS) : Prop := ∃ F' X', (∀ g, g ∈ F' → g ∈ F ∨ n ≤ g) ∧ (∀ g, g ∈ X → g ∈ X') ∧ (∀ g, g ∈ X' → g ∈ X ∨ n ≤ g) ∧ RDisk w b F' X' s
theorem RDisk.on {w : World} {n b : Nat} {F X : List Nat} {s : DiskS} (h : RDisk w b F X s) : RDiskOn w n b F X s := ⟨F, X, fun _ hg => .inl hg, fun _ hg => hg, fun _ hg => .inl hg, h⟩
/-- a number appended to a row of them -/
theorem ints_append {W : World} {v : Value} {P : List Int} (h : Own 3 .i64 W 0 v P) {q T : Nat} {x : Int} (hq : Blk W q T [.int .i64 x]) (hn : P.length ≤ 1000000000) :
    ∃ v' w', (Builtin.append_ #[55, 55] 55 #[v, .slice (some ⟨q, 0, none⟩) 1 1]).run Tryz.prog W = .ok v' w' ∧ Own 3 .i64 w' 0 v' (P ++ [x]) ∧ Kept W w' v.ownBlock.toList ∧ ∀ g, v'.ownBlock = some g → v.ownBlock = some g ∨ g = W.heap.size := by
  obtain ⟨i0, hi, hz0, hz1, hz2⟩ := info_parts infoI
  obtain ⟨v', w', hrun, hown, hg, hn', hloc⟩ := run_append_own_at (P := Tryz.prog) W 0 55 55 3 i0 _ 1 8 Tryz.underlying55 hi hz0 hz1 hz2 rfl (by decide) v P.length (P.map (Value.int .i64)) h ⟨q, 0, none⟩ 1 1 [.int .i64 x] rfl
    (fun j y hj => by rw [Addr.add_lit]; exact hq.cell (0 + j) (by rw [Nat.zero_add]; exact hj)) (by intro y hy; simp at hy; subst hy; rfl) (by unfold maxLen; omega) (by omega) (Nat.zero_le _)
  refine ⟨v', w', hrun, by unfold Own; rw [List.length_append, List.map_append]; exact hown, Kept.grown hg _ (fun g hg => by simp [hg]), fun g hg => ?_⟩
  rcases hloc with e | e
  · exact .inl (by rw [← e]; exact hg)
  · rw [e] at hg; simp at hg; exact .inr hg.symm
/-- one more that is to fail -/
theorem RDiskX.planned0 {w : World} {b : Nat} {F X : List Nat} {s : DiskS} {vl vc vp : Value} {Ls Cs : List Value} {P : List Int} (h : RDiskX w b F X s vl vc vp Ls Cs P) (hm : s.marks < 1000000000) {n : Int} (h0 : -9223372036854775808 ≤ n) (h1 : n ≤ 9223372036854775807) :
    ∃ v' w7 w8, (Builtin.append_ #[55, 55] 55 #[vp, .slice (some ⟨w.heap.size, 0, none⟩) 1 1]).run Tryz.prog ((w.alloc (.cells #[.int .i64 n] 3)).drew) = .ok v' w7 ∧ w7.setCell ⟨b, 3, none⟩ v' = w8 ∧ w7.cell? ⟨b, 4, none⟩ = some (.int .i64 s.ops) ∧ (∃ u, w7.cell? ⟨b, 3, none⟩ = some u) ∧ w7.frozen? ⟨b, 3, none⟩ = false ∧
      RDiskOn w8 w.heap.size b F X (s.fail n) ∧ Kept w w8 F ∧ ∃ A' c', v' = .slice A' (P ++ [n]).length c' := by
  have hkm := h.pln
  have k1 : Kept w ((w.alloc (.cells #[.int .i64 n] 3)).drew) [] := ((Kept.refl _ _).alloc _).drew
  have hbn : Blk ((w.alloc (.cells #[.int .i64 n] 3)).drew) w.heap.size 3 [.int .i64 n] := Blk.new w 3 [.int .i64 n]
  obtain ⟨v', w7, hap, ho7, k7, hloc⟩ := ints_append (h.pla.kept k1 (by simp [Apart])) hbn (by omega)
  have k17 : Kept w w7 vp.ownBlock.toList := (k1.mono (by simp)).trans k7 (fun g hg => .inl hg)
  have nb : b ∉ vp.ownBlock.toList := by simp only [Option.mem_toList]; exact Own.ne_cells h.pla h.blk (by decide)
  have hS : ∀ g, g ∈ vp.ownBlock.toList → g ∈ F := fun g hg => by simp only [Option.mem_toList] at hg; exact h.fp g hg
  have hb7 := h.blk.kept k17 nb
  have n1 : ∀ g, vl.ownBlock = some g → g ∉ vp.ownBlock.toList := fun g hg hm => by simp only [Option.mem_toList] at hm; exact h.las.ne_own h.pla (by decide) g hg hm
  have n2 : ∀ g, vc.ownBlock = some g → g ∉ vp.ownBlock.toList := fun g hg hm => by simp only [Option.mem_toList] at hm; exact h.cac.ne_own h.pla (by decide) g hg hm
  have k8 : Kept w7 (w7.setCell ⟨b, 3, none⟩ v') [b] := (Kept.refl _ _).setCell (by simp) _
  have q1 := h.las.ne_cells h.blk (by decide)
  have q2 := h.cac.ne_cells h.blk (by decide)
  have q3 := Own.ne_cells ho7 hb7 (by decide)
  have hbS : ∀ g, g ∈ [b] → g ∈ F := fun g hg => by simp at hg; subst hg; exact h.fb
  have h17 := k17.size
  refine ⟨v', w7, _, hap, rfl, hb7.cell 4 rfl, ⟨_, hb7.cell 3 rfl⟩, hb7.free 3, ⟨F ++ v'.ownBlock.toList, X ++ v'.ownBlock.toList, ?_, fun g hg => List.mem_append.2 (.inl hg), ?_, vl, vc, v', Ls, Cs, P ++ [n], ?_⟩, (k17.mono (fun g hg => .inl (hS g hg))).trans k8 (fun g hg => .inl (hbS g hg)), ho7.sl.choose_spec.1.form⟩
  · intro g hg
    simp only [List.mem_append, Option.mem_toList] at hg
    rcases hg with hg | hg
    · exact .inl hg
    · rcases hloc g hg with e | e
      · exact .inl (h.fp g e)
      · right
        have : ((w.alloc (.cells #[.int .i64 n] 3)).drew).heap.size = w.heap.size + 1 := by simp
        omega
  · intro g hg
    simp only [List.mem_append, Option.mem_toList] at hg
    rcases hg with hg | hg
    · exact .inl hg
    · rcases hloc g hg with e | e
      · exact .inl (h.fx _ (h.fp g e))
      · right
        have : ((w.alloc (.cells #[.int .i64 n] 3)).drew).heap.size = w.heap.size + 1 := by simp
        omega
  have hinF : ∀ {g}, g ∈ F → g ∈ F ++ v'.ownBlock.toList := fun hg => List.mem_append.2 (.inl hg)
  have hcel : ∀ u o, (∀ l, o = some l → Sec s.size l) → Cel w X u o → Cel (w7.setCell ⟨b, 3, none⟩ v') (X ++ v'.ownBlock.toList) u o := by
    intro u o hsec hc
    have hc2 := (hc.kept k17 (fun g hg => h.fx _ (hS g hg))).kept k8 (fun g hg => h.fx _ (hbS g hg))
    cases o with
    | none => exact hc2
    | some l =>
      obtain ⟨b0, c0, e0, s0, nb0⟩ := hc
      obtain ⟨b1, c1, e1, s1, n1⟩ := hc2
      obtain rfl : b0 = b1 := by rw [e0] at e1; simp at e1; exact e1.1
      refine ⟨b0, c1, e1, s1, fun hm => ?_⟩
      simp only [List.mem_append, Option.mem_toList] at hm
      rcases hm with hm | hm
      · exact n1 hm
      · have hl0 : l ≠ [] := by intro e; have h1 := (hsec l rfl).1; have h2 := h.ok.s1; rw [e] at h1; simp at h1; omega
        have hlt := s0.lt hl0
        rcases hloc _ hm with e | e
        · exact nb0 (h.fx _ (h.fp _ e))
        · have : ((w.alloc (.cells #[.int .i64 n] 3)).drew).heap.size = w.heap.size + 1 := by simp
          omega
  refine ⟨⟨h.ok.s1, h.ok.s2, h.ok.n1, h.ok.nc, h.ok.ls, h.ok.cs, h.ok.op, h.ok.wr, by show s.marks + 1 ≤ _; omega⟩, (hb7.set 3 v').to rfl, rows_kept (rows_kept h.las k17 n1) k8 (fun g hg hm => by simp at hm; subst hm; exact q1 hg), rows_kept (rows_kept h.cac k17 n2) k8 (fun g hg hm => by simp at hm; subst hm; exact q2 hg), h.ll, h.lc,
    fun i l hl => let ⟨u, a, c⟩ := h.lel i l hl; ⟨u, a, hcel _ _ (fun l' e => by cases e; exact h.ok.ls l (List.mem_of_getElem? hl)) c⟩, fun i l hl => let ⟨u, a, c⟩ := h.cel i l hl; ⟨u, a, hcel _ _ (fun l' e => by subst e; exact h.ok.cs l' (List.mem_of_getElem? hl)) c⟩, ho7.kept k8 (fun g hg hm => by simp at hm; subst hm; exact q3 hg), ?_, ?_, ?_, hinF h.fb, fun g hg => hinF (h.fl g hg), fun g hg => hinF (h.fc g hg), fun g hg => List.mem_append.2 (.inr (by simp only [Option.mem_toList]; exact hg)), h.ne, fun g hg => (List.mem_append.1 hg).elim (fun h1 => List.mem_append.2 (.inl (h.fx g h1))) (fun h1 => List.mem_append.2 (.inr h1)), ?_⟩
  · intro m
    show (s.plan m || m == n) = (P ++ [n]).contains m
    rw [h.pof]
    simp
    by_cases e : m = n <;> simp [e]
  · show (P ++ [n]).length ≤ s.marks + 1
    simp; omega
  · intro x hx
    rcases List.mem_append.1 hx with hx | hx
    · exact h.pbd x hx
    · simp at hx; subst hx; exact ⟨h0, h1⟩
  · intro g hg
    have hs8 : (w7.setCell ⟨b, 3, none⟩ v').heap.size = w7.heap.size := by simp [World.setCell]
    rw [hs8]
    rcases List.mem_append.1 hg with hg | hg
    · exact Nat.lt_of_lt_of_le (h.xlt g hg) h17
    · simp only [Option.mem_toList] at hg; exact (ho7.lt g hg).2
theorem RDiskX.planned {w : World} {b : Nat} {F X : List Nat} {s : DiskS} {vl vc vp : Value} {Ls Cs : List Value} {P : List Int} (h : RDiskX w b F X s vl vc vp Ls Cs P) (hm : s.marks < 1000000000) {n : Int} (h0 : -9223372036854775808 ≤ n) (h1 : n ≤ 9223372036854775807) :
    ∃ A' n' c' w7 w8, (Builtin.append_ #[55, 55] 55 #[vp, .slice (some ⟨w.heap.size, 0, none⟩) 1 1]).run Tryz.prog ((w.alloc (.cells #[.int .i64 n] 3)).drew) = .ok (.slice A' n' c') w7 ∧ w7.setCell ⟨b, 3, none⟩ (.slice A' n' c') = w8 ∧ w7.cell? ⟨b, 4, none⟩ = some (.int .i64 s.ops) ∧ (∃ u, w7.cell? ⟨b, 3, none⟩ = some u) ∧ w7.frozen? ⟨b, 3, none⟩ = false ∧
      RDiskOn w8 w.heap.size b F X (s.fail n) ∧ Kept w w8 F := by
  obtain ⟨v', w7, w8, hap, hw8, y3, z3, f3, hfin, hk, A', c', e⟩ := h.planned0 hm h0 h1
  subst e
  exact ⟨A', _, c', w7, w8, hap, hw8, y3, z3, f3, hfin, hk⟩
end Go.Proofs.YtlojgelidcjeaaaGreatDoor
