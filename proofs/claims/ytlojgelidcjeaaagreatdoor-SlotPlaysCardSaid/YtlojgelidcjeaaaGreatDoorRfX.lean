/- PROVED: the document's disk: Open, where it can be; the document's disk: a cell of its rows is turned; Read and Write; the document's disk beside another one. No conditions beyond those that each theorem states. -/
import Derived.Test.YtlojgelidcjeaaaGreatDoorRfB
import Derived.IntWalk
import Derived.Lib.SliceRun
namespace Go.Proofs.YtlojgelidcjeaaaGreatDoor
open Go.RowKit Go.Proofs.YtlojgelidcjeaaaGreatDoorLib Go.WideElems Go.Maps
set_option linter.unusedSimpArgs false
set_option linter.unusedVariables false

/-- which rows the sectors have -/
def SecRows (w : World) (Ls : List Value) (S : List (List Int)) : Prop := ∀ (i : Nat) (x : List Int), S[i]? = some x → ∃ bb c, Ls[i]? = some (.slice (some ⟨bb, 0, none⟩) x.length c) ∧ bb < w.heap.size
set_option maxRecDepth 100000 in
set_option maxHeartbeats 8000000 in
theorem ropen_yes (w : World) (n : Nat) (v : Value) (bq off : Nat) (l : List Int) (hs : Sl .u8 w v bq off l) (hB : Bts l) (h : OpenOk (n : Int) l) (X0 : List Nat) (hX0 : ∀ g, g ∈ X0 → g < w.heap.size) :
    Calls Tryz.prog 35 #[.int .i64 n, v] w (Post w [] fun r W => ∃ b F, r = .pointer (some ⟨b, 0, none⟩) ∧ RDisk W b F (X0 ++ F) (DiskS.open n l) ∧ ∀ g, g ∈ F → w.heap.size ≤ g) := by
  have hoo := h
  obtain ⟨g1, g2, g3, g4⟩ := h
  simp only [Int.toNat_natCast] at g3 g4
  have hln := hs.len
  unfold maxLen at hln
  have HSL := Lib.hid hs
  have HBT := Lib.hid hB
  have HOO := Lib.hid hoo
  obtain ⟨A, c, rfl, h1, h2, h3, h4⟩ := hs
  obtain ⟨N, hN⟩ : ∃ N, N = l.length / n := ⟨_, rfl⟩
  have eN : N * n = l.length := by rw [hN]; exact Nat.div_mul_cancel (Nat.dvd_of_mod_eq_zero g3)
  have hN4 : N ≤ 4096 := by omega
  have hll : l.length ≤ 16777216 := by have : N * n ≤ 4096 * 4096 := Nat.mul_le_mul hN4 (by omega); omega
  have l0 : (0 : Int) ≤ l.length := by omega
  have l1 : (l.length : Int) ≤ 16777216 := by omega
  have t3 : ((n : Int) == 0) = false := by rw [beq_eq_false_iff_ne]; omega
  have q4 : (((l.length : Int) % (n : Int)) != 0) = false := by simp; omega
  have q6 : decide (4096 < (l.length : Int) / (n : Int)) = false := by simp; omega
  have q7 := wrap_quo l.length n (by omega)
  have tg1 : decide ((n : Int) < 1) = false := by simp; omega
  have tg2 : decide ((4096 : Int) < (n : Int)) = false := by simp; omega
  have HN := Lib.hid hN
  have EN := Lib.hid eN
  have H1 := Lib.hid h1
  have H2 := Lib.hid h2
  have H3 := Lib.hid h3
  obtain ⟨i0, hi, hz0, hz1, hz2⟩ := info_parts info8
  have HI := Lib.hid hi
  have HZ0 := Lib.hid hz0
  have HZ1 := Lib.hid hz1
  have HZ2 := Lib.hid hz2
  clear hi hz0 hz1 hz2 g3 g4 h1 h2 h3 h4 hB hoo hN eN hln
  go_enter Tryz.func35, Tryz.ntmps35
  go_wp2_with fail
  generalize hwb : w.alloc (.cells #[.int .i64 n, .slice none 0 0, .slice none 0 0, .slice none 0 0, .int .i64 0, .int .i64 0] 58) = wb
  have kb : Kept w wb [] := by rw [← hwb]; exact (Kept.refl _ _).alloc _
  have hbx : Blk wb w.heap.size 58 [.int .i64 n, .slice none 0 0, .slice none 0 0, .slice none 0 0, .int .i64 0, .int .i64 0] := by rw [← hwb]; exact Blk.new _ _ _
  have HBX := Lib.hid hbx
  have KB := Lib.hid kb
  clear hwb hbx kb
  have HX0 := Lib.hid hX0
  have hok0 := made_ok HOO.out HBT.out 0 (Nat.zero_le _)
  have h00 : RDiskX wb w.heap.size [w.heap.size] (X0 ++ [w.heap.size]) (DiskS.made n l 0) (.slice none 0 0) (.slice none 0 0) (.slice none 0 0) [] [] [] :=
    ⟨hok0, HBX.out, ⟨rfl, .inl ⟨rfl, rfl⟩⟩, ⟨rfl, .inl ⟨rfl, rfl⟩⟩, rfl, rfl, fun i l hl => by simp [DiskS.made, chop] at hl, fun i o ho => by simp [DiskS.made] at ho, Own.nil _ _ _ _, fun _ => rfl, Nat.zero_le _, by simp, by simp, by simp [Value.ownBlock], by simp [Value.ownBlock], by simp [Value.ownBlock], by simp [Value.ownBlock], fun g hg => List.mem_append.2 (.inr hg), fun g hg => (List.mem_append.1 hg).elim (fun h => Nat.lt_of_lt_of_le (HX0.out g h) KB.out.size) (fun h => by simp at h; subst h; exact HBX.out.lt)⟩
  have H00 := Lib.hid h00
  clear hok0 h00 q7 hX0
  go_loopg [6] N (fun g i wr => ∃ (k : Nat) (F : List Nat) (vl vc : Value) (Ls Cs : List Value), k + g = N ∧ i = .int .i64 (k * n : Nat) ∧ RDiskX wr w.heap.size F (X0 ++ F) (DiskS.made n l k) vl vc (.slice none 0 0) Ls Cs [] ∧ SecRows wr Ls (chop n l k) ∧ (∀ g, g ∈ F → w.heap.size ≤ g) ∧ Kept w wr [])
  case atStart => exact ⟨0, _, _, _, _, _, by omega, by simp, H00.out, fun i x hx => by simp [chop] at hx, fun g hg => by simp at hg; omega, KB.out⟩
  case round =>
    obtain ⟨k, F, vl, vc, Ls, Cs, hk, rfl, hx, hsec, hF, hkr⟩ := hrel
    have HK := Lib.hid hk
    have HX := Lib.hid hx
    have HSEC := Lib.hid hsec
    have HF := Lib.hid hF
    have HKR := Lib.hid hkr
    obtain ⟨Al, cl, rfl, _, _⟩ := hx.las.form
    obtain ⟨Ac, cc, rfl, _, _⟩ := hx.cac.form
    clear hk hx hsec hF hkr
    by_cases hlt : k < N
    · have hmn : k * n + n ≤ l.length := by rw [← EN.out, ← Nat.succ_mul]; exact Nat.mul_le_mul_right _ hlt
      have hl0 : l ≠ [] := by intro e; rw [e] at hmn; simp at hmn; omega
      obtain rfl := H3.out hl0
      have hkl : Ls.length = k := HX.out.ll.trans (length_chop _ _ _)
      have hkc : Cs.length = k := HX.out.lc.trans (length_chop _ _ _)
      have hokS := made_ok HOO.out HBT.out (k + 1) (by rw [← HN.out]; omega)
      have hgetS := chop_get n l N k hlt
      have hsec4 : ((l.drop (k * n)).take n).length = n := by simp; omega
      have HOKS := Lib.hid hokS
      have hmul : (k + 1) * n = k * n + n := Nat.succ_mul _ _
      have HMUL := Lib.hid hmul
      have HFB := Lib.hid HX.out.fb
      -- the sector's own row
      have hbw := HX.out.blk.lt
      have hpart := (HSL.out.kept HKR.out (.inr (by simp))).part (k * n) n (c - k * n) hmn (by have := H1.out; omega) (by have := H2.out; omega) (by omega)
      have kE : Kept wr ((wr.alloc (.cells #[] 5)).drew) [] := ((Kept.refl _ _).alloc _).drew
      have hE : Own 5 .u8 ((wr.alloc (.cells #[] 5)).drew) wr.heap.size (.slice (some ⟨wr.heap.size, 0, none⟩) 0 0) [] := World.ownsRow_made (base := wr.heap.size) (e := 5) (size := 1) wr #[] 0 (Nat.le_refl _) (Nat.zero_le _) rfl
      obtain ⟨v7, w7, hap, ho7, k7⟩ := own_append (P := Tryz.prog) Tryz.underlying35 HI.out HZ0.out HZ1.out HZ2.out hE (hpart.kept kE (.inr (by simp))) (by rw [hsec4]; simp; omega) (by rw [hsec4]; unfold maxLen; simp; omega) (by simp) 35
      rw [List.nil_append] at ho7
      have k07 : Kept wr w7 [] := kE.trans k7 (by simp [Value.ownBlock])
      obtain ⟨b7, hs7, h57⟩ := ho7.sl
      obtain ⟨c7, rfl⟩ := hs7.at (by intro e; rw [e] at hsec4; simp at hsec4; omega)
      have hb7 := ho7.lt b7 (by simp [Value.ownBlock])
      -- appended to the lasting ones
      have hx7 := HX.out.kept k07
      have k78 : Kept w7 (w7.alloc (.cells #[.slice (some ⟨b7, 0, none⟩) ((l.drop (k * n)).take n).length c7] 35)) [] := (Kept.refl _ _).alloc _
      obtain ⟨v9, w9, hap9, ho9, k9, hloc9⟩ := rows_append (rows_kept hx7.las k78 (by simp [Apart])) (Blk.new w7 35 [.slice (some ⟨b7, 0, none⟩) ((l.drop (k * n)).take n).length c7]) rfl (by omega)
      obtain ⟨A9, c9, rfl, _, _⟩ := ho9.form
      have hb0F : w.heap.size ∈ F := HX.out.fb
      have hb0lt := HX.out.lt _ hb0F
      have hneb : (Value.slice Al Ls.length cl).ownBlock ≠ some w.heap.size := HX.out.las.ne_cells HX.out.blk (by decide)
      have hnec : (Value.slice Ac Cs.length cc).ownBlock ≠ some w.heap.size := HX.out.cac.ne_cells HX.out.blk (by decide)
      have k09 : Kept wr w9 (Value.slice Al Ls.length cl).ownBlock.toList := ((k07.trans k78 (by simp)).mono (by simp)).trans k9 (fun g hg => .inl hg)
      have hs1 : wr.heap.size ≤ w7.heap.size := k07.size
      have hs2 : w7.heap.size + 1 ≤ w9.heap.size := by have := k9.size; simpa using this
      have hb9 := HX.out.blk.kept k09 (by simp only [Option.mem_toList]; exact hneb)
      have hb10 := hb9.set 1 (.slice A9 (Ls ++ [Value.slice (some ⟨b7, 0, none⟩) ((l.drop (k * n)).take n).length c7]).length c9)
      have k9s : Kept w9 (w9.setCell ⟨w.heap.size, 1, none⟩ (.slice A9 (Ls ++ [Value.slice (some ⟨b7, 0, none⟩) ((l.drop (k * n)).take n).length c7]).length c9)) [w.heap.size] := (Kept.refl _ _).setCell (by simp) _
      have hc10 := rows_kept (rows_kept HX.out.cac k09 (fun g hg hm => by simp only [Option.mem_toList] at hm; exact HX.out.ne g hm hg)) k9s (fun g hg hm => by simp at hm; subst hm; exact hnec hg)
      have hl10 := rows_kept ho9 k9s (fun g hg hm => by
        simp at hm; subst hm
        rcases hloc9 _ hg with h | h
        · exact hneb h
        · simp at h; omega)
      have hs10 : (w9.setCell ⟨w.heap.size, 1, none⟩ (.slice A9 (Ls ++ [Value.slice (some ⟨b7, 0, none⟩) ((l.drop (k * n)).take n).length c7]).length c9)).heap.size = w9.heap.size := by simp [World.setCell]
      have k910 := k9s
      generalize hw10 : w9.setCell ⟨w.heap.size, 1, none⟩ (.slice A9 (Ls ++ [Value.slice (some ⟨b7, 0, none⟩) ((l.drop (k * n)).take n).length c7]).length c9) = w10 at *
      have kA : Kept w10 (w10.alloc (.cells #[.slice none 0 0] 35)) [] := (Kept.refl _ _).alloc _
      obtain ⟨v12, w12, hap12, ho12, k12, hloc12⟩ := rows_append (rows_kept hc10 kA (by simp [Apart])) (Blk.new w10 35 [.slice none 0 0]) rfl (by omega)
      obtain ⟨A12, c12, rfl, _, _⟩ := ho12.form
      have hs3 : w10.heap.size + 1 ≤ w12.heap.size := by have := k12.size; simpa using this
      have hvcF : ∀ g, (Value.slice Ac Cs.length cc).ownBlock = some g → g < wr.heap.size := fun g hg => HX.out.lt g (HX.out.fc g hg)
      have hvlF : ∀ g, (Value.slice Al Ls.length cl).ownBlock = some g → g < wr.heap.size := fun g hg => HX.out.lt g (HX.out.fl g hg)
      have h9 : ∀ g, (Value.slice A9 (Ls ++ [Value.slice (some ⟨b7, 0, none⟩) ((l.drop (k * n)).take n).length c7]).length c9).ownBlock = some g → (Value.slice Al Ls.length cl).ownBlock = some g ∨ g = w7.heap.size + 1 := fun g hg => (hloc9 g hg).imp id (fun h => by simpa using h)
      have h12 : ∀ g, (Value.slice A12 (Cs ++ [Value.slice none 0 0]).length c12).ownBlock = some g → (Value.slice Ac Cs.length cc).ownBlock = some g ∨ g = w10.heap.size + 1 := fun g hg => (hloc12 g hg).imp id (fun h => by simpa using h)
      have kC : Kept w10 w12 (Value.slice Ac Cs.length cc).ownBlock.toList := (kA.mono (by simp)).trans k12 (fun g hg => .inl hg)
      have hb12 := hb10.kept kC (by simp only [Option.mem_toList]; exact hnec)
      have hb13 := hb12.set 2 (.slice A12 (Cs ++ [Value.slice none 0 0]).length c12)
      have k13 : Kept w12 (w12.setCell ⟨w.heap.size, 2, none⟩ (.slice A12 (Cs ++ [Value.slice none 0 0]).length c12)) [w.heap.size] := (Kept.refl _ _).setCell (by simp) _
      have hl13 := rows_kept (rows_kept hl10 kC (fun g hg hm => by
        simp only [Option.mem_toList] at hm
        rcases h9 g hg with h | h
        · exact HX.out.ne g h hm
        · have := hvcF g hm; omega)) k13 (fun g hg hm => by
        simp at hm; subst hm
        rcases h9 _ hg with h | h
        · exact hneb h
        · omega)
      have hc13 := rows_kept ho12 k13 (fun g hg hm => by
        simp at hm; subst hm
        rcases h12 _ hg with h | h
        · exact hnec h
        · omega)
      have hs7' : Sl .u8 (w12.setCell ⟨w.heap.size, 2, none⟩ (.slice A12 (Cs ++ [Value.slice none 0 0]).length c12)) (.slice (some ⟨b7, 0, none⟩) ((l.drop (k * n)).take n).length c7) b7 0 ((l.drop (k * n)).take n) := by
        refine ((((hs7.kept k78 (.inr (by simp))).kept k9 (.inr (fun hm => ?_))).kept k910 (.inr (fun hm => ?_))).kept kC (.inr (fun hm => ?_))).kept k13 (.inr (fun hm => ?_))
        · simp only [Option.mem_toList] at hm; have := hvlF _ hm; omega
        · simp at hm; omega
        · simp only [Option.mem_toList] at hm; have := hvcF _ hm; omega
        · simp at hm; omega
      have k10t : Kept wr w10 F := (k09.mono (fun g hg => by simp only [Option.mem_toList] at hg; exact .inl (HX.out.fl g hg))).trans k910 (fun g hg => by simp at hg; subst hg; exact .inl hb0F)
      have ktot : Kept wr (w12.setCell ⟨w.heap.size, 2, none⟩ (.slice A12 (Cs ++ [Value.slice none 0 0]).length c12)) F := (k10t.trans kC (fun g hg => by simp only [Option.mem_toList] at hg; exact .inl (HX.out.fc g hg))).trans k13 (fun g hg => by simp at hg; subst hg; exact .inl hb0F)
      have hFm : ∀ g, g ∈ [w.heap.size] ++ (Value.slice A9 (Ls ++ [Value.slice (some ⟨b7, 0, none⟩) ((l.drop (k * n)).take n).length c7]).length c9).ownBlock.toList ++ (Value.slice A12 (Cs ++ [Value.slice none 0 0]).length c12).ownBlock.toList → g ∈ F ∨ g = w7.heap.size + 1 ∨ g = w10.heap.size + 1 := by
        intro g hg
        simp only [List.mem_append, List.mem_singleton, Option.mem_toList] at hg
        rcases hg with (rfl | hg) | hg
        · exact .inl hb0F
        · rcases h9 g hg with h | h
          · exact .inl (HX.out.fl g h)
          · exact .inr (.inl h)
        · rcases h12 g hg with h | h
          · exact .inl (HX.out.fc g h)
          · exact .inr (.inr h)
      have hsz13 : (w12.setCell ⟨w.heap.size, 2, none⟩ (.slice A12 (Cs ++ [Value.slice none 0 0]).length c12)).heap.size = w12.heap.size := by simp [World.setCell]
      have hpush := RDiskX.push (w := wr) HX.out hokS ktot (hb13.to rfl) hl13 hc13 (F' := [w.heap.size] ++ (Value.slice A9 (Ls ++ [Value.slice (some ⟨b7, 0, none⟩) ((l.drop (k * n)).take n).length c7]).length c9).ownBlock.toList ++ (Value.slice A12 (Cs ++ [Value.slice none 0 0]).length c12).ownBlock.toList) (X' := X0 ++ ([w.heap.size] ++ (Value.slice A9 (Ls ++ [Value.slice (some ⟨b7, 0, none⟩) ((l.drop (k * n)).take n).length c7]).length c9).ownBlock.toList ++ (Value.slice A12 (Cs ++ [Value.slice none 0 0]).length c12).ownBlock.toList))
        ⟨b7, c7, rfl, hs7', fun hm => by
          rcases List.mem_append.1 hm with h | hm
          · have := HX0.out _ h
            have := HKR.out.size
            omega
          rcases hFm _ hm with h | h | h
          · have := HX.out.lt _ h; omega
          · omega
          · omega⟩ (fun g hg => (List.mem_append.1 hg).elim (fun h => .inl (List.mem_append.2 (.inl h))) (fun hg => (hFm g hg).elim (fun h => .inl (List.mem_append.2 (.inr h))) (fun h => .inr (by omega)))) (by simp) (fun g hg => List.mem_append.2 (.inl (List.mem_append.2 (.inr (by simp only [Option.mem_toList]; exact hg))))) (fun g hg => List.mem_append.2 (.inr (by simp only [Option.mem_toList]; exact hg)))
        (fun g hg hg2 => by
          rcases h9 g hg with h | h <;> rcases h12 g hg2 with h' | h'
          · exact HX.out.ne g h h'
          · have := hvlF g h; omega
          · have := hvcF g h'; omega
          · omega)
        (fun g hg => List.mem_append.2 (.inr hg)) (fun g hg => by
          rw [hsz13]
          rcases List.mem_append.1 hg with hg | hg
          · have := HX0.out _ hg
            have := HKR.out.size
            omega
          simp only [List.mem_append, List.mem_singleton, Option.mem_toList] at hg
          rcases hg with (rfl | hg) | hg
          · omega
          · have := (ho9.lt g hg).2; omega
          · exact (ho12.lt g hg).2) HSEC.out
      have hsecn : SecRows (w12.setCell ⟨w.heap.size, 2, none⟩ (.slice A12 (Cs ++ [Value.slice none 0 0]).length c12)) (Ls ++ [Value.slice (some ⟨b7, 0, none⟩) ((l.drop (k * n)).take n).length c7]) (chop n l (k + 1)) := by
        intro i x hx
        rw [chop_snoc, List.getElem?_append] at hx
        split at hx
        · rename_i hi
          rw [length_chop] at hi
          obtain ⟨bb, c2, e1, e2⟩ := HSEC.out i x hx
          exact ⟨bb, c2, by rw [List.getElem?_append_left (by omega)]; exact e1, by rw [hsz13]; omega⟩
        · rename_i hi
          rw [length_chop] at hi
          have h1 := (List.getElem?_eq_some_iff.1 hx).1
          rw [length_chop] at h1
          simp at h1
          rw [length_chop, show i - k = 0 by omega] at hx
          simp at hx
          subst hx
          exact ⟨b7, c7, by rw [List.getElem?_append_right (by omega), show i - Ls.length = 0 by omega]; rfl, by rw [hsz13]; omega⟩
      have hKN : Kept w (w12.setCell ⟨w.heap.size, 2, none⟩ (.slice A12 (Cs ++ [Value.slice none 0 0]).length c12)) [] := HKR.out.trans ktot (fun g hg => .inr (HF.out g hg))
      have hFN : ∀ g, g ∈ [w.heap.size] ++ (Value.slice A9 (Ls ++ [Value.slice (some ⟨b7, 0, none⟩) ((l.drop (k * n)).take n).length c7]).length c9).ownBlock.toList ++ (Value.slice A12 (Cs ++ [Value.slice none 0 0]).length c12).ownBlock.toList → w.heap.size ≤ g := fun g hg => by
        rcases hFm g hg with h | h | h
        · exact HF.out g h
        · omega
        · omega
      have d1 := HX.out.blk.cell 1 rfl
      have d1d : wr.drew.cell? ⟨w.heap.size, 1, none⟩ = _ := d1
      have d1e := kE.cell d1 (by simp)
      have d1f := k07.cell d1 (by simp)
      have d1g := (k07.trans k78 (by simp)).cell d1 (by simp)
      have d1h := k09.cell d1 (by simp only [Option.mem_toList]; exact hneb)
      have f1h := hb9.free 1
      have d2 := hb10.cell 2 rfl
      have d2a := hb12.cell 2 rfl
      have f2a := hb12.free 2
      have HAP := Lib.hid hap
      have HAP9 := Lib.hid hap9
      have HAP12 := Lib.hid hap12
      have HPU := Lib.hid hpush
      have HSN := Lib.hid hsecn
      have HKN := Lib.hid hKN
      have HFN := Lib.hid hFN
      have HW10 := Lib.hid hw10
      have D1D := Lib.hid d1d
      have D1E := Lib.hid d1e
      have D1F := Lib.hid d1f
      have D1G := Lib.hid d1g
      have D1H := Lib.hid d1h
      have hcm : (c : Int) ≤ 9223372036854775807 := by have := H2.out; unfold maxLen at this; omega
      have hlc : l.length ≤ c := H1.out
      have hmi : ((k * n : Nat) : Int) + (n : Int) ≤ c := by omega
      have hm2 : ((k * n : Nat) : Int) < (l.length : Int) := by omega
      have hm3 : (0 : Int) ≤ ((k * n : Nat) : Int) := by omega
      have hm4 : k * n + n ≤ c := by omega
      have hm5 : k * n < c := by omega
      have HKK := Lib.hid hkl
      have HKC := Lib.hid hkc
      clear hap hap9 hap12 hpush hsecn hKN hFN hw10 d1d d1e d1f d1g d1 hFm hsz13 ktot k10t hs7' hc13 hl13 k13 hb13 hb12 kC h12 h9 hvlF hvcF hs3 hloc12 k12 ho12 kA hs10 hl10 hc10 k910 k9s hb10 hb9 hs2 hs1 k09 hnec hneb hb0lt hb0F hloc9 ho9 k9 k78 hx7 hb7 h57 hs7 k07 ho7 k7 hE kE hpart hbw hmul hsec4 hgetS hokS hkc hkl hl0
      generalize k * n = m at *
      generalize (Ls ++ [Value.slice (some ⟨b7, 0, none⟩) ((l.drop m).take n).length c7]).length = L9 at *
      generalize (Cs ++ [Value.slice none 0 0]).length = L12 at *
      generalize ((l.drop m).take n).length = n7 at *
      have HAPx := Lib.hid (show (Builtin.append_ #[35, 35] 35 #[.slice (some ⟨wr.heap.size, 0, none⟩) 0 0, .slice (some ⟨bq, off + m, none⟩) (m + n - m) (c - m)]).run Tryz.prog ((wr.alloc (.cells #[] 5)).drew) = .ok (.slice (some ⟨b7, 0, none⟩) n7 c7) w7 from by rw [Nat.add_sub_cancel_left]; exact HAP.out)
      have hne : (c = m) = False := by simp; omega
      have hwr : IntKind.i64.wrap ((m : Int) + (n : Int)) = (m : Int) + (n : Int) := IntWalk.i64_in _ (by omega)
      have hwt : ((m : Int) + (n : Int)).toNat = m + n := by omega
      have hw0 : (0 : Int) ≤ (m : Int) + (n : Int) := by omega
      go_wp2_with fail
      have D1 := D1D.out
      have D2 := D1E.out
      have D3 := D1F.out
      have D4 := D1G.out
      have D5 := D1H.out
      go_region_law (first
        | (refine step_append_at 35 35 HAP.out (.tmp 40) (.tmp 46) ?_ ?_ ?_ ?_ ?_ ?_ ?_; rfl; rfl; rfl; rfl; rfl; rfl)
        | (refine step_append_at 56 56 HAP9.out (.tmp 39) (.tmp 48) ?_ ?_ ?_ ?_ ?_ ?_ ?_; rfl; rfl; rfl; rfl; rfl; rfl))
      all_goals (
        rw [HW10.out]
        clear D1 D2 D3 D4 D5
        go_wp2_with (first | (at_builtin; refine wpList_append_run rfl _ _ _ rfl rfl rfl HAP12.out ?_))
        go_roundg (gk - 1)
        case measure => have := HK.out; omega
        case rel => exact ⟨k + 1, _, _, _, _, _, by have := HK.out; omega, by rw [HMUL.out] <;> go_num, HPU.out, HSN.out, HFN.out, HKN.out⟩)
    · have hkn : k = N := by have := HK.out; omega
      clear hlt
      subst hkn
      have e := EN.out
      have hx := HX.out
      have es : DiskS.made n l k = DiskS.open n l := by unfold DiskS.made DiskS.open; rw [HN.out]
      rw [es] at hx
      have HXX := Lib.hid hx
      have te : decide (((k * n : Nat) : Int) < (l.length : Int)) = false := by simp; omega
      have te2 : decide (k * n < l.length) = false := by simp; omega
      have te3 : ¬ k * n < l.length := by omega
      clear hx es e
      generalize k * n = m at *
      go_wp2_with fail
      go_ret
      exact ⟨_, rfl, ⟨_, F, rfl, ⟨_, _, _, _, _, _, HXX.out⟩, HF.out⟩, HKR.out⟩
end Go.Proofs.YtlojgelidcjeaaaGreatDoor
namespace Go.Proofs.YtlojgelidcjeaaaGreatDoor
open Go.RowKit Go.Proofs.YtlojgelidcjeaaaGreatDoorLib Go.WideElems Go.Maps
set_option linter.unusedSimpArgs false
set_option linter.unusedVariables false

theorem neq8 (w : World) (x : Option Addr) (n c n' c' : Nat) : (binOp .neq 35 (.slice x n c) (.slice none n' c')).run Tryz.prog w = .ok (.bool (!x.isNone)) w := by
  simp only [binOp]
  simp [Op.equal, Op.maxDepth, Lib.run_equalIn_slice_nil w 9999 35 5 x n c n' c' Tryz.underlying35]
theorem neq8s (w : World) (x : Addr) (n c : Nat) : (binOp .neq 35 (.slice (some x) n c) (.slice none 0 0)).run Tryz.prog w = .ok (.bool true) w := neq8 w (some x) n c 0 0
theorem neq8n (w : World) : (binOp .neq 35 (.slice none 0 0) (.slice none 0 0)).run Tryz.prog w = .ok (.bool false) w := neq8 w none 0 0 0 0
/-- a store into a row of slices -/
theorem Rows.set {w : World} {v : Value} {L : List Value} (h : Rows w v L) {g : Nat} (hb : v.ownBlock = some g) (i : Nat) (u : Value) (hi : i < L.length) : Rows (w.setCell ⟨g, i, none⟩ u) v (L.set i u) := by
  obtain ⟨h1, ⟨rfl, _⟩ | ⟨g', cap, cur, rfl, hg, hc, h2, h3, h4, h5⟩⟩ := h
  · simp [Value.ownBlock] at hb
  · simp [Value.ownBlock] at hb
    subst hb
    rw [Nat.mul_one] at h4 h5
    refine ⟨by simp, .inr ⟨g', cap, cur.setIfInBounds i u, by simp, hg, ?_, by simpa using h2, h3, by simpa using h4, ?_⟩⟩
    · simp [World.setCell, Array.getElem?_modify, hc]
    · simp only [List.length_set, Nat.mul_one, Array.toList_setIfInBounds]
      rw [List.take_set, h5]
theorem RDisk.ok {w : World} {b : Nat} {F X : List Nat} {s : DiskS} (h : RDisk w b F X s) : s.Ok := let ⟨_, _, _, _, _, _, h⟩ := h; h.ok
theorem RDisk.fb {w : World} {b : Nat} {F X : List Nat} {s : DiskS} (h : RDisk w b F X s) : b ∈ F := let ⟨_, _, _, _, _, _, h⟩ := h; h.fb
theorem RDisk.lt {w : World} {b : Nat} {F X : List Nat} {s : DiskS} (h : RDisk w b F X s) : ∀ g, g ∈ F → g < w.heap.size := let ⟨_, _, _, _, _, _, h⟩ := h; h.lt
theorem RDiskX.drew {w : World} {b : Nat} {F X : List Nat} {s : DiskS} {vl vc vp : Value} {Ls Cs : List Value} {P : List Int} (h : RDiskX w b F X s vl vc vp Ls Cs P) : RDiskX w.drew b F X s vl vc vp Ls Cs P := h.kept (Kept.refl w []).drew
/-- a sector's cached ones are turned -/
theorem RDiskX.setc {w : World} {b : Nat} {F X : List Nat} {s : DiskS} {vl vc vp : Value} {Ls Cs : List Value} {P : List Int} (h : RDiskX w b F X s vl vc vp Ls Cs P) {g i : Nat} (hg : vc.ownBlock = some g) (hi : i < s.last.length) {u : Value} {o : Option (List Int)} (hu : Cel w X u o) (ho : ∀ l, o = some l → Sec s.size l) :
    RDiskX (w.setCell ⟨g, i, none⟩ u) b F X { s with cach := s.cach.set i o } vl vc vp Ls (Cs.set i u) P := by
  have hk : Kept w (w.setCell ⟨g, i, none⟩ u) [g] := (Kept.refl _ _).setCell (by simp) _
  have hgF := h.fc g hg
  have hS : ∀ x, x ∈ [g] → x ∈ X := fun x hx => by simp at hx; subst hx; exact h.fx _ hgF
  have n1 := h.cac.ne_cells h.blk (by decide)
  have n3 := h.cac.ne_own h.pla (by decide)
  have hic : i < Cs.length := by rw [h.lc]; exact hi
  refine ⟨⟨h.ok.s1, h.ok.s2, h.ok.n1, by show (s.cach.set i o).length = _; rw [List.length_set]; exact h.ok.nc, h.ok.ls, ?_, h.ok.op, h.ok.wr, h.ok.ma⟩, h.blk.kept hk (by simp; intro e; exact n1 (e ▸ hg)), rows_kept h.las hk (fun x hx hm => by simp at hm; subst hm; exact h.ne _ hx hg), h.cac.set hg i u hic, h.ll, by rw [List.length_set]; exact h.lc,
    fun j l hl => let ⟨y, a, c⟩ := h.lel j l hl; ⟨y, a, c.kept hk hS⟩, ?_, h.pla.kept hk (fun x hx hm => by simp at hm; subst hm; exact n3 _ hg hx), h.pof, h.pln, h.pbd, h.fb, h.fl, h.fc, h.fp, h.ne, h.fx, fun x hx => Nat.lt_of_lt_of_le (h.xlt x hx) hk.size⟩
  · intro l hl
    rcases List.mem_or_eq_of_mem_set hl with h1 | h1
    · exact h.ok.cs l h1
    · exact ho l h1.symm
  · intro j x hx
    change (s.cach.set i o)[j]? = some x at hx
    rw [List.getElem?_set] at hx
    by_cases hj : i = j
    · subst hj
      rw [if_pos rfl, if_pos (by rw [h.ok.nc]; exact hi)] at hx
      simp only [Option.some.injEq] at hx
      subst hx
      exact ⟨u, by rw [List.getElem?_set, if_pos rfl, if_pos hic], hu.kept hk hS⟩
    · rw [if_neg hj] at hx
      obtain ⟨y, a, c⟩ := h.cel j x hx
      exact ⟨y, by rw [List.getElem?_set, if_neg hj]; exact a, c.kept hk hS⟩
/-- a sector's lasting ones are turned -/
theorem RDiskX.setl {w : World} {b : Nat} {F X : List Nat} {s : DiskS} {vl vc vp : Value} {Ls Cs : List Value} {P : List Int} (h : RDiskX w b F X s vl vc vp Ls Cs P) {g i : Nat} (hg : vl.ownBlock = some g) (hi : i < s.last.length) {u : Value} {l : List Int} (hu : Cel w X u (some l)) (ho : Sec s.size l) :
    RDiskX (w.setCell ⟨g, i, none⟩ u) b F X { s with last := s.last.set i l } vl vc vp (Ls.set i u) Cs P := by
  have hk : Kept w (w.setCell ⟨g, i, none⟩ u) [g] := (Kept.refl _ _).setCell (by simp) _
  have hgF := h.fl g hg
  have hS : ∀ x, x ∈ [g] → x ∈ X := fun x hx => by simp at hx; subst hx; exact h.fx _ hgF
  have n1 := h.las.ne_cells h.blk (by decide)
  have n3 := h.las.ne_own h.pla (by decide)
  have hic : i < Ls.length := by rw [h.ll]; exact hi
  have hlen : (s.last.set i l).length = s.last.length := List.length_set
  refine ⟨⟨h.ok.s1, h.ok.s2, by show (s.last.set i l).length ≤ _; rw [hlen]; exact h.ok.n1, by show _ = (s.last.set i l).length; rw [hlen]; exact h.ok.nc, ?_, h.ok.cs, h.ok.op, h.ok.wr, h.ok.ma⟩, h.blk.kept hk (by simp; intro e; exact n1 (e ▸ hg)), h.las.set hg i u hic, rows_kept h.cac hk (fun x hx hm => by simp at hm; subst hm; exact h.ne _ hg hx), by rw [List.length_set]; exact h.ll.trans hlen.symm, h.lc.trans hlen.symm,
    ?_, fun j l hl => let ⟨y, a, c⟩ := h.cel j l hl; ⟨y, a, c.kept hk hS⟩, h.pla.kept hk (fun x hx hm => by simp at hm; subst hm; exact n3 _ hg hx), h.pof, h.pln, h.pbd, h.fb, h.fl, h.fc, h.fp, h.ne, h.fx, fun x hx => Nat.lt_of_lt_of_le (h.xlt x hx) hk.size⟩
  · intro x hx
    rcases List.mem_or_eq_of_mem_set hx with h1 | h1
    · exact h.ok.ls x h1
    · exact h1 ▸ ho
  · intro j x hx
    change (s.last.set i l)[j]? = some x at hx
    rw [List.getElem?_set] at hx
    by_cases hj : i = j
    · subst hj
      rw [if_pos rfl, if_pos hi] at hx
      simp only [Option.some.injEq] at hx
      subst hx
      exact ⟨u, by rw [List.getElem?_set, if_pos rfl, if_pos hic], hu.kept hk hS⟩
    · rw [if_neg hj] at hx
      obtain ⟨y, a, c⟩ := h.lel j x hx
      exact ⟨y, by rw [List.getElem?_set, if_neg hj]; exact a, c.kept hk hS⟩
/-- more of its own blocks: no -/
theorem read_some {s : DiskS} {j : Nat} {l : List Int} (hf : s.fails = false) (hj : j < s.last.length) (hc : s.cach[j]? = some (some l)) : s.read (j : Int) = (l, 0) := by
  unfold DiskS.read
  rw [if_neg (by simp [hf]), if_neg (by omega)]
  simp [hc]
theorem read_none {s : DiskS} {j : Nat} {l : List Int} (hf : s.fails = false) (hj : s.last[j]? = some l) (hc : s.cach[j]? = some none) : s.read (j : Int) = (l, 0) := by
  have := (List.getElem?_eq_some_iff.1 hj).1
  unfold DiskS.read
  rw [if_neg (by simp [hf]), if_neg (by omega)]
  simp [hc, hj]
set_option maxRecDepth 100000 in
set_option maxHeartbeats 4000000 in
theorem rread_any (w : World) (b : Nat) (F X : List Nat) (s : DiskS) (h : RDisk w b F X s) (ho : s.ops < 1000000000) (i : Int) :
    Calls Tryz.prog 51 #[.pointer (some ⟨b, 0, none⟩), .int .i64 i] w (Post w [b] fun v W => ∃ r, v = .tuple #[r, .int .i64 (s.read i).2] ∧ Own 5 .u8 W w.heap.size r (s.read i).1 ∧ RDisk W b F X s.tick) := by
  have hok := h.ok
  have hn1 := hok.n1
  have hs1 := hok.s1
  have hs2 := hok.s2
  have HO := Lib.hid hok
  have hn1i : (s.last.length : Int) ≤ 4096 := by omega
  clear hok
  go_enter Tryz.func51, Tryz.ntmps51
  go_wp2_with fail
  (with_reducible refine (rfails_any w b F X s h ho).mono ?_)
  rintro _ w1 ⟨_, rfl, ⟨rfl, h1⟩, k1⟩
  have H1 := Lib.hid h1
  have K1 := Lib.hid k1
  clear h h1 k1
  by_cases hf : s.fails = true
  · go_wp2_with fail
    go_ret2
    have e : s.read i = ([], 3) := by simp [DiskS.read, hf]
    refine ⟨_, rfl, ⟨_, by rw [e]; rfl, ?_, H1.out⟩, K1.out⟩
    rw [e]; exact Own.nil _ _ _ _
  replace hf : s.fails = false := by simpa using hf
  by_cases hneg : i < 0
  · go_wp2_with fail
    go_ret2
    have e : s.read i = ([], 2) := by simp [DiskS.read, hf, hneg]
    refine ⟨_, rfl, ⟨_, by rw [e]; rfl, ?_, H1.out⟩, K1.out⟩
    rw [e]; exact Own.nil _ _ _ _
  have hpos : 0 ≤ i := by omega
  obtain ⟨vl, vc, vp, Ls, Cs, P, hx⟩ := H1.out
  have hll : Ls.length = s.last.length := hx.ll
  have hlc : Cs.length = s.last.length := hx.lc
  obtain ⟨Al, cl, rfl, _, _⟩ := hx.las.form
  obtain ⟨Ac, cc, rfl, _, _⟩ := hx.cac.form
  have c1 := hx.blk.cell 1 rfl
  have c2 := hx.blk.cell 2 rfl
  have n1 := neq8s
  have n2 := neq8n
  rw [hll] at c1
  rw [hlc] at c2
  by_cases hout : (s.last.length : Int) ≤ i
  · clear hx hll hlc
    go_wp2_with fail
    go_ret2
    have e : s.read i = ([], 2) := by simp [DiskS.read, hf, hout]
    refine ⟨_, rfl, ⟨_, by rw [e]; rfl, ?_, H1.out⟩, K1.out⟩
    rw [e]; exact Own.nil _ _ _ _
  have hin : i < (s.last.length : Int) := by omega
  obtain ⟨j, rfl⟩ := Int.eq_ofNat_of_zero_le hpos
  have hj : j < s.last.length := by omega
  obtain ⟨x, hxl⟩ : ∃ x, s.last[j]? = some x := ⟨_, List.getElem?_eq_getElem hj⟩
  obtain ⟨o, hxc⟩ : ∃ o, s.cach[j]? = some o := ⟨_, List.getElem?_eq_getElem (by rw [HO.out.nc]; exact hj)⟩
  obtain ⟨i0, hi, hz0, hz1, hz2⟩ := info_parts info8
  have hE : Own 5 .u8 (w1.alloc (.cells #[] 5)) w1.heap.size (.slice (some ⟨w1.heap.size, 0, none⟩) 0 0) [] := World.ownsRow_made (base := w1.heap.size) (e := 5) (size := 1) w1 #[] 0 (Nat.le_refl _) (Nat.zero_le _) rfl
  have kE : Kept w1 (w1.alloc (.cells #[] 5)) [] := (Kept.refl _ _).alloc _
  obtain ⟨uc, huc, hcc⟩ := hx.cel j o hxc
  obtain ⟨gc, cc', ec, dc, _, _, _⟩ := hx.cac.cell huc
  obtain ⟨rfl, _, rfl⟩ : Ac = some ⟨gc, 0, none⟩ ∧ Cs.length = Cs.length ∧ cc = cc' := by simpa using ec
  cases o with
  | some l =>
    obtain ⟨bb, cb, rfl, hsl, _⟩ := hcc
    have hsec := HO.out.cs l (List.mem_of_getElem? hxc)
    have E := Lib.hid (read_some hf hj hxc)
    have hl1 := hsec.1
    obtain ⟨v7, w7, hap, ho7, k7⟩ := own_append (P := Tryz.prog) Tryz.underlying35 hi hz0 hz1 hz2 hE (hsl.kept kE (.inr (by simp))) (by simp; omega) (by unfold maxLen; simp; omega) (by simp) 35
    rw [List.nil_append] at ho7
    have K7 := Lib.hid (kE.trans k7 (by simp [Value.ownBlock]))
    have HAP := Lib.hid hap
    have HO7 := Lib.hid ho7
    have c2' := Lib.cell?_alloc_some (.cells #[] 5) c2
    have dc' := Lib.cell?_alloc_some (.cells #[] 5) dc
    clear hx hll hlc hap ho7 k7 kE hE hsl hsec hl1 hi hz0 hz1 hz2 huc ec hxc
    go_wp2_with (first | (at_builtin; refine wpList_append_run rfl _ _ _ rfl rfl rfl HAP.out ?_))
    go_ret2
    refine ⟨_, rfl, ⟨_, by rw [E.out]; rfl, ?_, H1.out.kept K7.out⟩, K1.out.trans K7.out (by simp)⟩
    rw [E.out]; exact Own.mono HO7.out K1.out.size
  | none =>
    obtain rfl := hcc
    obtain ⟨ul, hul, hcl⟩ := hx.lel j x hxl
    obtain ⟨gl, cl', el, dl, _, _, _⟩ := hx.las.cell hul
    obtain ⟨rfl, _, rfl⟩ : Al = some ⟨gl, 0, none⟩ ∧ Ls.length = Ls.length ∧ cl = cl' := by simpa using el
    obtain ⟨bb, cb, rfl, hsl, _⟩ := hcl
    have hsec := HO.out.ls x (List.mem_of_getElem? hxl)
    have E := Lib.hid (read_none hf hxl hxc)
    have hl1 := hsec.1
    obtain ⟨v7, w7, hap, ho7, k7⟩ := own_append (P := Tryz.prog) Tryz.underlying35 hi hz0 hz1 hz2 hE (hsl.kept kE (.inr (by simp))) (by simp; omega) (by unfold maxLen; simp; omega) (by simp) 35
    rw [List.nil_append] at ho7
    have K7 := Lib.hid (kE.trans k7 (by simp [Value.ownBlock]))
    have HAP := Lib.hid hap
    have HO7 := Lib.hid ho7
    have c1' := Lib.cell?_alloc_some (.cells #[] 5) c1
    have dl' := Lib.cell?_alloc_some (.cells #[] 5) dl
    clear hx hll hlc hap ho7 k7 kE hE hsl hsec hl1 hi hz0 hz1 hz2 huc hul ec el hxc hxl
    go_wp2_with (first | (at_builtin; refine wpList_append_run rfl _ _ _ rfl rfl rfl HAP.out ?_))
    go_ret2
    refine ⟨_, rfl, ⟨_, by rw [E.out]; rfl, ?_, H1.out.kept K7.out⟩, K1.out.trans K7.out (by simp)⟩
    rw [E.out]; exact Own.mono HO7.out K1.out.size
end Go.Proofs.YtlojgelidcjeaaaGreatDoor
namespace Go.Proofs.YtlojgelidcjeaaaGreatDoor
open Go.RowKit Go.Proofs.YtlojgelidcjeaaaGreatDoorLib Go.WideElems Go.Maps
set_option linter.unusedSimpArgs false
set_option linter.unusedVariables false

/-- beside it: what lies outside its own blocks and is known to it is turned; new blocks Y are to be avoided from now on -/
theorem RDisk.beside {w W : World} {b : Nat} {F X : List Nat} {s : DiskS} (h : RDisk w b F X s) {S Y : List Nat} (hk : Kept w W S) (hX : ∀ g, g ∈ S → g ∈ X) (hF : ∀ g, g ∈ S → g ∉ F) (hY : ∀ g, g ∈ Y → (g ∈ X ∨ w.heap.size ≤ g) ∧ g < W.heap.size) : RDisk W b F (X ++ Y) s := by
  obtain ⟨vl, vc, vp, Ls, Cs, P, h⟩ := h
  have hap : ∀ v : Value, (∀ g, v.ownBlock = some g → g ∈ F) → Apart v S := fun v hv g hg hm => hF g hm (hv g hg)
  have hcel : ∀ u o, (∀ l, o = some l → Sec s.size l) → Cel w X u o → Cel W (X ++ Y) u o := by
    intro u o hsec hc
    cases o with
    | none => exact hc
    | some l =>
      obtain ⟨b0, c0, e0, s0, nb0⟩ := hc
      refine ⟨b0, c0, e0, s0.kept hk (.inr (fun hm => nb0 (hX _ hm))), fun hm => ?_⟩
      rcases List.mem_append.1 hm with hm | hm
      · exact nb0 hm
      · have hl0 : l ≠ [] := by intro e; have h1 := (hsec l rfl).1; have h2 := h.ok.s1; rw [e] at h1; simp at h1; omega
        have hlt := s0.lt hl0
        rcases (hY _ hm).1 with e | e
        · exact nb0 e
        · omega
  exact ⟨vl, vc, vp, Ls, Cs, P, h.ok, h.blk.kept hk (fun hm => hF _ hm h.fb), rows_kept h.las hk (hap _ h.fl), rows_kept h.cac hk (hap _ h.fc), h.ll, h.lc,
    fun i l hl => let ⟨u, a, c⟩ := h.lel i l hl; ⟨u, a, hcel _ _ (fun l' e => by cases e; exact h.ok.ls l (List.mem_of_getElem? hl)) c⟩, fun i l hl => let ⟨u, a, c⟩ := h.cel i l hl; ⟨u, a, hcel _ _ (fun l' e => by subst e; exact h.ok.cs l' (List.mem_of_getElem? hl)) c⟩,
    h.pla.kept hk (hap _ h.fp), h.pof, h.pln, h.pbd, h.fb, h.fl, h.fc, h.fp, h.ne, fun g hg => List.mem_append.2 (.inl (h.fx g hg)), fun g hg => (List.mem_append.1 hg).elim (fun h1 => Nat.lt_of_lt_of_le (h.xlt g h1) hk.size) (fun h1 => (hY g h1).2)⟩
/-- fewer blocks to avoid -/
theorem RDisk.less {w : World} {b : Nat} {F X X' : List Nat} {s : DiskS} (h : RDisk w b F X s) (h1 : ∀ g, g ∈ X' → g ∈ X) (h2 : ∀ g, g ∈ F → g ∈ X') : RDisk w b F X' s := by
  obtain ⟨vl, vc, vp, Ls, Cs, P, h⟩ := h
  have hcel : ∀ u o, Cel w X u o → Cel w X' u o := by
    intro u o hc
    cases o with
    | none => exact hc
    | some l => obtain ⟨b0, c0, e0, s0, nb0⟩ := hc; exact ⟨b0, c0, e0, s0, fun hm => nb0 (h1 _ hm)⟩
  exact ⟨vl, vc, vp, Ls, Cs, P, h.ok, h.blk, h.las, h.cac, h.ll, h.lc, fun i l hl => let ⟨u, a, c⟩ := h.lel i l hl; ⟨u, a, hcel _ _ c⟩, fun i o hl => let ⟨u, a, c⟩ := h.cel i o hl; ⟨u, a, hcel _ _ c⟩, h.pla, h.pof, h.pln, h.pbd, h.fb, h.fl, h.fc, h.fp, h.ne, h2, fun g hg => h.xlt g (h1 g hg)⟩
theorem RDisk.fx {w : World} {b : Nat} {F X : List Nat} {s : DiskS} (h : RDisk w b F X s) : ∀ g, g ∈ F → g ∈ X := let ⟨_, _, _, _, _, _, h⟩ := h; h.fx
theorem RDisk.xlt {w : World} {b : Nat} {F X : List Nat} {s : DiskS} (h : RDisk w b F X s) : ∀ g, g ∈ X → g < w.heap.size := let ⟨_, _, _, _, _, _, h⟩ := h; h.xlt
theorem RDisk.size {w : World} {b : Nat} {F X : List Nat} {s : DiskS} (h : RDisk w b F X s) : ∃ (vl : Value), w.cell? ⟨b, 0, none⟩ = some (.int .i64 s.size) ∧ w.cell? ⟨b, 1, none⟩ = some vl := let ⟨_, _, _, _, _, _, h⟩ := h; ⟨_, h.blk.cell 0 rfl, h.blk.cell 1 rfl⟩
end Go.Proofs.YtlojgelidcjeaaaGreatDoor
