/- PROVED: the contract of disk.Unsynced; the contract of disk.Sync. No conditions beyond those that each theorem states. -/
import Derived.Test.YtcikhnkehglkgaaGreatDoorDkC
import Derived.Test.YtcikhnkehglkgaaGreatDoorSh
import Derived.Maps.Ext
namespace Go.Proofs.YtcikhnkehglkgaaGreatDoor
open Go.RowKit Go.Proofs.YtcikhnkehglkgaaGreatDoorLib Go.WideElems Go.Maps Go.Sort Go.Shelf
set_option linter.unusedSimpArgs false
set_option linter.unusedVariables false

theorem unsynced_mem (s : DiskS) (x : Int) : x ∈ s.unsynced ↔ ∃ i : Nat, i < s.cach.length ∧ (s.cach[i]?.join).isSome = true ∧ x = i := by
  unfold DiskS.unsynced
  rw [List.mem_map]
  constructor
  · rintro ⟨i, hi, rfl⟩
    rw [List.mem_filter, List.mem_range] at hi
    exact ⟨i, hi.1, hi.2, rfl⟩
  · rintro ⟨i, h1, h2, rfl⟩
    exact ⟨i, by rw [List.mem_filter, List.mem_range]; exact ⟨h1, h2⟩, rfl⟩
theorem unsynced_sorted (s : DiskS) : s.unsynced.Pairwise (fun a b => a < b) := by
  unfold DiskS.unsynced
  rw [List.pairwise_map]
  exact (List.Pairwise.filter _ (List.pairwise_lt_range)).imp (fun h => by simpa using h)
theorem lit_int {x y : Int} : (Lit.int .i64 x) = .int .i64 y ↔ x = y := ⟨fun h => by injection h, fun h => by rw [h]⟩
theorem sameKey_self {k : Lit} (h : WideAt.IsKeyLit k) : k.sameKey k = true := by
  cases k <;> simp [WideAt.IsKeyLit] at h <;> simp [Lit.sameKey]
theorem keys_unsynced {w : World} {F : List Nat} {vl : Value} {D : DataW Value} {s : DiskS} (hD : Canon D) (h : CachOf w F vl D s.cach) : (intKeys D).Perm s.unsynced := by
  obtain ⟨es, rfl, hp, hkl⟩ := hD
  have hp := apart_of_rising hp
  have hk : ∀ p, p ∈ es → ∃ i : Nat, i < s.cach.length ∧ p.1 = .int .i64 i ∧ (s.cach[i]?.join).isSome = true := by
    intro p hp
    have hh : Maps.has (DataW.map es) p.1 = true := by
      rw [Maps.has_eq, List.any_eq_true]
      exact ⟨p, hp, sameKey_self (hkl p hp)⟩
    obtain ⟨i, hi, e⟩ := h.key p.1 hh
    refine ⟨i, hi, e, ?_⟩
    cases hc : s.cach[i]?.join with
    | some x => rfl
    | none =>
      have := h.no i hi hc
      rw [e, this] at hh
      cases hh
  refine (List.perm_ext_iff_of_nodup ?_ ((unsynced_sorted s).imp (fun h => by omega))).2 ?_
  · unfold intKeys List.Nodup
    rw [List.pairwise_map]
    refine hp.imp_of_mem ?_
    intro p q hp hq hn e
    obtain ⟨i, _, ei, _⟩ := hk p hp
    obtain ⟨j, _, ej, _⟩ := hk q hq
    rw [ei, ej] at e hn
    exact hn (by rw [show (i : Int) = j from e])
  · intro a
    rw [unsynced_mem]
    unfold intKeys
    rw [List.mem_map]
    constructor
    · rintro ⟨p, hp, rfl⟩
      obtain ⟨i, hi, ei, hs⟩ := hk p hp
      exact ⟨i, hi, hs, by rw [ei]; rfl⟩
    · rintro ⟨i, hi, hs, rfl⟩
      obtain ⟨l, hl⟩ := Option.isSome_iff_exists.1 hs
      obtain ⟨v, h1, _⟩ := h.yes i l hl
      rw [Maps.has_eq, List.any_eq_true] at h1
      obtain ⟨p, hp, e⟩ := h1
      exact ⟨p, hp, by rw [WideAt.sameKey_eq e]; rfl⟩
theorem sorted_unsynced {s : DiskS} {ss : List Int} (h : ss.Perm s.unsynced) : ss.mergeSort (fun x y => decide (x ≤ y)) = s.unsynced := by
  refine List.Perm.eq_of_pairwise (le := fun a b : Int => decide (a ≤ b) = true) ?_ (List.pairwise_mergeSort (by intro a b c; simp; omega) (by intro a b; simp; omega) _) ((unsynced_sorted s).imp (fun h => by simp; omega)) ((List.mergeSort_perm _ _).trans h)
  intro a b _ _ h1 h2
  simp at h1 h2
  omega
theorem sortsA (m : Nat) : AnyZI.SortsIn Tryz.prog Tryz.sortedA_ren Fence.wide m :=
  ⟨fun blk off cap ss W hH hblk hsz => callsIn_wide.2 (AnyM.slices_Sort_int Tryz.sortA blk off cap ss W hH hblk hsz),
   fun p cap W => callsIn_wide.2 (AnyM.slices_Sort_int_none Tryz.sortA p cap W)⟩
set_option maxRecDepth 100000 in
set_option maxHeartbeats 2000000 in
theorem unsynced_any (w : World) (b : Nat) (F : List Nat) (s : DiskS) (h : DiskAt w b F s) :
    Calls Tryz.prog 43 #[.pointer (some ⟨b, 0, none⟩)] w (Post w [] fun v W => Own 3 .i64 W w.heap.size v s.unsynced) := by
  obtain ⟨vl, bc, bp, nc, Dc, np, Dp, hx⟩ := h
  have c2 := hx.blk.cell 2 rfl
  have hp := keys_unsynced (hx.cac.canon keyedI) hx.cof
  have hsz := hx.cac.size_le
  have hncl := hx.ncl
  have hwr := hx.ok.wr
  have hop := hx.ok.op
  have hbl := hx.cac.lt
  have hmax : Maps.size Dc ≤ maxLen := by unfold maxLen; omega
  have hbytes : Maps.size Dc * 8 ≤ 140737488355328 := by omega
  have hseq : SeqGives Fence.wide 2 Tryz.prog 100 #[.pointer (some ⟨w.heap.size, 0, none⟩)] encZ (fun ss => ss.Perm (intKeys Dc)) (Maps.size Dc) (w.alloc (.cells #[.map (some bc)] 99)) :=
    AnyZI.keys_gives (ρ := Tryz.keysA_ren) { Tryz.keysA with } Fence.wide _ trivial rfl (by omega) w.heap.size bc nc Dc _ (by simp) (by simp) (by
      obtain ⟨es, clock, hb, Ft, hs, hD⟩ := hx.cac
      exact ⟨es, clock, (Below.heap_alloc _ _ bc hbl).trans hb, Ft, hs, hD⟩)
  have cK : ∀ mb W, CallsIn Fence.wide 5 Tryz.prog 72 #[.map mb] W fun e w' => e = .returned (.func (.func 100) #[] #[.pointer (some ⟨W.heap.size, 0, none⟩)]) ∧ w' = W.alloc (.cells #[.map mb] 99) := fun mb W => AnyZI.keys_in Tryz.keysA Fence.wide 5 trivial rfl mb W
  have cS := AnyZI.sorted_in Tryz.sortedA Fence.wide 5 trivial trivial trivial trivial rfl (by omega) (sortsA _) (enters_of Tryz.func99 (by kernel_rfl) rfl) 100 #[.pointer (some ⟨w.heap.size, 0, none⟩)] trivial (enters_of Tryz.func100 (by kernel_rfl) rfl) _ _ hmax hbytes _ hseq
  change CallsIn _ _ Tryz.prog 71 _ _ _ at cS
  have hfK : Fence.wide.fn 72 := trivial
  have hfS : Fence.wide.fn 71 := trivial
  replace cS := Lib.hid cS
  replace hp := Lib.hid hp
  clear hseq hsz hncl hwr hop hmax hbytes hx
  refine (callsIn_wide (n := 6)).1 ?_
  refine callsIn_of_wp Tryz.func43 rfl trivial ?_ rfl
  simp only [Tryz.ntmps43, List.size_toArray, List.length_cons, List.length_nil, Nat.reduceAdd, Nat.reduceSub, Array.replicate_succ, Array.replicate_zero, List.push_toArray, List.append_toArray, List.nil_append, List.cons_append]
  gi_wp2_with (first
    | (gi_at_call 72; refine (cK _ _).mono ?_; rintro e w' ⟨rfl, rfl⟩)
    | (gi_at_call 71; refine cS.out.mono ?_; rintro e w' ⟨v, ss, rfl, hS, hrow, hnil, hb⟩))
  go_ret
  have e := sorted_unsynced (hS.trans hp.out)
  refine ⟨v, rfl, ?_, ((Kept.refl w []).alloc _).trans (Kept.of_below (S := []) hb) (by simp)⟩
  rw [e] at hrow
  have el : s.unsynced.length = ss.length := by rw [← e, List.length_mergeSort]
  unfold Own
  rw [el]
  exact ownsRow_base_a hrow (by simp)
end Go.Proofs.YtcikhnkehglkgaaGreatDoor
namespace Go.Proofs.YtcikhnkehglkgaaGreatDoor
open Go.RowKit Go.Proofs.YtcikhnkehglkgaaGreatDoorLib Go.WideElems Go.Maps
set_option linter.unusedSimpArgs false
set_option linter.unusedVariables false

/-- a sector is no more cached, and has other bytes -/
theorem DiskX.taken {w w1 : World} {b : Nat} {F : List Nat} {s : DiskS} {vl : Value} {bc bp nc : Nat} {Dc : DataW Value} {np : Nat} {Dp : DataW Value} (h : DiskX w b F s vl bc bp nc Dc np Dp) {i : Nat} (hi : i < s.last.length) {x : List Int} (hx : Sec s.size x) {g : Nat} (hg : vl.ownBlock = some g)
    (hk : Kept w w1 [g, bc]) (hv : Row8 w1 vl (splice s.bytes (i * s.size) x)) (hm : w1.ownsMap Tryz.prog 3 heldR bc nc (Dc.del (.int .i64 i))) : DiskX w1 b F { s with last := s.last.set i x, cach := s.cach.set i none } vl bc bp nc (Dc.del (.int .i64 i)) np Dp := by
  have hne : ∀ j : Nat, j ≠ i → (Lit.int .i64 (j : Int)) ≠ .int .i64 (i : Int) := fun j hj e => hj (by injection e with _ e; omega)
  have hb1 := Own.ne_cells h.las h.blk (by decide)
  have hb2 := Own.ne_map h.las h.cac
  have hb4 := Own.ne_map h.las h.pla
  have hb3 := Blk.ne_map h.blk h.cac
  have hci : i < s.cach.length := by have := h.ok.nc; omega
  have hget : ∀ (j : Nat), (s.cach.set i none)[j]?.join = if j = i then none else s.cach[j]?.join := by
    intro j
    rw [List.getElem?_set]
    by_cases hj : i = j
    · subst hj; simp [hci]
    · rw [if_neg hj, if_neg (fun e => hj e.symm)]
  refine ⟨⟨h.ok.s1, h.ok.s2, by show (s.last.set i x).length ≤ 4096; rw [List.length_set]; exact h.ok.n1, by show (s.cach.set i none).length = (s.last.set i x).length; rw [List.length_set, List.length_set]; exact h.ok.nc, ?_, ?_, h.ok.op, h.ok.wr, h.ok.ma⟩, h.blk.kept hk ?_, ?_, hm, h.ncl, ⟨?_, ?_, ?_⟩, map_kept h.pla hk ?_, h.npl, h.pof, h.ne, h.fb, h.fc, h.fp, h.fl, fun g hg => Nat.lt_of_lt_of_le (h.lt g hg) hk.size⟩
  · intro l hl
    rcases List.mem_or_eq_of_mem_set hl with h1 | h1
    · exact h.ok.ls l h1
    · exact h1 ▸ hx
  · intro l hl
    rcases List.mem_or_eq_of_mem_set hl with h1 | h1
    · exact h.ok.cs l h1
    · cases h1
  · simp
    exact ⟨fun e => hb1 (e ▸ hg), hb3⟩
  · have e := flatten_set h.ok.ls i hi x hx.1
    show Row8 w1 vl (s.last.set i x).flatten
    rw [← e]
    exact hv
  · intro j hj hn
    change j < (s.cach.set i none).length at hj
    change (s.cach.set i none)[j]?.join = none at hn
    rw [hget] at hn
    by_cases e : j = i
    · subst e; exact Maps.has_del_same
    · rw [if_neg e] at hn
      rw [Maps.has_del_other (hne j e)]
      exact h.cof.no j (by simpa using hj) hn
  · intro j l hl
    change (s.cach.set i none)[j]?.join = some l at hl
    rw [hget] at hl
    split at hl
    · cases hl
    · rename_i e
      obtain ⟨v', h1, h2, h3, h4⟩ := h.cof.yes j l hl
      refine ⟨v', by rw [Maps.has_del_other (hne j e)]; exact h1, fun z => by rw [Maps.atKey_del_other (hne j e)]; exact h2 z, h3.kept hk (fun g' hgv hm => ?_), h4⟩
      have n2 := Own.ne_map h3 h.cac
      simp at hm
      rcases hm with rfl | rfl
      · exact (h4 _ hgv).2 hg
      · exact n2 hgv
  · intro kl hkl
    by_cases e : kl = .int .i64 (i : Int)
    · subst e; rw [Maps.has_del_same] at hkl; cases hkl
    · rw [Maps.has_del_other e] at hkl
      obtain ⟨j, hj, e⟩ := h.cof.key kl hkl
      exact ⟨j, by show j < (s.cach.set i none).length; simpa using hj, e⟩
  · simp
    exact ⟨fun e => hb4 (e ▸ hg), fun e => h.ne e.symm⟩
set_option maxHeartbeats 1000000 in
/-- the place of a sector, the world but for a draw as it was -/
theorem at_drew (w : World) (b : Nat) (F : List Nat) (s : DiskS) (vl : Value) (bc bp nc : Nat) (Dc : DataW Value) (np : Nat) (Dp : DataW Value) (h : DiskX w b F s vl bc bp nc Dc np Dp) (i : Nat) (hi : i < s.last.length) (bl : Nat) (hbl : vl.ownBlock = some bl) :
    ∃ c, s.size ≤ c ∧ c ≤ maxLen ∧ Calls Tryz.prog 63 #[.pointer (some ⟨b, 0, none⟩), .int .i64 i] w (fun e W => e = .returned (.slice (some ⟨bl, i * s.size, none⟩) s.size c) ∧ w.drew = W) := by
  obtain ⟨bl', ⟨A, c, rfl, h1, h2, h3, h4⟩, h5⟩ := h.las.sl
  have c0 := h.blk.cell 0 rfl
  have c1 := h.blk.cell 1 rfl
  have bd := bytes_bd h.ok
  have e := h.ok.bytes_len
  have s1 := h.ok.s1
  have s2 := h.ok.s2
  have n1 := h.ok.n1
  have hne : s.bytes ≠ [] := by
    intro h0
    rw [h0] at e
    have := Nat.mul_pos (show 0 < s.last.length by omega) s1
    simp at e
    omega
  have hA := h3 hne
  subst hA
  obtain rfl : bl' = bl := by simpa [Value.ownBlock] using hbl
  have hm : (i + 1) * s.size ≤ s.last.length * s.size := Nat.mul_le_mul_right _ hi
  rw [← e, Nat.succ_mul] at hm
  have e1 : ((i : Int) * (s.size : Int)) = ((i * s.size : Nat) : Int) := by simp
  have e2 : (((i : Int) + 1) * (s.size : Int)) = ((i * s.size : Nat) : Int) + (s.size : Int) := by rw [Int.add_mul]; simp
  generalize i * s.size = m at *
  generalize s.bytes.length = L at *
  have H2 := Lib.hid h2
  clear h h3 h4 h5 h2 e hne hbl
  have i0 : (0 : Int) ≤ i := by omega
  have i1 : (i : Int) ≤ 4096 := by omega
  have m0 : (0 : Int) ≤ m := by omega
  have m1 : (m : Int) ≤ 16777216 := by omega
  have t1 : (1 : Int) ≤ s.size := by omega
  have t2 : (s.size : Int) ≤ 4096 := by omega
  have hmc : m + s.size ≤ c := by omega
  have hmi : (m : Int) + (s.size : Int) ≤ c := by omega
  have hlt : m < c := by omega
  refine ⟨c - m, by omega, by have := H2.out; omega, ?_⟩
  go_enter Tryz.func63, Tryz.ntmps63
  go_wp2_with fail
  go_region
  all_goals (
    go_wp2_with fail
    go_ret
    exact ⟨congrArg (fun n => Ending.returned (Value.slice (some ⟨bl', m, none⟩) n (c - m))) (Nat.add_sub_cancel_left m s.size), rfl⟩)
theorem idx_lt {c : List (Option (List Int))} {i B : Nat} (hi : i < c.length) (hs : (c[i]?.join).isSome = true) (h : idx c i = idx c B) : B ≤ i := by
  by_cases hB : B ≤ i
  · exact hB
  · have h1 := idx_succ c i hi
    rw [hs, if_pos rfl] at h1
    have h2 := idx_le c (i + 1) B (by omega)
    omega
/-- the k-th sector that is cached, the ones below it already taken -/
theorem part_at (s : DiskS) (hs : s.Ok) (g : Nat → Int × List Int) {k B : Nat} {x : Int} (hB : idx s.cach B = k) (hx : s.unsynced[k]? = some x) :
    ∃ (i : Nat) (l c : List Int), x = i ∧ i < s.last.length ∧ s.last[i]? = some l ∧ s.cach[i]?.join = some c ∧ (s.part g B).last[i]? = some l ∧ (s.part g B).cach[i]?.join = some c ∧ idx s.cach (i + 1) = k + 1 ∧
      s.part g (i + 1) = { s.part g B with last := (s.part g B).last.set i (left l c (g k)), cach := (s.part g B).cach.set i none } := by
  obtain ⟨i, rfl, hi, hsome, hik⟩ := unsynced_get s k x hx
  have hil : i < s.last.length := by have := hs.nc; omega
  obtain ⟨c, hc⟩ := Option.isSome_iff_exists.1 hsome
  have hBi := idx_lt hi hsome (hik.trans hB.symm)
  have he := part_between s g B i hBi (by omega) (hik.trans hB.symm)
  have h1 := idx_succ s.cach i hi
  rw [hsome, if_pos rfl] at h1
  have hl := List.getElem?_eq_getElem hil
  refine ⟨i, s.last[i], c, rfl, hil, hl, hc, ?_, ?_, by omega, ?_⟩
  · rw [← he]; exact part_last_get s g i _ hl
  · rw [← he, part_cach_get s g i i (Nat.le_refl _)]; exact hc
  · rw [part_step s g i c hc _ hl, he, hik]
theorem part_size (s : DiskS) (g : Nat → Int × List Int) (B : Nat) : (s.part g B).size = s.size ∧ (s.part g B).last.length = s.last.length := ⟨rfl, length_partLast _ _ _ _⟩
theorem left_new (x c : List Int) : left x c newT = c := by simp [left, newT]
set_option maxRecDepth 100000 in
set_option maxHeartbeats 4000000 in
theorem sync_any (w : World) (b : Nat) (F : List Nat) (s : DiskS) (h : DiskAt w b F s) (ho : s.ops < 1000000000) :
    Calls Tryz.prog 49 #[.pointer (some ⟨b, 0, none⟩)] w (Post w F fun r W => r = .int .i64 s.sync.2 ∧ DiskAt W b F s.sync.1) := by
  have hok := h.ok
  have hfb := h.fb
  have HF := Lib.hid hfb
  have HO := Lib.hid hok
  have HLT := Lib.hid h.lt
  clear hok hfb
  go_enter Tryz.func49, Tryz.ntmps49
  go_wp2_with fail
  refine (fails_any w b F s h ho).mono ?_
  rintro _ w1 ⟨_, rfl, ⟨rfl, h1⟩, k1⟩
  have K1 := Lib.hid (k1.mono (S2 := F) (fun g hg => by simp at hg; subst hg; exact .inl HF.out))
  have H1 := Lib.hid h1
  clear h h1 k1
  by_cases hf : s.fails = true
  · go_wp2_with fail
    go_ret
    have e : s.sync = (s.tick, 3) := by simp [DiskS.sync, hf]
    refine ⟨_, rfl, ⟨by rw [e]; rfl, ?_⟩, K1.out⟩
    rw [e]; exact H1.out
  replace hf : s.fails = false := by simpa using hf
  go_wp2_with fail
  refine (unsynced_any w1 b F s.tick H1.out).mono ?_
  rintro _ w2 ⟨v, rfl, hv, k2⟩
  have h2 := H1.out.kept k2 (by simp)
  have K2 := Lib.hid (K1.out.trans k2 (by simp))
  have hs1 := K1.out.size
  have hlen := hv.len
  obtain ⟨bv, ⟨A, c, rfl, g1, g2, g3, g4⟩, g5⟩ := hv.sl
  have hN := unsynced_length s.tick
  generalize hn : s.tick.unsynced.length = n at *
  have HV := Lib.hid (Own.mono hv hs1)
  have hni : n ≤ 1000000 := by
    have h3 := (DiskS.tick_ok HO.out ho).n1
    have h4 := (DiskS.tick_ok HO.out ho).nc
    have h5 : idx s.tick.cach s.tick.cach.length ≤ s.tick.cach.length := by
      unfold idx
      exact Nat.le_trans (List.countP_le_length) (by simp)
    omega
  have HN := Lib.hid hN
  have HNN := Lib.hid hn
  have H2 := Lib.hid h2
  have HG := Lib.hid g4
  have G3 := Lib.hid g3
  have G5 := Lib.hid g5
  clear g4 g3 g5 h2 hN hn k2 hv g1 g2
  have HFF := Lib.hid hf
  clear hf
  go_wp2_with fail
  go_loopg [10] n (fun g i wr => ∃ k B : Nat, k + g = n ∧ i = .int .i64 k ∧ idx s.tick.cach B = k ∧ B ≤ s.tick.cach.length ∧ DiskAt wr b F (s.tick.part (fun _ => newT) B) ∧ Own 3 .i64 wr w.heap.size (.slice A n c) s.tick.unsynced ∧ Kept w wr F)
  case atStart => exact ⟨0, 0, by omega, rfl, by simp [idx], Nat.zero_le _, by rw [part_zero]; exact H2.out, HV.out, K2.out⟩
  case round =>
    obtain ⟨k, B, hk, rfl, hB, hBl, hd, hrow, hkept⟩ := hrel
    have HK := Lib.hid hk
    have HB := Lib.hid hB
    have HD := Lib.hid hd
    have HR := Lib.hid hrow
    have HKE := Lib.hid hkept
    clear hk hB hd hrow hkept
    by_cases hlt : k < n
    · have hxk := List.getElem?_eq_getElem (l := s.tick.unsynced) (i := k) (by have := HNN.out; omega)
      obtain ⟨i, l, cc, hxi, hi, hl, hc, hl', hc', hidx, hstep⟩ := part_at s.tick (DiskS.tick_ok HO.out ho) (fun _ => newT) HB.out hxk
      rw [hxi] at hxk
      have hne : s.tick.unsynced ≠ [] := by intro e; rw [e] at hxk; simp at hxk
      obtain rfl := G3.out hne
      have hcell : wr.cell? ⟨bv, 0 + k, none⟩ = some (.int .i64 i) := by
        obtain ⟨b2, q1, q2⟩ := HR.out.sl
        rcases q2 with q2 | q2
        · exact absurd q2 hne
        · obtain rfl : bv = b2 := by simpa [Value.ownBlock] using q2.1
          exact q1.cell hxk
      rw [Nat.zero_add] at hcell
      obtain ⟨vl, bc, bp, nc, Dc, np, Dp, hx⟩ := HD.out
      have hsz := part_size s.tick (fun _ => newT) B
      have hi' : i < (s.tick.part (fun _ => newT) B).last.length := by rw [hsz.2]; exact hi
      have htok := DiskS.tick_ok HO.out ho
      have hccs : Sec s.tick.size cc := htok.cs cc (mem_join hc)
      obtain ⟨bl, hbl⟩ : ∃ bl, vl.ownBlock = some bl := by
        obtain ⟨bl, q1, q2⟩ := hx.las.sl
        rcases q2 with q2 | q2
        · have e := hx.ok.bytes_len
          rw [q2] at e
          have := Nat.mul_pos (show 0 < (s.tick.part (fun _ => newT) B).last.length by omega) hx.ok.s1
          simp at e
          omega
        · exact ⟨bl, q2.1⟩
      obtain ⟨ca, ha1, ha2, hat⟩ := at_drew wr.drew b F _ vl bc bp nc Dc np Dp hx.drew i hi' bl hbl
      obtain ⟨cv, _, hlook, hcrow, hcown⟩ := look_some hx hc'
      have hl1 : (Instr.lookup 99 (.map (some bc)) (.int .i64 i) false).run Tryz.prog wr.drew = .ok cv wr.drew := hlook 1
      have hl2 : (Instr.lookup 99 (.map (some bc)) (.int .i64 i) false).run Tryz.prog wr.drew.drew = .ok cv wr.drew.drew := hlook 2
      obtain ⟨bcv, hcsl, _⟩ := Own.sl (hcrow.drew.drew)
      have hxd := hx.drew.drew
      have htk : cc.take s.tick.size = cc := List.take_of_length_le (by rw [hccs.1]; exact Nat.le_refl _)
      obtain ⟨w4, hcp, hv4, k4⟩ := hxd.las.copy (P := Tryz.prog) hbl 27 27 3 5 Tryz.underlying27 (by kernel_rfl) (i * s.tick.size) s.tick.size ca hcsl (by
        rw [htk, hccs.1]
        have e := hx.ok.bytes_len
        have := Nat.mul_le_mul_right s.tick.size (Nat.succ_le_of_lt hi')
        rw [Nat.succ_mul] at this
        rw [e]
        exact this)
      have hnb := Own.ne_map hx.las hx.cac
      have hm4 := map_kept hxd.cac k4 (by simp; intro e; exact hnb (e ▸ hbl))
      obtain ⟨w5, hdel, hm5, ht5⟩ := hm4.drop keyedI Tryz.underlying99 (keyi (x := i) (by omega) (by have := htok.n1; omega)) 0
      have c2 := hx.blk.cell 2 rfl
      have e1 : wr.drew.cell? ⟨b, 2, none⟩ = some (.map (some bc)) := c2
      have e2 : wr.drew.drew.cell? ⟨b, 2, none⟩ = some (.map (some bc)) := c2
      have hbn : b ≠ bl := fun e => Own.ne_cells hx.las hx.blk (by decide) (e ▸ hbl)
      have e4 : w4.cell? ⟨b, 2, none⟩ = some (.map (some bc)) := k4.cell e2 (by simpa using hbn)
      rw [htk] at hcp hv4
      have k5 := kept_turned (k4.mono (S2 := [bl, bc]) (by simp)) ht5 (.inl (by simp))
      have HX5 := Lib.hid (hx.taken (w1 := w5) hi' (x := cc) hccs hbl ((Kept.refl wr _).drew.drew.trans k5 (fun g hg => .inl hg)) (hv4.kept (kept_turned (Kept.refl w4 [bc]) ht5 (.inl (by simp))) (by intro g hg hm; simp at hm; subst hm; exact hnb hg)) hm5)
      have K5 := Lib.hid k5
      have HSTEP := Lib.hid hstep
      have HIDX := Lib.hid hidx
      have i0 : (0 : Int) ≤ i := by omega
      have i1 : (i : Int) < 4096 := by have := htok.n1; omega
      clear hx hxd hnb hm4 hm5 ht5 hl hc hl' hc' hstep hidx hv4 k4 k5 hcrow hcown hlook hcsl htk hccs hxi hxk hne htok
      go_wp2_with fail
      go_region_held3 (fun W => W.cell? ⟨b, 2, none⟩ = some (.map (some bc))) (first | (with_reducible exact e1) | (with_reducible exact e2) | (with_reducible exact e4) | go_keep) (first | (
        go_at_call 63
        refine hat.mono ?_
        rintro _ _ ⟨rfl, rfl⟩))
      all_goals (
        clear e1 e2 hl1 hl2 hat hcp
        go_wp2_with fail
        go_roundg (gk - 1)
        case measure => have := HK.out; omega
        case rel =>
          have hk5 : Kept wr w5 F := ((Kept.refl wr _).drew.drew.trans K5.out (fun g hg => .inl hg)).mono (S2 := F) (fun g hg => by
            have hx5 := HX5.out
            simp at hg
            rcases hg with rfl | rfl
            · exact .inl (hx5.fl _ hbl)
            · exact .inl hx5.fc)
          refine ⟨k + 1, i + 1, by have := HK.out; omega, by go_num, HIDX.out, by have := (DiskS.tick_ok HO.out ho).nc; omega, ?_, HR.out.kept hk5 ?_, HKE.out.trans hk5 (fun g hg => .inl hg)⟩
          · rw [HSTEP.out, left_new]
            exact ⟨vl, bc, bp, nc, _, np, Dp, HX5.out⟩
          · intro g hg hm
            have := (HR.out.lt g hg).1
            have := HLT.out g hm
            omega)
    · have hkn : k = n := by have := HK.out; omega
      clear hlt
      subst hkn
      go_wp2_with fail
      go_ret
      have hok := DiskS.tick_ok HO.out ho
      have e : s.sync = (s.tick.swept (fun _ => newT), 0) := by simp [DiskS.sync, HFF.out]
      refine ⟨_, rfl, ⟨by rw [e]; rfl, ?_⟩, HKE.out⟩
      rw [e]
      have hp := part_between s.tick (fun _ => newT) B s.tick.cach.length hBl (Nat.le_refl _) (by rw [← HN.out]; exact HB.out.symm)
      show DiskAt wr b F (s.tick.part (fun _ => newT) s.tick.last.length)
      rw [← hok.nc, hp]
      exact HD.out
end Go.Proofs.YtcikhnkehglkgaaGreatDoor
