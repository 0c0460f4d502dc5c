/- PROVED: the document's disk: Sync, Unsynced, Bytes. No conditions beyond those that each theorem states. -/
import Derived.Test.YtlojgelidcjeaaaGreatDoorRfE
import Derived.Test.YtlojgelidcjeaaaGreatDoorDkE
namespace Go.Proofs.YtlojgelidcjeaaaGreatDoor
open Go.RowKit Go.Proofs.YtlojgelidcjeaaaGreatDoorLib Go.WideElems Go.Maps
set_option linter.unusedSimpArgs false
set_option linter.unusedVariables false

theorem part_cach_at (s : DiskS) (g : Nat → Int × List Int) (k : Nat) (o : Option (List Int)) (h : s.cach[k]? = some o) : (s.part g k).cach[k]? = some o := by
  show (partCach _ _)[k]? = _
  rw [partCach_get, h]
  simp
set_option maxRecDepth 100000 in
set_option maxHeartbeats 3000000 in
theorem rsync_any (w : World) (b : Nat) (F X : List Nat) (s : DiskS) (h : RDisk w b F X s) (ho : s.ops < 1000000000) :
    Calls Tryz.prog 19 #[.pointer (some ⟨b, 0, none⟩)] w (Post w F fun r W => r = .int .i64 s.sync.2 ∧ RDisk W b F X s.sync.1) := by
  have HFB := Lib.hid h.fb
  have hok := h.ok
  have HO := Lib.hid hok
  clear hok
  go_enter Tryz.func19, Tryz.ntmps19
  go_wp2_with fail
  (with_reducible refine (rfails_any w b F X s h ho).mono ?_)
  rintro _ w1 ⟨_, rfl, ⟨rfl, h1⟩, k1⟩
  have H1 := Lib.hid h1
  have K1 := Lib.hid (k1.mono (S2 := F) (fun g hg => by simp at hg; subst hg; exact .inl HFB.out))
  clear h h1 k1
  by_cases hf : s.fails = true
  · go_wp2_with fail
    go_ret
    have e : s.sync = (s.tick, 3) := by simp [DiskS.sync, hf]
    refine ⟨_, rfl, ⟨by rw [e]; rfl, ?_⟩, K1.out⟩
    rw [e]; exact H1.out
  replace hf : s.fails = false := by simpa using hf
  have e : s.sync = (s.tick.swept (fun _ => newT), 0) := by simp [DiskS.sync, hf]
  have E := Lib.hid e
  clear e
  have htok := DiskS.tick_ok HO.out ho
  have hN : s.tick.last.length = s.last.length := rfl
  have HTOK := Lib.hid htok
  obtain ⟨N, hNN⟩ : ∃ N, N = s.last.length := ⟨_, rfl⟩
  have hN1 : N ≤ 4096 := by rw [hNN]; exact HO.out.n1
  have HNN := Lib.hid hNN
  clear htok hN hNN
  go_wp2_with fail
  go_loopg [4] N (fun g i wr => ∃ k : Nat, k + g = N ∧ i = .int .i64 k ∧ RDisk wr b F X (s.tick.part (fun _ => newT) k) ∧ Kept w wr F)
  case atStart => exact ⟨0, by omega, rfl, by rw [part_zero]; exact H1.out, K1.out⟩
  case round =>
    obtain ⟨k, hk, rfl, hd, hkept⟩ := hrel
    have HK := Lib.hid hk
    have HKE := Lib.hid hkept
    obtain ⟨vl, vc, vp, Ls, Cs, P, hx⟩ := hd
    have hpl : (s.tick.part (fun _ => newT) k).last.length = N := by rw [(part_size _ _ _).2, HNN.out]; rfl
    have hll : Ls.length = N := hx.ll.trans hpl
    have hlc : Cs.length = N := hx.lc.trans hpl
    obtain ⟨Al, cl, rfl, _, _⟩ := hx.las.form
    obtain ⟨Ac, cc, rfl, _, _⟩ := hx.cac.form
    have c1 := hx.blk.cell 1 rfl
    have c2 := hx.blk.cell 2 rfl
    rw [hll] at c1
    rw [hlc] at c2
    have n1 := neq8s
    have n2 := neq8n
    have HX := Lib.hid hx
    clear hk hkept
    by_cases hlt : k < N
    · have k0 : (0 : Int) ≤ k := by omega
      have k1' : (k : Int) < N := by omega
      have hkt : k < s.tick.last.length := by have := HNN.out; show k < s.last.length; omega
      obtain ⟨o, hxc⟩ : ∃ o, s.tick.cach[k]? = some o := ⟨_, List.getElem?_eq_getElem (by rw [HTOK.out.nc]; exact hkt)⟩
      have hpc := part_cach_at s.tick (fun _ => newT) k o hxc
      obtain ⟨uc, huc, hcc⟩ := hx.cel k o hpc
      obtain ⟨gc, cc', ec, dc, fc, _, _⟩ := hx.cac.cell huc
      obtain ⟨rfl, _, rfl⟩ : Ac = some ⟨gc, 0, none⟩ ∧ Cs.length = Cs.length ∧ cc = cc' := by simpa using ec
      cases o with
      | none =>
        obtain rfl := hcc
        have hsk := part_skip s.tick (fun _ => newT) k (by rw [hxc]; rfl)
        have HSK := Lib.hid hsk
        clear hx hpc huc ec hxc hll hlc hpl hsk
        go_wp2_with fail
        go_roundg (gk - 1)
        case measure => have := HK.out; omega
        case rel => exact ⟨k + 1, by have := HK.out; omega, by go_num, by rw [HSK.out]; exact ⟨_, _, _, _, _, _, HX.out⟩, HKE.out⟩
      | some cq =>
        obtain ⟨x, hxl⟩ : ∃ x, s.tick.last[k]? = some x := ⟨_, List.getElem?_eq_getElem hkt⟩
        have hpq := part_last_get s.tick (fun _ => newT) k x hxl
        obtain ⟨ul, hul, _⟩ := hx.lel k x hpq
        obtain ⟨gl, cl', el, dl, fl, _, _⟩ := hx.las.cell hul
        obtain ⟨rfl, _, rfl⟩ : Al = some ⟨gl, 0, none⟩ ∧ Ls.length = Ls.length ∧ cl = cl' := by simpa using el
        have hgl : (Value.slice (some ⟨gl, 0, none⟩) Ls.length cl).ownBlock = some gl := by simp [Value.ownBlock]
        have hgc : (Value.slice (some ⟨gc, 0, none⟩) Cs.length cc).ownBlock = some gc := by simp [Value.ownBlock]
        have hsec := HTOK.out.cs cq (List.mem_of_getElem? hxc)
        have hsl := (hx.setl hgl (i := k) (by rw [hpl]; exact hlt) (u := uc) (l := cq) hcc hsec).drew
        obtain ⟨bb, cb, rfl, _, _⟩ := hcc
        have hglF := hx.fl _ hgl
        have hgcF := hx.fc _ hgc
        have k8 : Kept wr ((wr.setCell ⟨gl, k, none⟩ (.slice (some ⟨bb, 0, none⟩) cq.length cb)).drew) F := ((Kept.refl wr F).setCell (.inl hglF) _).drew
        obtain ⟨w8, hw8⟩ : ∃ w8, (wr.setCell ⟨gl, k, none⟩ (.slice (some ⟨bb, 0, none⟩) cq.length cb)).drew = w8 := ⟨_, rfl⟩
        rw [hw8] at hsl k8
        have hsc := hsl.setc hgc (i := k) (by show k < (List.set _ _ _).length; rw [List.length_set, hpl]; exact hlt) (u := .slice none 0 0) (o := none) rfl (fun l' e => by cases e)
        have c2' := hsl.blk.cell 2 rfl
        rw [hlc] at c2'
        obtain ⟨gc', _, ec', dc', fc', _, _⟩ := hsl.cac.cell huc
        obtain rfl : gc = gc' := by simp at ec'; exact ec'.1
        have k9 : Kept wr (w8.setCell ⟨gc, k, none⟩ (.slice none 0 0)) F := k8.setCell (.inl hgcF) _
        have hstep := part_step s.tick (fun _ => newT) k cq (by rw [hxc]; rfl) x hxl
        rw [left_new] at hstep
        have HST := Lib.hid hstep
        have HSC := Lib.hid hsc
        have HW8 := Lib.hid hw8
        have K9 := Lib.hid k9
        clear hx hpc huc ec ec' el hul hxc hxl hpq hll hlc hpl hstep hsc hw8 k9 k8 hsl hsec hgl hgc HX hglF hgcF
        go_wp2_with fail
        go_region
        all_goals (
          rw [HW8.out]
          clear c1 c2 dc fc dl fl
          go_wp2_with fail
          go_roundg (gk - 1)
          case measure => have := HK.out; omega
          case rel => exact ⟨k + 1, by have := HK.out; omega, by go_num, by rw [HST.out]; exact ⟨_, _, _, _, _, _, HSC.out⟩, HKE.out.trans K9.out (fun g hg => .inl hg)⟩)
    · have hkn : k = N := by have := HK.out; omega
      clear hlt
      subst hkn
      go_wp2_with fail
      go_ret
      refine ⟨_, rfl, ⟨by rw [E.out]; rfl, ?_⟩, HKE.out⟩
      rw [E.out]
      have hsw : s.tick.swept (fun _ => newT) = s.tick.part (fun _ => newT) k := by rw [HNN.out]; rfl
      rw [hsw]
      exact ⟨_, _, _, _, _, _, HX.out⟩
/-- the first sectors that are cached -/
def uns (s : DiskS) (k : Nat) : List Int := ((List.range k).filter fun i => (s.cach[i]?.join).isSome).map Int.ofNat
theorem uns_yes (s : DiskS) (k : Nat) (c : List Int) (h : s.cach[k]? = some (some c)) : uns s (k + 1) = uns s k ++ [(k : Int)] := by
  unfold uns
  rw [List.range_succ, List.filter_append, List.map_append]
  congr 1
  simp [h]
theorem uns_no (s : DiskS) (k : Nat) (h : s.cach[k]? = some none) : uns s (k + 1) = uns s k := by
  unfold uns
  rw [List.range_succ, List.filter_append, List.map_append]
  simp [h]
theorem uns_le (s : DiskS) (k : Nat) : (uns s k).length ≤ k := by
  unfold uns
  rw [List.length_map]
  exact Nat.le_trans (List.length_filter_le _ _) (by simp)
theorem infoI : (Tryz.prog.info? 3).map (fun i => (i.zero, i.size, i.bytes)) = some (some (.int .i64 0), 1, 8) := by kernel_rfl
set_option maxRecDepth 100000 in
set_option maxHeartbeats 3000000 in
theorem runsynced_any (w : World) (b : Nat) (F X : List Nat) (s : DiskS) (h : RDisk w b F X s) :
    Calls Tryz.prog 29 #[.pointer (some ⟨b, 0, none⟩)] w (Post w [] fun v W => Own 3 .i64 W w.heap.size v s.unsynced) := by
  obtain ⟨vl, vc, vp, Ls, Cs, P, hx⟩ := h
  have hlc : Cs.length = s.last.length := hx.lc
  obtain ⟨N, hNN⟩ : ∃ N, N = s.last.length := ⟨_, rfl⟩
  have hN1 : N ≤ 4096 := by rw [hNN]; exact hx.ok.n1
  have hu : s.unsynced = uns s N := by rw [hNN, ← hx.ok.nc]; rfl
  rw [← hNN] at hlc
  rw [hu]
  obtain ⟨Ac, cc, rfl, _, _⟩ := hx.cac.form
  have HNN := Lib.hid hNN
  have HLC := Lib.hid hlc
  have HX := Lib.hid hx
  obtain ⟨i0, hi, hz0, hz1, hz2⟩ := info_parts infoI
  have HI := Lib.hid hi
  have HZ0 := Lib.hid hz0
  have HZ1 := Lib.hid hz1
  have HZ2 := Lib.hid hz2
  clear hi hz0 hz1 hz2 hu hNN hlc
  go_enter Tryz.func29, Tryz.ntmps29
  go_wp2_with fail
  go_loopg [3, 4] N (fun g vv i wr => ∃ k : Nat, k + g = N ∧ i = .int .i64 k ∧ Own 3 .i64 wr w.heap.size vv (uns s k) ∧ Kept w wr [])
  case atStart => exact ⟨0, by omega, rfl, Own.nil _ _ _ _, Kept.refl _ _⟩
  case round =>
    obtain ⟨k, hk, rfl, hrow, hkept⟩ := hrel
    obtain ⟨bw, hsl, _⟩ := hrow.sl
    obtain ⟨Aw, cw, rfl⟩ := hsl.form
    have HK := Lib.hid hk
    have HKE := Lib.hid hkept
    have HRO := Lib.hid hrow
    have hxr := HX.out.kept hkept
    have c2 := hxr.blk.cell 2 rfl
    rw [HLC.out] at c2
    have n1 := neq8s
    have n2 := neq8n
    clear hk hkept hrow hsl
    by_cases hlt : k < N
    · have k0 : (0 : Int) ≤ k := by omega
      have k1' : (k : Int) < N := by omega
      have hkt : k < s.last.length := by have := HNN.out; omega
      obtain ⟨o, hxc⟩ : ∃ o, s.cach[k]? = some o := ⟨_, List.getElem?_eq_getElem (by rw [HX.out.ok.nc]; exact hkt)⟩
      obtain ⟨uc, huc, hcc⟩ := hxr.cel k o hxc
      obtain ⟨gc, cc', ec, dc, fc, _, _⟩ := hxr.cac.cell huc
      obtain ⟨rfl, _, rfl⟩ : Ac = some ⟨gc, 0, none⟩ ∧ Cs.length = Cs.length ∧ cc = cc' := by simpa using ec
      cases o with
      | none =>
        obtain rfl := hcc
        have HU := Lib.hid (uns_no s k hxc)
        clear hxr huc ec hxc
        go_wp2_with fail
        go_roundg (gk - 1)
        case measure => have := HK.out; omega
        case rel => exact ⟨k + 1, by have := HK.out; omega, by go_num, by rw [HU.out]; exact HRO.out, HKE.out⟩
      | some cq =>
        obtain ⟨bb, cb, rfl, _, _⟩ := hcc
        have HU := Lib.hid (uns_yes s k cq hxc)
        have hul := uns_le s k
        have HUL := Lib.hid hul
        have hb2 := Blk.new wr 3 [.int .i64 (k : Int)]
        have ho2 : Own 3 .i64 (wr.alloc (.cells #[.int .i64 (k : Int)] 3)) w.heap.size (.slice Aw (uns s k).length cw) (uns s k) := HRO.out.alloc _
        obtain ⟨v7, w7, hap, ho7, k7⟩ := own_append (P := Tryz.prog) Tryz.underlying55 HI.out HZ0.out HZ1.out HZ2.out ho2 (Sl.of_blk (k := .i64) [(k : Int)] hb2 rfl 1 (Nat.le_refl _) (by unfold maxLen; omega)) (by simp; omega) (by unfold maxLen; simp; omega) (by have := HKE.out.size; simp; omega) 55
        have HAP := Lib.hid hap
        rw [← HU.out] at ho7
        have HO7 := Lib.hid ho7
        have K7 : Hid (Kept w w7 []) := Lib.hid ((HKE.out.alloc _).trans k7 (fun g hg => .inr (by simp only [Option.mem_toList] at hg; exact (HRO.out.lt g hg).1)))
        clear hxr huc ec hxc hb2 ho2 hap ho7 k7 hul
        generalize (uns s k).length = nu at *
        go_wp2_with (first | (at_builtin; refine wpList_append_run rfl _ _ _ rfl rfl rfl HAP.out ?_))
        go_roundg (gk - 1)
        case measure => have := HK.out; omega
        case rel => exact ⟨k + 1, by have := HK.out; omega, by go_num, HO7.out, K7.out⟩
    · have hkn : k = N := by have := HK.out; omega
      clear hlt hxr
      subst hkn
      go_wp2_with fail
      go_ret
      exact ⟨_, rfl, HRO.out, HKE.out⟩
theorem flat_succ (l : List (List Int)) (k : Nat) (x : List Int) (h : l[k]? = some x) : (l.take (k + 1)).flatten = (l.take k).flatten ++ x := by
  rw [List.take_add_one, h, List.flatten_append]
  simp
set_option maxRecDepth 100000 in
set_option maxHeartbeats 3000000 in
theorem rbytes_any (w : World) (b : Nat) (F X : List Nat) (s : DiskS) (h : RDisk w b F X s) :
    Calls Tryz.prog 26 #[.pointer (some ⟨b, 0, none⟩)] w (Post w [] fun v W => Own 5 .u8 W w.heap.size v s.bytes) := by
  obtain ⟨vl, vc, vp, Ls, Cs, P, hx⟩ := h
  have hll : Ls.length = s.last.length := hx.ll
  obtain ⟨N, hNN⟩ : ∃ N, N = s.last.length := ⟨_, rfl⟩
  have hN1 : N ≤ 4096 := by rw [hNN]; exact hx.ok.n1
  have hu : s.bytes = (s.last.take N).flatten := by rw [hNN, List.take_length]; rfl
  rw [← hNN] at hll
  rw [hu]
  obtain ⟨Al, cl, rfl, _, _⟩ := hx.las.form
  have HNN := Lib.hid hNN
  have HLL := Lib.hid hll
  have HX := Lib.hid hx
  obtain ⟨i0, hi, hz0, hz1, hz2⟩ := info_parts info8
  have HI := Lib.hid hi
  have HZ0 := Lib.hid hz0
  have HZ1 := Lib.hid hz1
  have HZ2 := Lib.hid hz2
  clear hi hz0 hz1 hz2 hu hNN hll
  go_enter Tryz.func26, Tryz.ntmps26
  go_wp2_with fail
  go_loopg [3, 4] N (fun g vv i wr => ∃ k : Nat, k + g = N ∧ i = .int .i64 k ∧ Own 5 .u8 wr w.heap.size vv ((s.last.take k).flatten) ∧ Kept w wr [])
  case atStart => exact ⟨0, by omega, rfl, by simp; exact Own.nil _ _ _ _, Kept.refl _ _⟩
  case round =>
    obtain ⟨k, hk, rfl, hrow, hkept⟩ := hrel
    obtain ⟨bw, hsl, _⟩ := hrow.sl
    obtain ⟨Aw, cw, rfl⟩ := hsl.form
    have HK := Lib.hid hk
    have HKE := Lib.hid hkept
    have HRO := Lib.hid hrow
    have hxr := HX.out.kept hkept
    have c1 := hxr.blk.cell 1 rfl
    rw [HLL.out] at c1
    clear hk hkept hrow hsl
    by_cases hlt : k < N
    · have k0 : (0 : Int) ≤ k := by omega
      have k1' : (k : Int) < N := by omega
      have hkt : k < s.last.length := by have := HNN.out; omega
      obtain ⟨x, hxl⟩ : ∃ x, s.last[k]? = some x := ⟨_, List.getElem?_eq_getElem hkt⟩
      obtain ⟨ul, hul, hcl⟩ := hxr.lel k x hxl
      obtain ⟨gl, cl', el, dl, _, _, _⟩ := hxr.las.cell hul
      obtain ⟨rfl, _, rfl⟩ : Al = some ⟨gl, 0, none⟩ ∧ Ls.length = Ls.length ∧ cl = cl' := by simpa using el
      obtain ⟨bb, cb, rfl, hsx, _⟩ := hcl
      have HU := Lib.hid (flat_succ s.last k x hxl)
      have hsec := HX.out.ok.ls x (List.mem_of_getElem? hxl)
      have hs2 := HX.out.ok.s2
      have hxlen : x.length ≤ 4096 := by rw [hsec.1]; exact hs2
      have hfl : (s.last.take k).flatten.length ≤ 4096 * 4096 := by
        rw [flatten_length (size := s.size) (fun y hy => HX.out.ok.ls y (List.mem_of_mem_take hy)), List.length_take]
        exact Nat.mul_le_mul (by omega) hs2
      obtain ⟨v7, w7, hap, ho7, k7⟩ := own_append (P := Tryz.prog) Tryz.underlying35 HI.out HZ0.out HZ1.out HZ2.out HRO.out hsx (by omega) (by unfold maxLen; omega) HKE.out.size 35
      have HAP := Lib.hid hap
      rw [← HU.out] at ho7
      have HO7 := Lib.hid ho7
      have K7 : Hid (Kept w w7 []) := Lib.hid (HKE.out.trans k7 (fun g hg => .inr (by simp only [Option.mem_toList] at hg; exact (HRO.out.lt g hg).1)))
      clear hxr hul el hxl hsx hap ho7 k7 hsec hs2 hxlen hfl
      generalize (s.last.take k).flatten.length = nu at *
      go_wp2_with (first | (at_builtin; refine wpList_append_run rfl _ _ _ rfl rfl rfl HAP.out ?_))
      go_roundg (gk - 1)
      case measure => have := HK.out; omega
      case rel => exact ⟨k + 1, by have := HK.out; omega, by go_num, HO7.out, K7.out⟩
    · have hkn : k = N := by have := HK.out; omega
      clear hlt hxr
      subst hkn
      have hul : ∀ q, (s.last.take k).flatten.length = q → q = q := fun _ _ => rfl
      generalize (s.last.take k).flatten.length = nu at *
      go_wp2_with fail
      go_ret
      exact ⟨_, rfl, HRO.out, HKE.out⟩
end Go.Proofs.YtlojgelidcjeaaaGreatDoor
