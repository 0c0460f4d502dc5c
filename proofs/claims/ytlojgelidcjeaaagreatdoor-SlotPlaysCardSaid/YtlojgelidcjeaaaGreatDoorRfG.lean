/- PROVED: the document's disk: Crash. No conditions beyond those that each theorem states. -/
import Derived.Test.YtlojgelidcjeaaaGreatDoorRfF
import Derived.Test.YtlojgelidcjeaaaGreatDoorDkLf
namespace Go.Proofs.YtlojgelidcjeaaaGreatDoor
open Go.RowKit Go.Proofs.YtlojgelidcjeaaaGreatDoorLib Go.WideElems Go.Maps
set_option linter.unusedSimpArgs false
set_option linter.unusedVariables false

theorem eql8 (w : World) (x : Option Addr) (n c n' c' : Nat) : (binOp .eql 35 (.slice x n c) (.slice none n' c')).run Tryz.prog w = .ok (.bool x.isNone) w := by
  simp only [binOp]
  simp [Op.equal, Op.maxDepth, Lib.run_equalIn_slice_nil w 9999 35 5 x n c n' c' Tryz.underlying35]
theorem eql8s (w : World) (x : Addr) (n c : Nat) : (binOp .eql 35 (.slice (some x) n c) (.slice none 0 0)).run Tryz.prog w = .ok (.bool false) w := eql8 w (some x) n c 0 0
theorem eql8n (w : World) : (binOp .eql 35 (.slice none 0 0) (.slice none 0 0)).run Tryz.prog w = .ok (.bool true) w := eql8 w none 0 0 0 0
/-- what a sector's turn leaves -/
theorem rcrash_turn {wr wc : World} {b : Nat} {F X : List Nat} {s : DiskS} {g : Nat → Int × List Int} {k : Nat} {vp : Value} {Ls Cs : List Value} {P : List Int} {gl gc cl cc : Nat}
    (hx : RDiskX wc b F X (s.part g k) (.slice (some ⟨gl, 0, none⟩) Ls.length cl) (.slice (some ⟨gc, 0, none⟩) Cs.length cc) vp Ls Cs P) (kx : Kept wr wc []) {x cq : List Int} (hxl : s.last[k]? = some x) (hxc : s.cach[k]? = some (some cq))
    {t : Int × List Int} (ht : t = g (idx s.cach k)) (hsec : Sec s.size (left x cq t)) {uq : Value} (huq : Cs[k]? = some uq) (w9 : World) (r : Value) (b1 b2 b9 o9 : Nat) (h9 : Sl .u8 w9 r b9 o9 (left x cq t)) (hb1 : b1 ∉ X) (hb2 : b2 ∉ X)
    (hloc : (b9 = b1 ∧ o9 = 0) ∨ (b9 = b2 ∧ o9 = 0) ∨ (o9 = 0 ∧ wc.heap.size ≤ b9) ∨ left x cq t = []) (k9 : Kept wc w9 []) (hs1 : 1 ≤ s.size) :
    ∃ n9 c9 w10, r = .slice (some ⟨b9, 0, none⟩) n9 c9 ∧ w9.setCell ⟨gl, k, none⟩ r = w10 ∧ w9.cell? ⟨b, 1, none⟩ = some (.slice (some ⟨gl, 0, none⟩) Ls.length cl) ∧ (∃ u, w9.cell? ⟨gl, k, none⟩ = some u) ∧ w9.frozen? ⟨gl, k, none⟩ = false ∧
      (w9.setCell ⟨gl, k, none⟩ r).cell? ⟨b, 1, none⟩ = some (.slice (some ⟨gl, 0, none⟩) Ls.length cl) ∧ w10.cell? ⟨b, 2, none⟩ = some (.slice (some ⟨gc, 0, none⟩) Cs.length cc) ∧ w10.cell? ⟨gc, k, none⟩ = some uq ∧ w10.frozen? ⟨gc, k, none⟩ = false ∧
      RDisk (w10.setCell ⟨gc, k, none⟩ (.slice none 0 0)) b F X (s.part g (k + 1)) ∧ Kept wr (w10.setCell ⟨gc, k, none⟩ (.slice none 0 0)) F := by
  have hl0 : left x cq t ≠ [] := by intro e; rw [e] at hsec; have := hsec.1; simp at this; omega
  have hkl : k < s.last.length := (List.getElem?_eq_some_iff.1 hxl).1
  have hpl : (s.part g k).last.length = s.last.length := (part_size _ _ _).2
  have ho9 : o9 = 0 := by
    rcases hloc with h | h | h | h
    · exact h.2
    · exact h.2
    · exact h.1
    · exact absurd h hl0
  subst ho9
  obtain ⟨c9, rfl⟩ := h9.at hl0
  have hb9 : b9 ∉ X := by
    rcases hloc with h | h | h | h
    · rw [h.1]; exact hb1
    · rw [h.1]; exact hb2
    · intro hm; have := hx.xlt _ hm; omega
    · exact absurd h hl0
  have hx9 := hx.kept k9
  have hgl : (Value.slice (some ⟨gl, 0, none⟩) Ls.length cl).ownBlock = some gl := by simp [Value.ownBlock]
  have hgc : (Value.slice (some ⟨gc, 0, none⟩) Cs.length cc).ownBlock = some gc := by simp [Value.ownBlock]
  obtain ⟨ul, hul, _⟩ := hx9.lel k x (part_last_get s g k x hxl)
  obtain ⟨gl', _, el, dl, fl, _, _⟩ := hx9.las.cell hul
  obtain rfl : gl = gl' := by simp at el; exact el.1
  have hset := hx9.setl hgl (i := k) (by rw [hpl]; exact hkl) (u := .slice (some ⟨b9, 0, none⟩) (left x cq t).length c9) (l := left x cq t) ⟨b9, c9, rfl, h9, hb9⟩ hsec
  obtain ⟨gc', _, ec, dc, fc, _, _⟩ := hset.cac.cell huq
  obtain rfl : gc = gc' := by simp at ec; exact ec.1
  have hsc := hset.setc hgc (i := k) (by show k < (List.set _ _ _).length; rw [List.length_set, hpl]; exact hkl) (u := .slice none 0 0) (o := none) rfl (fun l' e => by cases e)
  have hstep := part_step s g k cq (by rw [hxc]; rfl) x hxl
  rw [← ht] at hstep
  have c1 := hset.blk.cell 1 rfl
  refine ⟨_, c9, _, rfl, rfl, hx9.blk.cell 1 rfl, ⟨_, dl⟩, fl, c1, hset.blk.cell 2 rfl, dc, fc, ?_, ?_⟩
  · rw [hstep]; exact ⟨_, _, _, _, _, _, hsc⟩
  · exact ((((kx.mono (by simp)).trans k9 (by simp)).setCell (.inl (hx.fl _ hgl)) _).setCell (.inl (hx.fc _ hgc)) _)
/-- what the walk reads of a world -/
def CrS (W : World) (b gl gc k N cl cc bb cb bt : Nat) (nq : Nat) (t0 : Int) (vw : Value) : Prop :=
  W.cell? ⟨b, 1, none⟩ = some (.slice (some ⟨gl, 0, none⟩) N cl) ∧ W.cell? ⟨b, 2, none⟩ = some (.slice (some ⟨gc, 0, none⟩) N cc) ∧ W.cell? ⟨gc, k, none⟩ = some (.slice (some ⟨bb, 0, none⟩) nq cb) ∧ W.cell? ⟨bt, 0, none⟩ = some (.int .i64 t0) ∧ W.cell? ⟨bt, 1, none⟩ = some vw
theorem rcrash_turn2 {wr wc : World} {b : Nat} {F X : List Nat} {s : DiskS} {g : Nat → Int × List Int} {k : Nat} {vp : Value} {Ls Cs : List Value} {P : List Int} {gl gc cl cc : Nat}
    (hx : RDiskX wc b F X (s.part g k) (.slice (some ⟨gl, 0, none⟩) Ls.length cl) (.slice (some ⟨gc, 0, none⟩) Cs.length cc) vp Ls Cs P) (kx : Kept wr wc []) {x cq : List Int} (hxl : s.last[k]? = some x) (hxc : s.cach[k]? = some (some cq))
    {t : Int × List Int} (ht : t = g (idx s.cach k)) (hsec : Sec s.size (left x cq t)) {bb cb nq : Nat} (huq : Cs[k]? = some (.slice (some ⟨bb, 0, none⟩) nq cb)) {N : Nat} (hll : Ls.length = N) (hlc : Cs.length = N) {bt : Nat} {t0 : Int} {vw : Value} (hS : CrS wc b gl gc k N cl cc bb cb bt nq t0 vw) (hgb : gl ≠ bt)
    {b1 b2 : Nat} (hb1 : b1 ∉ X) (hb2 : b2 ∉ X) (hs1 : 1 ≤ s.size) (w9 : World) (r : Value) (b9 o9 : Nat) (h9 : Sl .u8 w9 r b9 o9 (left x cq t)) 
    (hloc : (b9 = b1 ∧ o9 = 0) ∨ (b9 = b2 ∧ o9 = 0) ∨ (o9 = 0 ∧ wc.heap.size ≤ b9) ∨ left x cq t = []) (k9 : Kept wc w9 []) :
    ∃ n9 c9, r = .slice (some ⟨b9, 0, none⟩) n9 c9 ∧ Hid (CrS w9 b gl gc k N cl cc bb cb bt nq t0 vw) ∧ Hid (CrS (w9.setCell ⟨gl, k, none⟩ (.slice (some ⟨b9, 0, none⟩) n9 c9)) b gl gc k N cl cc bb cb bt nq t0 vw) ∧ (∃ u, w9.cell? ⟨gl, k, none⟩ = some u) ∧ w9.frozen? ⟨gl, k, none⟩ = false ∧
      Hid ((w9.setCell ⟨gl, k, none⟩ (.slice (some ⟨b9, 0, none⟩) n9 c9)).frozen? ⟨gc, k, none⟩ = false ∧ RDisk ((w9.setCell ⟨gl, k, none⟩ (.slice (some ⟨b9, 0, none⟩) n9 c9)).setCell ⟨gc, k, none⟩ (.slice none 0 0)) b F X (s.part g (k + 1)) ∧ Kept wr ((w9.setCell ⟨gl, k, none⟩ (.slice (some ⟨b9, 0, none⟩) n9 c9)).setCell ⟨gc, k, none⟩ (.slice none 0 0)) F) := by
  obtain ⟨n9, c9, w10, rfl, rfl, f1, f2, f3, f4, f5, f6, f7, hfin, hkf⟩ := rcrash_turn hx kx hxl hxc ht hsec huq w9 r b1 b2 b9 o9 h9 hb1 hb2 hloc k9 hs1
  obtain ⟨s1, s2, s3, s4, s5⟩ := hS
  rw [hll] at f1 f4
  rw [hlc] at f5
  refine ⟨n9, c9, rfl, ⟨f1, k9.cell s2 (by simp), k9.cell s3 (by simp), k9.cell s4 (by simp), k9.cell s5 (by simp)⟩, ⟨f4, f5, f6, (World.cell?_setCell_far w9 ⟨gl, k, none⟩ ⟨bt, 0, none⟩ _ hgb).trans (k9.cell s4 (by simp)), (World.cell?_setCell_far w9 ⟨gl, k, none⟩ ⟨bt, 1, none⟩ _ hgb).trans (k9.cell s5 (by simp))⟩, f2, f3, f7, hfin, hkf⟩
set_option maxRecDepth 100000 in
set_option maxHeartbeats 4000000 in
theorem rcrash_any (w : World) (b : Nat) (F X : List Nat) (s : DiskS) (h : RDisk w b F X s) (tv : Value) (ts : List (Int × List Int)) (ht : TearsAt w F tv ts) :
    Calls Tryz.prog 21 #[.pointer (some ⟨b, 0, none⟩), tv] w (Post w F fun r W => r = .tuple #[] ∧ RDisk W b F X (s.crash ts)) := by
  have HO := Lib.hid h.ok
  have HLT := Lib.hid h.lt
  have HT := Lib.hid ht
  have HH := Lib.hid h
  obtain ⟨At, ct, rfl, t1, t2, t3⟩ := ht
  have htl : ts.length ≤ maxLen := by omega
  unfold maxLen at htl
  have tl0 : (0 : Int) ≤ ts.length := by omega
  have tl1 : (ts.length : Int) ≤ 9223372036854775807 := by omega
  obtain ⟨N, hNN⟩ : ∃ N, N = s.last.length := ⟨_, rfl⟩
  have hN1 : N ≤ 4096 := by rw [hNN]; exact HO.out.n1
  have HNN := Lib.hid hNN
  clear t3 hNN h t1 t2
  go_enter Tryz.func21, Tryz.ntmps21
  go_wp2_with fail
  go_loopg [4, 5] N (fun g nx i wr => ∃ k : Nat, k + g = N ∧ i = .int .i64 k ∧ nx = .int .i64 (idx s.cach k) ∧ RDisk wr b F X (s.part (fun k => ts[k]?.getD oldT) k) ∧ TearsAt wr F (.slice At ts.length ct) ts ∧ Kept w wr F)
  case atStart => exact ⟨0, by omega, rfl, by simp [idx], by rw [part_zero]; exact HH.out, HT.out, Kept.refl _ _⟩
  case round =>
    obtain ⟨k, hk, rfl, rfl, hd, htr, hkept⟩ := hrel
    have HK := Lib.hid hk
    have HKE := Lib.hid hkept
    have HTR := Lib.hid htr
    have HD := Lib.hid hd
    obtain ⟨vl, vc, vp, Ls, Cs, P, hx⟩ := hd
    have hpl : (s.part (fun k => ts[k]?.getD oldT) k).last.length = N := by rw [(part_size _ _ _).2, HNN.out]
    have hll : Ls.length = N := hx.ll.trans hpl
    have hlc : Cs.length = N := hx.lc.trans hpl
    obtain ⟨Al, cl, rfl, _, _⟩ := hx.las.form
    obtain ⟨Ac, cc, rfl, _, _⟩ := hx.cac.form
    have c2 := hx.blk.cell 2 rfl
    rw [hlc] at c2
    have n1 := eql8s
    have n2 := eql8n
    have HX := Lib.hid hx
    have hixk : idx s.cach k ≤ k := by unfold idx; exact Nat.le_trans List.countP_le_length (by simp; omega)
    have hix1 := idx_succ s.cach k
    obtain ⟨m, hm⟩ : ∃ m, m = idx s.cach k := ⟨_, rfl⟩
    rw [← hm] at hixk hix1 ⊢
    have HM := Lib.hid hm
    clear hk hkept htr hm
    by_cases hlt : k < N
    · have k0 : (0 : Int) ≤ k := by omega
      have k1' : (k : Int) < N := by omega
      have m0 : (0 : Int) ≤ m := by omega
      have m1 : (m : Int) ≤ 4096 := by omega
      have hkt : k < s.last.length := by have := HNN.out; omega
      have hkc : k < s.cach.length := by rw [HO.out.nc]; exact hkt
      replace hix1 := hix1 hkc
      obtain ⟨o, hxc⟩ : ∃ o, s.cach[k]? = some o := ⟨_, List.getElem?_eq_getElem hkc⟩
      have hpc := part_cach_at s (fun k => ts[k]?.getD oldT) k o hxc
      obtain ⟨uc, huc, hcc⟩ := hx.cel k o hpc
      obtain ⟨gc, cc', ec, dc, fc, _, _⟩ := hx.cac.cell huc
      obtain ⟨rfl, _, rfl⟩ : Ac = some ⟨gc, 0, none⟩ ∧ Cs.length = Cs.length ∧ cc = cc' := by simpa using ec
      cases o with
      | none =>
        obtain rfl := hcc
        have hsk := part_skip s (fun k => ts[k]?.getD oldT) k (by rw [hxc]; rfl)
        have HSK := Lib.hid hsk
        have HIX : Hid (idx s.cach (k + 1) = m) := Lib.hid (by rw [hix1, hxc]; rfl)
        clear hx hpc huc ec hxc hll hlc hpl hsk hix1
        go_wp2_with fail
        go_roundg (gk - 1)
        case measure => have := HK.out; omega
        case rel => exact ⟨k + 1, by have := HK.out; omega, by go_num, by rw [HIX.out], by rw [HSK.out]; exact HD.out, HTR.out, HKE.out⟩
      | some cq =>
        obtain ⟨bb, cb, rfl, hsq, hbbF⟩ := hcc
        obtain ⟨x, hxl⟩ : ∃ x, s.last[k]? = some x := ⟨_, List.getElem?_eq_getElem hkt⟩
        have HIX : Hid (idx s.cach (k + 1) = m + 1) := Lib.hid (by rw [hix1, hxc]; rfl)
        have HXC := Lib.hid hxc
        have HXL := Lib.hid hxl
        clear hpc hxc hxl hix1
        obtain ⟨t, ht⟩ : ∃ t, t = ts[m]?.getD oldT := ⟨_, rfl⟩
        have HTT := Lib.hid ht
        have hc2a := c2
        clear ht hx ec hll hlc
        go_upto_if 28 with fail
        go_cut [6] from 7 to 62 (fun v wx => ∃ bt bw, v = .pointer (some ⟨bt, 0, none⟩) ∧ wr.heap.size ≤ bt ∧ Blk wx bt 66 [.int .i64 t.1, bw] ∧ BtsAt wx F bw t.2 ∧ Kept wr wx [])
        case first =>
          by_cases hkt : m < ts.length
          · have htk : ts[m]? = some t := by rw [HTT.out, List.getElem?_eq_getElem hkt]; rfl
            obtain ⟨Ab, Ac, Ae, _, _, Ah⟩ := HTR.out
            obtain ⟨tb, off, bw, e, hbF, d0, d1, hbw⟩ := Ah m t htk
            obtain rfl : At = some ⟨tb, off, none⟩ := by rw [← e]; simp at Ae; exact Ae.1
            obtain ⟨Aw, cw, rfl⟩ := hbw.choose_spec.choose_spec.1.form
            have d0' := Lib.cell?_alloc_some (o := .cells #[.int .i64 0, .slice none 0 0] 66) d0
            have d1' := Lib.cell?_alloc_some (o := .cells #[.int .i64 0, .slice none 0 0] 66) d1
            rw [← Nat.add_assoc] at d1'
            have hki : (m : Int) < ts.length := by omega
            clear Ah e Ae htk
            go_wp2_with fail
            go_meet
            case rel =>
              have kq := (Kept.refl wr []).alloc (.cells #[.int .i64 t.1, .slice Aw t.2.length cw] 66)
              exact ⟨wr.heap.size, _, rfl, Nat.le_refl _, Blk.new _ _ _, hbw.kept kq (by simp), kq⟩
          · have htk : t = oldT := by rw [HTT.out, List.getElem?_eq_none (by omega)]; rfl
            go_wp2_with fail
            go_meet
            case rel =>
              refine ⟨wr.heap.size, .slice none 0 0, rfl, Nat.le_refl _, ?_, ?_, (Kept.refl _ _).alloc _⟩
              · rw [htk]; exact Blk.new _ _ _
              · rw [htk]; exact ⟨0, 0, Sl.nil _ _ _ _, Bts.nil, .inl rfl⟩
        case rest =>
          obtain ⟨bt, bw, rfl, hbt, hbk, hbw, kx⟩ := hcut
          have b0 := hbk.cell 0 rfl
          have b1 := hbk.cell 1 rfl
          have hx := HX.out.kept kx
          have hpq := part_last_get s (fun k => ts[k]?.getD oldT) k x HXL.out
          obtain ⟨ul, hul, hcl⟩ := hx.lel k x hpq
          obtain ⟨gl, cl', el, dl, fl, _, _⟩ := hx.las.cell hul
          obtain ⟨rfl, _, rfl⟩ : Al = some ⟨gl, 0, none⟩ ∧ Ls.length = Ls.length ∧ cl = cl' := by simpa using el
          obtain ⟨bl, cbl, rfl, hsx, hblF⟩ := hcl
          obtain ⟨bx, bo, hbs, hbb, _⟩ := hbw
          obtain ⟨Ab, cwb, rfl⟩ := hbs.form
          have hsec : Sec s.size (left x cq t) := left_sec (HO.out.ls x (List.mem_of_getElem? HXL.out)) (HO.out.cs cq (List.mem_of_getElem? HXC.out)) hbb
          have hxlen : x.length ≤ 4096 := by rw [(HO.out.ls x (List.mem_of_getElem? HXL.out)).1]; exact HO.out.s2
          have hcall := left_at wc.drew _ _ _ bl 0 bb 0 bx bo x cq t hsx.drew (hsq.kept kx (.inr (by simp))).drew hbs.drew hbb hxlen
          have c1 := hx.blk.cell 1 rfl
          have c1d : wc.drew.cell? ⟨b, 1, none⟩ = _ := c1
          have c2' := hx.blk.cell 2 rfl
          have dc' := kx.cell dc (by simp)
          have hs1 := HO.out.s1
          have HS1 := Lib.hid hs1
          have hll : Ls.length = N := hx.ll.trans hpl
          have hlc : Cs.length = N := hx.lc.trans hpl
          rw [hll] at c1 c1d
          rw [hlc] at c2'
          have HLL := Lib.hid hll
          have HLC := Lib.hid hlc
          have HCALL := Lib.hid hcall
          have HXLEN := Lib.hid hxlen
          have HGB : Hid (gl ≠ bt) := Lib.hid (by have h1 := HLT.out gl (hx.fl gl (by simp [Value.ownBlock])); have h2 := HKE.out.size; omega)
          have hS : CrS wc b gl gc k N cl cc bb cb bt cq.length t.1 (.slice Ab t.2.length cwb) := ⟨c1, c2', dc', b0, b1⟩
          have HTURN := Lib.hid (rcrash_turn2 (g := fun k => ts[k]?.getD oldT) (k := k) hx kx HXL.out HXC.out (t := t) (by show t = ts[idx s.cach k]?.getD oldT; rw [HTT.out, HM.out]) hsec huc hll hlc hS HGB.out hblF hbbF hs1)
          have S0 : Hid (CrS wc.drew b gl gc k N cl cc bb cb bt cq.length t.1 (.slice Ab t.2.length cwb)) := Lib.hid hS
          clear hS hbk kx hx hpq hul el hbs hbb hsec hxlen hcall hll hlc hpl hs1 hsx hsq c2 dc huc hc2a
          go_wp2_with fail
          refine wp_region_noPanic ?_
          refine wp_region_held_drew (S := (fun W => W.cell? ⟨b, 1, none⟩ = some (.slice (some ⟨gl, 0, none⟩) N cl) ∧ W.cell? ⟨b, 2, none⟩ = some (.slice (some ⟨gc, 0, none⟩) N cc) ∧ W.cell? ⟨gc, k, none⟩ = some (.slice (some ⟨bb, 0, none⟩) cq.length cb) ∧ W.cell? ⟨bt, 0, none⟩ = some (.int .i64 t.1) ∧ W.cell? ⟨bt, 1, none⟩ = some (.slice Ab t.2.length cwb))) (by kernel_rfl) S0.out (fun hHeld => ?_)
          refine wpAnyH_take (i := 0) (oi := ?oi0) (v := ?v0) ?hi0 ?hs0 ?hf0 ?hr0 ?hQ0 ?hy0 ?hS0 ?rest0
          case' hi0 => rfl
          case' hs0 => kernel_rfl
          case' hf0 => kernel_rfl
          case' hr0 => kernel_rfl
          case' hQ0 => exact (fun _ _ _ h => h)
          case' hS0 => assumption
          case' hy0 => (refine Or.inl ⟨by rfl, ?_⟩; intro w hSw; (try dsimp only at hSw); (first | (go_simp; done) | (go_simp; with_reducible rfl)))
          try simp only [Act.put, List.setIfInBounds_toArray, List.set_cons_zero, List.set_cons_succ]
          refine wpAnyH_take (i := 1) (oi := ?oi1) (v := ?v1) ?hi1 ?hs1 ?hf1 ?hr1 ?hQ1 ?hy1 ?hS1 ?rest1
          case' hi1 => rfl
          case' hs1 => kernel_rfl
          case' hf1 => kernel_rfl
          case' hr1 => kernel_rfl
          case' hQ1 => exact (fun _ _ _ h => h)
          case' hS1 => assumption
          case' hy1 => (refine Or.inl ⟨by rfl, ?_⟩; intro w hSw; (try dsimp only at hSw); (first | (go_simp; done) | (go_simp; with_reducible rfl)))
          try simp only [Act.put, List.setIfInBounds_toArray, List.set_cons_zero, List.set_cons_succ]
          refine wpAnyH_take (i := 2) (oi := ?oi2) (v := ?v2) ?hi2 ?hs2 ?hf2 ?hr2 ?hQ2 ?hy2 ?hS2 ?rest2
          case' hi2 => rfl
          case' hs2 => kernel_rfl
          case' hf2 => kernel_rfl
          case' hr2 => kernel_rfl
          case' hQ2 => exact (fun _ _ _ h => h)
          case' hS2 => assumption
          case' hy2 => (refine Or.inl ⟨by rfl, ?_⟩; intro w hSw; (try dsimp only at hSw); (first | (go_simp; done) | (go_simp; with_reducible rfl)))
          try simp only [Act.put, List.setIfInBounds_toArray, List.set_cons_zero, List.set_cons_succ]
          refine wpAnyH_take (i := 3) (oi := ?oi3) (v := ?v3) ?hi3 ?hs3 ?hf3 ?hr3 ?hQ3 ?hy3 ?hS3 ?rest3
          case' hi3 => rfl
          case' hs3 => kernel_rfl
          case' hf3 => kernel_rfl
          case' hr3 => kernel_rfl
          case' hQ3 => exact (fun _ _ _ h => h)
          case' hS3 => assumption
          case' hy3 => (refine Or.inl ⟨by rfl, ?_⟩; intro w hSw; (try dsimp only at hSw); (first | (go_simp; done) | (go_simp; with_reducible rfl)))
          try simp only [Act.put, List.setIfInBounds_toArray, List.set_cons_zero, List.set_cons_succ]
          refine wpAnyH_take (i := 4) (oi := ?oi4) (v := ?v4) ?hi4 ?hs4 ?hf4 ?hr4 ?hQ4 ?hy4 ?hS4 ?rest4
          case' hi4 => rfl
          case' hs4 => kernel_rfl
          case' hf4 => kernel_rfl
          case' hr4 => kernel_rfl
          case' hQ4 => exact (fun _ _ _ h => h)
          case' hS4 => assumption
          case' hy4 => (refine Or.inl ⟨by rfl, ?_⟩; intro w hSw; (try dsimp only at hSw); (first | (go_simp; done) | (go_simp; with_reducible rfl)))
          try simp only [Act.put, List.setIfInBounds_toArray, List.set_cons_zero, List.set_cons_succ]
          refine wpAnyH_take (i := 5) (oi := ?oi5) (v := ?v5) ?hi5 ?hs5 ?hf5 ?hr5 ?hQ5 ?hy5 ?hS5 ?rest5
          case' hi5 => rfl
          case' hs5 => kernel_rfl
          case' hf5 => kernel_rfl
          case' hr5 => kernel_rfl
          case' hQ5 => exact (fun _ _ _ h => h)
          case' hS5 => assumption
          case' hy5 => (refine Or.inl ⟨by rfl, ?_⟩; intro w hSw; (try dsimp only at hSw); (first | (go_simp; done) | (go_simp; with_reducible rfl)))
          try simp only [Act.put, List.setIfInBounds_toArray, List.set_cons_zero, List.set_cons_succ]
          refine wpAnyH_take (i := 6) (oi := ?oi6) (v := ?v6) ?hi6 ?hs6 ?hf6 ?hr6 ?hQ6 ?hy6 ?hS6 ?rest6
          case' hi6 => rfl
          case' hs6 => kernel_rfl
          case' hf6 => kernel_rfl
          case' hr6 => kernel_rfl
          case' hQ6 => exact (fun _ _ _ h => h)
          case' hS6 => assumption
          case' hy6 => (refine Or.inl ⟨by rfl, ?_⟩; intro w hSw; (try dsimp only at hSw); (first | (go_simp; done) | (go_simp; with_reducible rfl)))
          try simp only [Act.put, List.setIfInBounds_toArray, List.set_cons_zero, List.set_cons_succ]
          refine wpAnyH_take (i := 7) (oi := ?oi7) (v := ?v7) ?hi7 ?hs7 ?hf7 ?hr7 ?hQ7 ?hy7 ?hS7 ?rest7
          case' hi7 => rfl
          case' hs7 => kernel_rfl
          case' hf7 => kernel_rfl
          case' hr7 => kernel_rfl
          case' hQ7 => exact (fun _ _ _ h => h)
          case' hS7 => assumption
          case' hy7 => (refine Or.inl ⟨by rfl, ?_⟩; intro w hSw; (try dsimp only at hSw); (first | (go_simp; done) | (go_simp; with_reducible rfl)))
          try simp only [Act.put, List.setIfInBounds_toArray, List.set_cons_zero, List.set_cons_succ]
          refine wpAnyH_take (i := 8) (oi := ?oi8) (v := ?v8) ?hi8 ?hs8 ?hf8 ?hr8 ?hQ8 ?hy8 ?hS8 ?rest8
          case' hi8 => rfl
          case' hs8 => kernel_rfl
          case' hf8 => kernel_rfl
          case' hr8 => kernel_rfl
          case' hQ8 => exact (fun _ _ _ h => h)
          case' hS8 => assumption
          case' hy8 => (refine Or.inl ⟨by rfl, ?_⟩; intro w hSw; (try dsimp only at hSw); (first | (go_simp; done) | (go_simp; with_reducible rfl)))
          try simp only [Act.put, List.setIfInBounds_toArray, List.set_cons_zero, List.set_cons_succ]
          refine wpAnyH_take (i := 9) (oi := ?oi9) (v := ?v9) ?hi9 ?hs9 ?hf9 ?hr9 ?hQ9 ?hy9 ?hS9 ?rest9
          case' hi9 => rfl
          case' hs9 => kernel_rfl
          case' hf9 => kernel_rfl
          case' hr9 => kernel_rfl
          case' hQ9 => exact (fun _ _ _ h => h)
          case' hS9 => assumption
          case' hy9 => (refine Or.inl ⟨by rfl, ?_⟩; intro w hSw; (try dsimp only at hSw); (first | (go_simp; done) | (go_simp; with_reducible rfl)))
          try simp only [Act.put, List.setIfInBounds_toArray, List.set_cons_zero, List.set_cons_succ]
          refine wpAnyH_take (i := 10) (oi := ?oi10) (v := ?v10) ?hi10 ?hs10 ?hf10 ?hr10 ?hQ10 ?hy10 ?hS10 ?rest10
          case' hi10 => rfl
          case' hs10 => kernel_rfl
          case' hf10 => kernel_rfl
          case' hr10 => kernel_rfl
          case' hQ10 => exact (fun _ _ _ h => h)
          case' hS10 => assumption
          case' hy10 => (refine Or.inl ⟨by rfl, ?_⟩; intro w hSw; (try dsimp only at hSw); (first | (go_simp; done) | (go_simp; with_reducible rfl)))
          try simp only [Act.put, List.setIfInBounds_toArray, List.set_cons_zero, List.set_cons_succ]
          refine wpAnyH_take (i := 12) (oi := ?oi12) (v := ?v12) ?hi12 ?hs12 ?hf12 ?hr12 ?hQ12 ?hy12 ?hS12 ?rest12
          case' hi12 => rfl
          case' hs12 => kernel_rfl
          case' hf12 => kernel_rfl
          case' hr12 => kernel_rfl
          case' hQ12 => exact (fun _ _ _ h => h)
          case' hS12 => assumption
          case' hy12 => (refine Or.inl ⟨by rfl, ?_⟩; intro w hSw; (try dsimp only at hSw); (first | (go_simp; done) | (go_simp; with_reducible rfl)))
          try simp only [Act.put, List.setIfInBounds_toArray, List.set_cons_zero, List.set_cons_succ]
          refine wpAnyH_take (i := 13) (oi := ?oi13) (v := ?v13) ?hi13 ?hs13 ?hf13 ?hr13 ?hQ13 ?hy13 ?hS13 ?rest13
          case' hi13 => rfl
          case' hs13 => kernel_rfl
          case' hf13 => kernel_rfl
          case' hr13 => kernel_rfl
          case' hQ13 => exact (fun _ _ _ h => h)
          case' hS13 => assumption
          case' hy13 => (refine Or.inl ⟨by rfl, ?_⟩; intro w hSw; (try dsimp only at hSw); (first | (go_simp; done) | (go_simp; with_reducible rfl)))
          try simp only [Act.put, List.setIfInBounds_toArray, List.set_cons_zero, List.set_cons_succ]
          refine wpAnyH_take (i := 14) (oi := ?oi14) (v := ?v14) ?hi14 ?hs14 ?hf14 ?hr14 ?hQ14 ?hy14 ?hS14 ?rest14
          case' hi14 => rfl
          case' hs14 => kernel_rfl
          case' hf14 => kernel_rfl
          case' hr14 => kernel_rfl
          case' hQ14 => exact (fun _ _ _ h => h)
          case' hS14 => assumption
          case' hy14 => (refine Or.inl ⟨by rfl, ?_⟩; intro w hSw; (try dsimp only at hSw); (first | (go_simp; done) | (go_simp; with_reducible rfl)))
          try simp only [Act.put, List.setIfInBounds_toArray, List.set_cons_zero, List.set_cons_succ]
          refine wpAnyH_take (i := 15) (oi := ?oi15) (v := ?v15) ?hi15 ?hs15 ?hf15 ?hr15 ?hQ15 ?hy15 ?hS15 ?rest15
          case' hi15 => rfl
          case' hs15 => kernel_rfl
          case' hf15 => kernel_rfl
          case' hr15 => kernel_rfl
          case' hQ15 => exact (fun _ _ _ h => h)
          case' hS15 => assumption
          case' hy15 => (refine Or.inl ⟨by rfl, ?_⟩; intro w hSw; (try dsimp only at hSw); (first | (go_simp; done) | (go_simp; with_reducible rfl)))
          try simp only [Act.put, List.setIfInBounds_toArray, List.set_cons_zero, List.set_cons_succ]
          refine wpAnyH_take (i := 16) (oi := ?oi16) (v := ?v16) ?hi16 ?hs16 ?hf16 ?hr16 ?hQ16 ?hy16 ?hS16 ?rest16
          case' hi16 => rfl
          case' hs16 => kernel_rfl
          case' hf16 => kernel_rfl
          case' hr16 => kernel_rfl
          case' hQ16 => exact (fun _ _ _ h => h)
          case' hS16 => assumption
          case' hy16 => (refine Or.inl ⟨by rfl, ?_⟩; intro w hSw; (try dsimp only at hSw); (first | (go_simp; done) | (go_simp; with_reducible rfl)))
          try simp only [Act.put, List.setIfInBounds_toArray, List.set_cons_zero, List.set_cons_succ]
          refine wpAnyH_take (i := 17) (oi := ?oi17) (v := ?v17) ?hi17 ?hs17 ?hf17 ?hr17 ?hQ17 ?hy17 ?hS17 ?rest17
          case' hi17 => rfl
          case' hs17 => kernel_rfl
          case' hf17 => kernel_rfl
          case' hr17 => kernel_rfl
          case' hQ17 => exact (fun _ _ _ h => h)
          case' hS17 => assumption
          case' hy17 => (refine Or.inl ⟨by rfl, ?_⟩; intro w hSw; (try dsimp only at hSw); (first | (go_simp; done) | (go_simp; with_reducible rfl)))
          try simp only [Act.put, List.setIfInBounds_toArray, List.set_cons_zero, List.set_cons_succ]
          refine wpAnyH_take (i := 18) (oi := ?oi18) (v := ?v18) ?hi18 ?hs18 ?hf18 ?hr18 ?hQ18 ?hy18 ?hS18 ?rest18
          case' hi18 => rfl
          case' hs18 => kernel_rfl
          case' hf18 => kernel_rfl
          case' hr18 => kernel_rfl
          case' hQ18 => exact (fun _ _ _ h => h)
          case' hS18 => assumption
          case' hy18 => (refine Or.inl ⟨by rfl, ?_⟩; intro w hSw; (try dsimp only at hSw); (first | (go_simp; done) | (go_simp; with_reducible rfl)))
          try simp only [Act.put, List.setIfInBounds_toArray, List.set_cons_zero, List.set_cons_succ]
          refine wpAnyH_take (i := 19) (oi := ?oi19) (v := ?v19) ?hi19 ?hs19 ?hf19 ?hr19 ?hQ19 ?hy19 ?hS19 ?rest19
          case' hi19 => rfl
          case' hs19 => kernel_rfl
          case' hf19 => kernel_rfl
          case' hr19 => kernel_rfl
          case' hQ19 => exact (fun _ _ _ h => h)
          case' hS19 => assumption
          case' hy19 => (refine Or.inl ⟨by rfl, ?_⟩; intro w hSw; (try dsimp only at hSw); (first | (go_simp; done) | (go_simp; with_reducible rfl)))
          try simp only [Act.put, List.setIfInBounds_toArray, List.set_cons_zero, List.set_cons_succ]
          refine wpAnyH_ready (rs := [11]) (by kernel_rfl) (by simp) ?_
          refine AllReadyH.cons (o := ?o11) ?ho11 (fun K hK => ?hk11) AllReadyH.nil
          case' ho11 => rfl
          go_simp
          refine hK.out _ _ ?hS11 (fun hHeld => ?_)
          case' hS11 => exact S0.out
          clear hK K
          try simp only [Act.put, List.setIfInBounds_toArray, List.set_cons_zero, List.set_cons_succ]
          refine wpAnyH_ready (rs := [20]) (by kernel_rfl) (by simp) ?_
          refine AllReadyH.cons (o := ?o20) ?ho20 (fun K hK => ?hk20) AllReadyH.nil
          case' ho20 => rfl
          go_simp
          refine HCALL.out.mono ?_
          rintro _ w9 ⟨_, rfl, ⟨b9, o9, hs9, hloc⟩, k9⟩
          obtain ⟨n9, c9, rfl, s9, sF, ⟨u2, f2⟩, f3, hrest⟩ := HTURN.out w9 _ b9 o9 hs9 hloc ((Kept.refl wc []).drew.trans k9 (by simp))
          replace hs9 := Lib.hid hs9
          replace hloc := Lib.hid hloc
          replace k9 := Lib.hid k9
          dsimp only
          refine hK.out _ _ ?hS20 (fun hHeld => ?_)
          case' hS20 => exact s9.out
          clear hK K
          try simp only [Act.put, List.setIfInBounds_toArray, List.set_cons_zero, List.set_cons_succ]
          refine wpAnyH_take (i := 21) (oi := ?oi21) (v := ?v21) ?hi21 ?hs21 ?hf21 ?hr21 ?hQ21 ?hy21 ?hS21 ?rest21
          case' hi21 => rfl
          case' hs21 => kernel_rfl
          case' hf21 => kernel_rfl
          case' hr21 => kernel_rfl
          case' hQ21 => exact (fun _ _ _ h => h)
          case' hS21 => assumption
          case' hy21 => (refine Or.inl ⟨by rfl, ?_⟩; intro w hSw; (try dsimp only at hSw); (first | (go_simp; done) | (go_simp; with_reducible rfl)))
          try simp only [Act.put, List.setIfInBounds_toArray, List.set_cons_zero, List.set_cons_succ]
          refine wpAnyH_ready (rs := [22]) (by kernel_rfl) (by simp) ?_
          refine AllReadyH.cons (o := ?o22) ?ho22 (fun K hK => ?hk22) AllReadyH.nil
          case' ho22 => rfl
          go_simp
          refine hK.out _ _ ?hS22 (fun hHeld => ?_)
          case' hS22 => exact sF.out
          clear hK K
          try simp only [Act.put, List.setIfInBounds_toArray, List.set_cons_zero, List.set_cons_succ]
          refine wpAnyH_done (by kernel_rfl) ?_ _
          refine NoPanic.normal ?_
          all_goals (
            obtain ⟨-, g5, g6, -, -⟩ := sF.out
            have hres := hrest.out
            clear s9 sF hrest f2 f3 c1 c1d c2' dc' dl fl b0 b1
            generalize w9.setCell ⟨gl, k, none⟩ (.slice (some ⟨b9, 0, none⟩) n9 c9) = w10 at *
            obtain ⟨g7, hfin, hkf⟩ := hres
            replace hfin := Lib.hid hfin
            replace hkf := Lib.hid hkf
            go_wp2_with fail
            go_roundg (gk - 1)
            case measure => have := HK.out; omega
            case rel => exact ⟨k + 1, by have := HK.out; omega, by go_num, by rw [HIX.out] <;> go_num, hfin.out, HTR.out.kept hkf.out (fun g hg => hg), HKE.out.trans hkf.out (fun g hg => .inl hg)⟩)
    · have hkn : k = N := by have := HK.out; omega
      clear hlt hx hix1
      subst hkn
      go_wp2_with fail
      refine bodyPost_ret (v := .tuple #[]) (by simp [results, Tryz.results21, go_sem]) rfl ?_
      refine ⟨_, rfl, ⟨rfl, ?_⟩, HKE.out⟩
      have hsw : s.crash ts = s.part (fun k => ts[k]?.getD oldT) k := by rw [HNN.out]; rfl
      rw [hsw]
      exact HD.out
end Go.Proofs.YtlojgelidcjeaaaGreatDoor
