/- PROVED: the contract of disk.Crash; the contracts of disk.Open and disk.New; the contract of disk.New. No conditions beyond those that each theorem states. -/
import Derived.Test.YtcikhnkehglkgaaGreatDoorDkE
import Derived.Deep.CutRange
namespace Go.Proofs.YtcikhnkehglkgaaGreatDoor
open Go.RowKit Go.Proofs.YtcikhnkehglkgaaGreatDoorLib Go.WideElems Go.Maps
set_option linter.unusedSimpArgs false
set_option linter.unusedVariables false

/-- bytes that lie outside F -/
def BtsAt (w : World) (F : List Nat) (v : Value) (l : List Int) : Prop := ∃ bb bo, Sl .u8 w v bb bo l ∧ Bts l ∧ (l = [] ∨ bb ∉ F)
/-- a slice of tears, outside F -/
def TearsAt (w : World) (F : List Nat) (v : Value) (ts : List (Int × List Int)) : Prop := ∃ A c, v = .slice A ts.length c ∧ ts.length ≤ c ∧ c ≤ maxLen ∧
  ∀ (i : Nat) t, ts[i]? = some t → ∃ b off bv, A = some ⟨b, off, none⟩ ∧ b ∉ F ∧ w.cell? ⟨b, off + i * 2, none⟩ = some (.int .i64 t.1) ∧ w.cell? ⟨b, off + (i * 2 + 1), none⟩ = some bv ∧ BtsAt w F bv t.2
theorem BtsAt.kept {w w1 : World} {F S : List Nat} {v : Value} {l : List Int} (h : BtsAt w F v l) (hk : Kept w w1 S) (hS : ∀ g, g ∈ S → g ∈ F) : BtsAt w1 F v l := by
  obtain ⟨bb, bo, h1, h2, h3⟩ := h
  exact ⟨bb, bo, h1.kept hk (h3.imp id (fun hn hm => hn (hS _ hm))), h2, h3⟩
theorem TearsAt.kept {w w1 : World} {F S : List Nat} {v : Value} {ts : List (Int × List Int)} (h : TearsAt w F v ts) (hk : Kept w w1 S) (hS : ∀ g, g ∈ S → g ∈ F) : TearsAt w1 F v ts := by
  obtain ⟨A, c, h1, h2, h3, h4⟩ := h
  refine ⟨A, c, h1, h2, h3, fun i t hi => ?_⟩
  obtain ⟨b, off, bv, e, hb, c0, c1, hv⟩ := h4 i t hi
  exact ⟨b, off, bv, e, hb, hk.cell c0 (fun hm => hb (hS _ hm)), hk.cell c1 (fun hm => hb (hS _ hm)), hv.kept hk hS⟩
theorem BtsAt.drew {w : World} {F : List Nat} {v : Value} {l : List Int} (h : BtsAt w F v l) : BtsAt w.drew F v l := h.kept (Kept.refl w []).drew (by simp)
theorem splice_splice {α : Type} (L A B : List α) (off : Nat) (h : off + A.length ≤ L.length) (hB : B.length ≤ A.length) : splice (splice L off A) off B = splice L off (B ++ A.drop B.length) := by
  unfold splice
  have e1 : (L.take off ++ (A ++ L.drop (off + A.length))).take off = L.take off := by
    rw [List.take_append_of_le_length (by simp; omega), List.take_of_length_le (by simp; omega)]
  have e2 : (L.take off ++ (A ++ L.drop (off + A.length))).drop (off + B.length) = A.drop B.length ++ L.drop (off + A.length) := by
    rw [List.drop_append, List.drop_of_length_le (by simp; omega), List.nil_append]
    have : off + B.length - (L.take off).length = B.length := by simp; omega
    rw [this, List.drop_append_of_le_length hB]
  rw [e1, e2]
  have : (B ++ A.drop B.length).length = A.length := by simp; omega
  rw [this, List.append_assoc]
theorem left_junk (old next : List Int) (t : Int × List Int) (h : t.1 = 2) (n : Nat) (hn : old.length = n) : t.2.take n ++ (List.replicate n 0).drop (t.2.take n).length = left old next t := by
  unfold left
  rw [if_neg (by omega), if_pos h, hn, List.take_append]
  congr 1
  rw [List.drop_replicate, List.take_replicate, List.length_take]
  congr 1
  omega
/-- behind the sector's bytes: it is struck off the cached ones -/
theorem DiskX.took {w w4 : World} {b : Nat} {F : List Nat} {s : DiskS} {vl : Value} {bc bp nc : Nat} {Dc : DataW Value} {np : Nat} {Dp : DataW Value} (h : DiskX w b F s vl bc bp nc Dc np Dp) {i : Nat} (hi : i < s.last.length) {x : List Int} (hx : Sec s.size x) {g : Nat} (hg : vl.ownBlock = some g)
    (hk : Kept w w4 [g]) (hv : Row8 w4 vl (splice s.bytes (i * s.size) x)) : ∃ w5, (Builtin.delete_ #[99, 3] 0 #[.map (some bc), .int .i64 i]).run Tryz.prog w4 = .ok (.tuple #[]) w5 ∧ w4.cell? ⟨b, 2, none⟩ = some (.map (some bc)) ∧ Kept w w5 F ∧
      DiskX w5 b F { s with last := s.last.set i x, cach := s.cach.set i none } vl bc bp nc (Dc.del (.int .i64 i)) np Dp := by
  have hnb := Own.ne_map h.las h.cac
  have hbn : b ≠ g := fun e => Own.ne_cells h.las h.blk (by decide) (e ▸ hg)
  have hm4 := map_kept h.cac hk (by simp; intro e; exact hnb (e ▸ hg))
  obtain ⟨w5, hdel, hm5, ht5⟩ := hm4.drop keyedI Tryz.underlying99 (keyi (x := i) (by omega) (by have := h.ok.n1; omega)) 0
  have k5 := kept_turned (hk.mono (S2 := [g, bc]) (by simp)) ht5 (.inl (by simp))
  refine ⟨w5, hdel, hk.cell (h.blk.cell 2 rfl) (by simpa using hbn), k5.mono (fun j hj => ?_), h.taken hi hx hg k5 (hv.kept (kept_turned (Kept.refl w4 [bc]) ht5 (.inl (by simp))) (by intro j hj hm; simp at hm; subst hm; exact hnb hj)) hm5⟩
  simp at hj
  rcases hj with rfl | rfl
  · exact .inl (h.fl _ hg)
  · exact .inl h.fc
theorem DiskX.bl {w : World} {b : Nat} {F : List Nat} {s : DiskS} {vl : Value} {bc bp nc : Nat} {Dc : DataW Value} {np : Nat} {Dp : DataW Value} (h : DiskX w b F s vl bc bp nc Dc np Dp) {i : Nat} (hi : i < s.last.length) : ∃ bl, vl.ownBlock = some bl := by
  obtain ⟨bl, q1, q2⟩ := h.las.sl
  rcases q2 with q2 | q2
  · have e := h.ok.bytes_len
    rw [q2] at e
    have := Nat.mul_pos (show 0 < s.last.length by omega) h.ok.s1
    simp at e
    omega
  · exact ⟨bl, q2.1⟩
theorem DiskX.fits {w : World} {b : Nat} {F : List Nat} {s : DiskS} {vl : Value} {bc bp nc : Nat} {Dc : DataW Value} {np : Nat} {Dp : DataW Value} (h : DiskX w b F s vl bc bp nc Dc np Dp) {i : Nat} (hi : i < s.last.length) : i * s.size + s.size ≤ s.bytes.length := by
  have e := h.ok.bytes_len
  have := Nat.mul_le_mul_right s.size (Nat.succ_le_of_lt hi)
  rw [Nat.succ_mul] at this
  omega
theorem splice_same {size : Nat} {l : List (List Int)} (h : ∀ x, x ∈ l → Sec size x) (i : Nat) (x : List Int) (hx : l[i]? = some x) : splice l.flatten (i * size) x = l.flatten := by
  have hi : i < l.length := (List.getElem?_eq_some_iff.1 hx).1
  have e : l[i] = x := (List.getElem?_eq_some_iff.1 hx).2
  rw [flatten_set h i hi x (h x (List.mem_of_getElem? hx)).1, ← e, List.set_getElem_self]
set_option maxHeartbeats 1000000 in
theorem at_core (w : World) (b bl size L c i : Nat) (c0 : w.cell? ⟨b, 0, none⟩ = some (.int .i64 size)) (c1 : w.cell? ⟨b, 1, none⟩ = some (.slice (some ⟨bl, 0, none⟩) L c)) (s1 : 1 ≤ size) (s2 : size ≤ 4096) (bd : L ≤ 16777216) (hm : i * size + size ≤ L) (i1n : i ≤ 4096) (h1 : L ≤ c) (h2 : c ≤ maxLen) :
    size ≤ c - i * size ∧ c - i * size ≤ maxLen ∧ Calls Tryz.prog 63 #[.pointer (some ⟨b, 0, none⟩), .int .i64 i] w (fun e W => e = .returned (.slice (some ⟨bl, i * size, none⟩) size (c - i * size)) ∧ w.drew = W) := by
  have e1 : ((i : Int) * (size : Int)) = ((i * size : Nat) : Int) := by simp
  have e2 : (((i : Int) + 1) * (size : Int)) = ((i * size : Nat) : Int) + (size : Int) := by rw [Int.add_mul]; simp
  generalize i * size = m at *
  have H2 := Lib.hid h2
  clear h2
  have i0 : (0 : Int) ≤ i := by omega
  have i1 : (i : Int) ≤ 4096 := by omega
  have m0 : (0 : Int) ≤ m := by omega
  have m1 : (m : Int) ≤ 16777216 := by omega
  have t1 : (1 : Int) ≤ size := by omega
  have t2 : (size : Int) ≤ 4096 := by omega
  have hmc : m + size ≤ c := by omega
  have hmi : (m : Int) + (size : Int) ≤ c := by omega
  have hlt : m < c := by omega
  refine ⟨by omega, by have := H2.out; omega, ?_⟩
  go_enter Tryz.func63, Tryz.ntmps63
  go_wp2_with fail
  go_region
  all_goals (
    go_wp2_with fail
    go_ret
    exact ⟨congrArg (fun n => Ending.returned (Value.slice (some ⟨bl, m, none⟩) n (c - m))) (Nat.add_sub_cancel_left m size), rfl⟩)
theorem zeroB (w : World) : (zeroValue 5).run Tryz.prog w = .ok (.int .u8 0) w := by kernel_rfl
set_option maxRecDepth 100000 in
set_option maxHeartbeats 8000000 in
theorem crash_any (w : World) (b : Nat) (F : List Nat) (s : DiskS) (h : DiskAt w b F s) (tv : Value) (ts : List (Int × List Int)) (ht : TearsAt w F tv ts) :
    Calls Tryz.prog 30 #[.pointer (some ⟨b, 0, none⟩), tv] w (Post w F fun r W => r = .tuple #[] ∧ DiskAt W b F (s.crash ts)) := by
  have hok := h.ok
  have hfb := h.fb
  have HF := Lib.hid hfb
  have HO := Lib.hid hok
  have HLT := Lib.hid h.lt
  have HT := Lib.hid ht
  obtain ⟨At, ct, rfl, t1, t2, t3⟩ := ht
  clear hok hfb t3
  go_enter Tryz.func30, Tryz.ntmps30
  go_wp2_with fail
  refine (unsynced_any w b F s h).mono ?_
  rintro _ w2 ⟨v, rfl, hv, k2⟩
  have h2 := h.kept k2 (by simp)
  have K2 := Lib.hid (k2.mono (S2 := F) (by simp))
  have hlen := hv.len
  obtain ⟨bv, ⟨A, c, rfl, g1, g2, g3, g4⟩, g5⟩ := hv.sl
  have hN := unsynced_length s
  generalize hn : s.unsynced.length = n at *
  have HV := Lib.hid hv
  have hni : n ≤ 1000000 := by
    have h3 := HO.out.n1
    have h4 := HO.out.nc
    have h5 : idx s.cach s.cach.length ≤ s.cach.length := by
      unfold idx
      exact Nat.le_trans (List.countP_le_length) (by simp)
    omega
  have HT2 := Lib.hid (HT.out.kept k2 (by simp))
  have HN := Lib.hid hN
  have HNN := Lib.hid hn
  have H2 := Lib.hid h2
  have G3 := Lib.hid g3
  have htl : ts.length ≤ maxLen := by omega
  unfold maxLen at htl
  clear g4 g3 g5 h2 hN hn k2 hv g1 g2 h
  go_wp2_with fail
  go_loopg [10] n (fun g i wr => ∃ k B : Nat, k + g = n ∧ i = .int .i64 k ∧ idx s.cach B = k ∧ B ≤ s.cach.length ∧ DiskAt wr b F (s.part (fun k => ts[k]?.getD oldT) B) ∧ Own 3 .i64 wr w.heap.size (.slice A n c) s.unsynced ∧ TearsAt wr F (.slice At ts.length ct) ts ∧ Kept w wr F)
  case atStart => exact ⟨0, 0, by omega, rfl, by simp [idx], Nat.zero_le _, by rw [part_zero]; exact H2.out, HV.out, HT2.out, K2.out⟩
  case round =>
    obtain ⟨k, B, hk, rfl, hB, hBl, hd, hrow, htr, hkept⟩ := hrel
    have HK := Lib.hid hk
    have HB := Lib.hid hB
    have HD := Lib.hid hd
    have HR := Lib.hid hrow
    have HKE := Lib.hid hkept
    have HTR := Lib.hid htr
    clear hk hB hd hrow hkept htr
    by_cases hlt : k < n
    · have hxk := List.getElem?_eq_getElem (l := s.unsynced) (i := k) (by have := HNN.out; omega)
      obtain ⟨i, l, cc, hxi, hi, hl, hc, hl', hc', hidx, hstep⟩ := part_at s HO.out (fun k => ts[k]?.getD oldT) HB.out hxk
      rw [hxi] at hxk
      have hne : s.unsynced ≠ [] := by intro e; rw [e] at hxk; simp at hxk
      obtain rfl := G3.out hne
      have hcell : wr.cell? ⟨bv, 0 + k, none⟩ = some (.int .i64 i) := by
        obtain ⟨b2, q1, q2⟩ := HR.out.sl
        rcases q2 with q2 | q2
        · exact absurd q2 hne
        · obtain rfl : bv = b2 := by simpa [Value.ownBlock] using q2.1
          exact q1.cell hxk
      rw [Nat.zero_add] at hcell
      have HHL := Lib.hid hl
      have HHC := Lib.hid hc
      have HHL' := Lib.hid hl'
      have HHC' := Lib.hid hc'
      have HSTEP := Lib.hid hstep
      have HIDX := Lib.hid hidx
      have i0 : (0 : Int) ≤ i := by omega
      have i1 : (i : Int) < 4096 := by have := HO.out.n1; omega
      have k0 : (0 : Int) ≤ k := by omega
      have kn : (k : Int) < n := by omega
      have hti : (ts.length : Int) ≤ 9223372036854775807 := by omega
      clear hl hc hl' hc' hstep hidx hxi hxk hne
      obtain ⟨t, ht⟩ : ∃ t, t = ts[k]?.getD oldT := ⟨_, rfl⟩
      have HTT := Lib.hid ht
      clear ht
      go_upto_if 19 with fail
      go_cut [5, 6] from 11 to 54 (fun vi v wx => vi = .int .i64 i ∧ ∃ bt bw, v = .pointer (some ⟨bt, 0, none⟩) ∧ wr.heap.size ≤ bt ∧ Blk wx bt 104 [.int .i64 t.1, bw] ∧ BtsAt wx F bw t.2 ∧ Kept wr wx [])
      case first =>
        by_cases hkt : k < ts.length
        · have htk : ts[k]? = some t := by rw [HTT.out, List.getElem?_eq_getElem hkt]; rfl
          obtain ⟨Ab, Ac, Ae, _, _, Ah⟩ := HTR.out
          obtain ⟨tb, off, bw, e, hbF, d0, d1, hbw⟩ := Ah k t htk
          obtain rfl : At = some ⟨tb, off, none⟩ := by rw [← e]; simp at Ae; exact Ae.1
          obtain ⟨Aw, cw, rfl⟩ := hbw.choose_spec.choose_spec.1.form
          have d0' := Lib.cell?_alloc_some (o := .cells #[.int .i64 0, .slice none 0 0] 104) d0
          have d1' := Lib.cell?_alloc_some (o := .cells #[.int .i64 0, .slice none 0 0] 104) d1
          rw [← Nat.add_assoc] at d1'
          have hki : (k : Int) < ts.length := by omega
          clear Ah e Ae htk
          go_wp2_with fail
          go_meet
          case rel =>
            have kq := (Kept.refl wr []).alloc (.cells #[.int .i64 t.1, .slice Aw t.2.length cw] 104)
            exact ⟨rfl, wr.heap.size, _, rfl, Nat.le_refl _, Blk.new _ _ _, hbw.kept kq (by simp), kq⟩
        · have htk : t = oldT := by rw [HTT.out, List.getElem?_eq_none (by omega)]; rfl
          go_wp2_with fail
          go_meet
          case rel =>
            refine ⟨rfl, wr.heap.size, .slice none 0 0, rfl, Nat.le_refl _, ?_, ?_, (Kept.refl _ _).alloc _⟩
            · rw [htk]; exact Blk.new _ _ _
            · rw [htk]; exact ⟨0, 0, Sl.nil _ _ _ _, Bts.nil, .inl rfl⟩
      case rest =>
        obtain ⟨rfl, bt, bw, rfl, hbt, hbk, hbw, kx⟩ := hcut
        have b0 := hbk.cell 0 rfl
        have b1 := hbk.cell 1 rfl
        have HBW := Lib.hid hbw
        have KX := Lib.hid kx
        have HXX := Lib.hid (HD.out.kept kx (by simp))
        clear hbk hbw kx
        have hsz := part_size s (fun k => ts[k]?.getD oldT) B
        have hi' : i < (s.part (fun k => ts[k]?.getD oldT) B).last.length := by rw [hsz.2]; exact hi
        obtain ⟨vl, bc, bp, nc, Dc, np, Dp, hx⟩ := HXX.out
        obtain ⟨bl, hbl⟩ := hx.bl hi'
        have hfit := hx.fits hi'
        have hls : Sec s.size l := HO.out.ls l (List.mem_of_getElem? HHL.out)
        have hcs : Sec s.size cc := HO.out.cs cc (mem_join HHC.out)
        have c2 := hx.blk.cell 2 rfl
        have HFIN : Hid (∀ w5 vl' bc' nc' Dc' , DiskX w5 b F { s.part (fun k => ts[k]?.getD oldT) B with last := (s.part (fun k => ts[k]?.getD oldT) B).last.set i (left l cc t), cach := (s.part (fun k => ts[k]?.getD oldT) B).cach.set i none } vl' bc' bp nc' Dc' np Dp → DiskAt w5 b F (s.part (fun k => ts[k]?.getD oldT) (i + 1))) := Lib.hid (by
          intro w5 vl' bc' nc' Dc' h5
          rw [HSTEP.out, ← HTT.out]
          exact ⟨vl', bc', bp, nc', Dc', np, Dp, h5⟩)
        by_cases hold : t.1 ≠ 1 ∧ t.1 ≠ 2
        · have hleft : left l cc t = l := by unfold left; rw [if_neg hold.1, if_neg hold.2]
          rw [hleft] at HFIN
          have he := splice_same hx.ok.ls i l HHL'.out
          obtain ⟨w5, hdel, e4, k5, h5⟩ := hx.took (w4 := wc) hi' hls hbl (Kept.refl _ _) (he.symm ▸ hx.las)
          have q1 : (t.1 == 1) = false := by simp [hold.1]
          have q2 : (t.1 == 2) = false := by simp [hold.2]
          have H5 := Lib.hid h5
          have K5 := Lib.hid k5
          clear h5 k5 he hleft hx c2
          go_wp2_with fail
          go_roundg (gk - 1)
          case measure => have := HK.out; omega
          case rel =>
            have hk5 : Kept wr w5 F := (KX.out.mono (by simp)).trans K5.out (fun g hg => .inl hg)
            refine ⟨k + 1, i + 1, by have := HK.out; omega, by go_num, HIDX.out, by have := HO.out.nc; omega, HFIN.out _ _ _ _ _ H5.out, HR.out.kept hk5 ?_, HTR.out.kept hk5 (fun g hg => hg), HKE.out.trans hk5 (fun g hg => .inl hg)⟩
            intro g hg hm
            have := (HR.out.lt g hg).1
            have := HLT.out g hm
            omega
        by_cases hnew : t.1 = 1
        · have hleft : left l cc t = cc := by unfold left; rw [if_pos hnew]
          rw [hleft] at HFIN
          obtain ⟨ca, ha1, ha2, hat⟩ := at_drew wc.drew b F _ vl bc bp nc Dc np Dp hx.drew i hi' bl hbl
          obtain ⟨cv, _, hlook, hcrow, hcown⟩ := look_some hx HHC'.out
          have hl1 : (Instr.lookup 99 (.map (some bc)) (.int .i64 i) false).run Tryz.prog wc.drew = .ok cv wc.drew := hlook 1
          have hl2 : (Instr.lookup 99 (.map (some bc)) (.int .i64 i) false).run Tryz.prog wc.drew.drew = .ok cv wc.drew.drew := hlook 2
          obtain ⟨bcv, hcsl, _⟩ := Own.sl (hcrow.drew.drew)
          have htk : cc.take s.size = cc := List.take_of_length_le (by rw [hcs.1]; exact Nat.le_refl _)
          obtain ⟨w4, hcp, hv4, k4⟩ := hx.drew.drew.las.copy (P := Tryz.prog) hbl 27 27 3 5 Tryz.underlying27 (by kernel_rfl) (i * s.size) s.size ca hcsl (by rw [htk, hcs.1]; exact hfit)
          rw [htk] at hcp hv4
          have e1 : wc.drew.cell? ⟨b, 2, none⟩ = some (.map (some bc)) := c2
          have e2 : wc.drew.drew.cell? ⟨b, 2, none⟩ = some (.map (some bc)) := c2
          obtain ⟨w5, hdel, e4, k5, h5⟩ := hx.took hi' hcs hbl ((Kept.refl wc _).drew.drew.trans k4 (fun g hg => .inl hg)) hv4
          have q1 : (t.1 == 1) = true := by simp [hnew]
          have H5 := Lib.hid h5
          have K5 := Lib.hid k5
          clear h5 k5 hleft hx c2 hv4 k4 htk hcsl hcrow hcown hlook hnew hold
          go_wp2_with fail
          go_region_held3 (fun W => W.cell? ⟨b, 2, none⟩ = some (.map (some bc))) (first | (with_reducible exact e1) | (with_reducible exact e2) | (with_reducible exact e4) | go_keep) (first | (
            go_at_call 63
            refine hat.mono ?_
            rintro _ _ ⟨rfl, rfl⟩))
          all_goals (
            clear e1 e2 hl1 hl2 hat hcp
            go_wp2_with fail
            go_roundg (gk - 1)
            case measure => have := HK.out; omega
            case rel =>
              have hk5 : Kept wr w5 F := (KX.out.mono (by simp)).trans K5.out (fun g hg => .inl hg)
              refine ⟨k + 1, i + 1, by have := HK.out; omega, by go_num, HIDX.out, by have := HO.out.nc; omega, HFIN.out _ _ _ _ _ H5.out, HR.out.kept hk5 ?_, HTR.out.kept hk5 (fun g hg => hg), HKE.out.trans hk5 (fun g hg => .inl hg)⟩
              intro g hg hm
              have := (HR.out.lt g hg).1
              have := HLT.out g hm
              omega)
        have hj : t.1 = 2 := by omega
        have hlc : Sec s.size (left l cc t) := left_sec hls hcs (HBW.out.choose_spec.choose_spec.2.1)
        obtain ⟨bl2, hsl, hsl2⟩ := hx.las.sl
        have hbne : (s.part (fun k => ts[k]?.getD oldT) B).bytes ≠ [] := by
          intro e; rw [e] at hfit; have := hx.ok.s1; rw [hsz.1] at this hfit; simp at hfit; omega
        obtain rfl : bl2 = bl := by
          rcases hsl2 with h2 | h2
          · exact absurd h2 hbne
          · rw [hbl] at h2; simp at h2; exact h2.symm
        obtain ⟨cl, rfl⟩ := hsl.at hbne
        obtain ⟨_, hcl⟩ : (s.part (fun k => ts[k]?.getD oldT) B).bytes.length ≤ cl ∧ cl ≤ maxLen := by
          obtain ⟨_, _, e, q1, q2, _⟩ := hsl
          simp at e
          rw [e.2]
          exact ⟨q1, q2⟩
        have hbd := bytes_bd hx.ok
        have hs1 := hx.ok.s1
        have hs2 := hx.ok.s2
        have c0 := hx.blk.cell 0 rfl
        have c1 := hx.blk.cell 1 rfl
        rw [hsz.1] at c0 hs1 hs2 hfit
        obtain ⟨ha1, ha2, hat⟩ := at_core wc b bl2 s.size _ cl i c0 c1 hs1 hs2 hbd hfit (by omega) (by assumption) hcl
        obtain ⟨w3, hclr, hv3, k3⟩ := hx.drew.las.clear (P := Tryz.prog) hbl 27 0 5 Tryz.underlying27 zeroB (i * s.size) s.size (cl - i * s.size) (by omega) hfit
        have hbn : b ∉ [bl2] := by simp; exact fun e => Own.ne_cells hx.las hx.blk (by decide) (e ▸ hbl)
        have c0' : w3.drew.cell? ⟨b, 0, none⟩ = _ := k3.cell (w := wc.drew) c0 hbn
        have c1' : w3.drew.cell? ⟨b, 1, none⟩ = _ := k3.cell (w := wc.drew) c1 hbn
        obtain ⟨_, _, hat2⟩ := at_core w3.drew b bl2 s.size _ cl i c0' c1' hs1 hs2 hbd hfit (by omega) (by assumption) hcl
        have hblF : bl2 ∈ F := hx.fl _ hbl
        have hbt2 : bt ∉ [bl2] := by simp; have := HD.out.lt bl2 hblF; omega
        have g1 : w3.cell? ⟨bt, 1, none⟩ = some bw := k3.cell (w := wc.drew) b1 hbt2
        have g2 : w3.drew.cell? ⟨bt, 1, none⟩ = some bw := g1
        have g3 : w3.drew.drew.cell? ⟨bt, 1, none⟩ = some bw := g1
        obtain ⟨bb, bo, hbs, hbb, hbf⟩ := HBW.out
        have hbs3 := ((hbs.drew.kept k3 (hbf.imp id (fun hn hm => by simp at hm; subst hm; exact hn hblF))).drew).drew
        have hL : (splice (s.part (fun k => ts[k]?.getD oldT) B).bytes (i * s.size) (List.replicate s.size 0)).length = (s.part (fun k => ts[k]?.getD oldT) B).bytes.length := length_splice _ _ _ (by simpa using hfit)
        obtain ⟨w4, hcp, hv4, k4⟩ := hv3.drew.drew.copy (P := Tryz.prog) hbl 27 27 3 5 Tryz.underlying27 (by kernel_rfl) (i * s.size) s.size (cl - i * s.size) hbs3 (by rw [hL, List.length_take]; omega)
        rw [splice_splice _ _ _ _ (by simpa using hfit) (by simp; omega), left_junk l cc t hj s.size hls.1] at hv4
        have g4 : w4.cell? ⟨bt, 1, none⟩ = some bw := k4.cell (w := w3.drew.drew) g3 hbt2
        obtain ⟨w5, hdel, e4, k5, h5⟩ := hx.took hi' hlc hbl (((Kept.refl wc _).drew.trans k3 (fun g hg => .inl hg)).drew.drew.trans k4 (fun g hg => .inl hg)) hv4
        have q1 : (t.1 == 1) = false := by simp [hj]
        have q2 : (t.1 == 2) = true := by simp [hj]
        have H5 := Lib.hid h5
        have K5 := Lib.hid k5
        have hat' := Lib.hid hat
        have hat2' := Lib.hid hat2
        obtain ⟨Ab, cb, rfl⟩ := hbs.form
        clear h5 k5 hx c2 hv4 k4 k3 hv3 hL hbs hbs3 hbb hbf hbt2 hbn c0' c1' c0 c1 hnew hold hj hlc hsl hsl2 hbne hat hat2
        go_wp2_with fail
        refine hat'.out.mono ?_
        rintro _ _ ⟨rfl, rfl⟩
        go_wp2_with fail
        go_region_held3 (fun W => W.cell? ⟨bt, 1, none⟩ = some (.slice Ab t.2.length cb)) (first | (with_reducible exact g2) | (with_reducible exact g3) | (with_reducible exact g4) | go_keep) (first | (
          go_at_call 63
          refine hat2'.out.mono ?_
          rintro _ _ ⟨rfl, rfl⟩))
        all_goals (
          clear hcp hclr g1 g2 g3 g4
          go_wp2_with fail
          go_roundg (gk - 1)
          case measure => have := HK.out; omega
          case rel =>
            have hk5 : Kept wr w5 F := (KX.out.mono (by simp)).trans K5.out (fun g hg => .inl hg)
            refine ⟨k + 1, i + 1, by have := HK.out; omega, by go_num, HIDX.out, by have := HO.out.nc; omega, HFIN.out _ _ _ _ _ H5.out, HR.out.kept hk5 ?_, HTR.out.kept hk5 (fun g hg => hg), HKE.out.trans hk5 (fun g hg => .inl hg)⟩
            intro g hg hm
            have := (HR.out.lt g hg).1
            have := HLT.out g hm
            omega)
    · have hkn : k = n := by have := HK.out; omega
      clear hlt
      subst hkn
      go_wp2_with fail
      refine bodyPost_ret (v := .tuple #[]) (by simp [results, Tryz.results30, go_sem]) rfl ?_
      refine ⟨_, rfl, ⟨rfl, ?_⟩, HKE.out⟩
      have hp := part_between s (fun k => ts[k]?.getD oldT) B s.cach.length hBl (Nat.le_refl _) (by rw [← HN.out]; exact HB.out.symm)
      show DiskAt wr b F (s.part (fun k => ts[k]?.getD oldT) s.last.length)
      rw [← HO.out.nc, hp]
      exact HD.out
end Go.Proofs.YtcikhnkehglkgaaGreatDoor
namespace Go.Proofs.YtcikhnkehglkgaaGreatDoor
open Go.RowKit Go.Proofs.YtcikhnkehglkgaaGreatDoorLib Go.WideElems Go.Maps
set_option linter.unusedSimpArgs false
set_option linter.unusedVariables false

/-- can there be such a disk? -/
def OpenOk (size : Int) (l : List Int) : Prop := 1 ≤ size ∧ size ≤ 4096 ∧ l.length % size.toNat = 0 ∧ l.length / size.toNat ≤ 4096
instance (size : Int) (l : List Int) : Decidable (OpenOk size l) := by unfold OpenOk; infer_instance
theorem open_ok {size : Int} {l : List Int} (h : OpenOk size l) (hB : Bts l) : (DiskS.open size.toNat l).Ok := by
  obtain ⟨h1, h2, h3, h4⟩ := h
  have e := Nat.div_mul_cancel (Nat.dvd_of_mod_eq_zero h3)
  refine ⟨by show 1 ≤ size.toNat; omega, by show size.toNat ≤ 4096; omega, by show (chop _ _ _).length ≤ _; rw [length_chop]; exact h4, by show (List.replicate _ _).length = (chop _ _ _).length; rw [length_chop, List.length_replicate], chop_sec _ _ _ (by omega) hB, ?_, Nat.zero_le _, Nat.zero_le _, Nat.zero_le _⟩
  intro x hx
  change some x ∈ List.replicate _ none at hx
  rw [List.mem_replicate] at hx
  cases hx.2
theorem open_bytes {size : Int} {l : List Int} (h : OpenOk size l) : (DiskS.open size.toNat l).bytes = l := by
  obtain ⟨h1, h2, h3, h4⟩ := h
  exact chop_flatten _ _ _ (Nat.div_mul_cancel (Nat.dvd_of_mod_eq_zero h3))
theorem wrap_quo (a n : Nat) (h : a ≤ 9223372036854775807) : wrap64 ((a : Int) / (n : Int)) = (a : Int) / (n : Int) := by
  have h1 := Nat.div_le_self a n
  rw [← Int.natCast_ediv]
  generalize a / n = q at *
  unfold wrap64
  omega
set_option maxRecDepth 100000 in
set_option maxHeartbeats 4000000 in
theorem open_no (w : World) (size : Int) (v : Value) (bq off : Nat) (l : List Int) (hs : Sl .u8 w v bq off l) (hz0 : -9223372036854775808 ≤ size) (hz1 : size ≤ 9223372036854775807) (h : ¬ OpenOk size l) :
    Calls Tryz.prog 29 #[.int .i64 size, v] w (Post w [] fun r W => r = .tuple #[.pointer none, .int .i64 1]) := by
  have hln := hs.len
  unfold maxLen at hln
  obtain ⟨A, c, rfl, h1, h2, h3, h4⟩ := hs
  clear h1 h2 h3 h4
  have l0 : (0 : Int) ≤ l.length := by omega
  have l1 : (l.length : Int) ≤ 9223372036854775807 := by omega
  unfold OpenOk at h
  go_enter Tryz.func29, Tryz.ntmps29
  by_cases q1 : size < 1
  · go_wp2
    go_ret2
    exact ⟨_, rfl, rfl, Kept.refl _ _⟩
  by_cases q2 : 4096 < size
  · have q1' : 1 ≤ size := by omega
    go_wp2
    go_ret2
    exact ⟨_, rfl, rfl, Kept.refl _ _⟩
  obtain ⟨n, rfl⟩ := Int.eq_ofNat_of_zero_le (show 0 ≤ size by omega)
  have n1 : (1 : Int) ≤ n := by omega
  have n2 : (n : Int) ≤ 4096 := by omega
  have t3 : ((n : Int) == 0) = false := by rw [beq_eq_false_iff_ne]; omega
  by_cases q3 : l.length % n ≠ 0
  · have q4 : (((l.length : Int) % (n : Int)) != 0) = true := by simp; omega
    clear h
    go_wp2
    go_ret2
    exact ⟨_, rfl, rfl, Kept.refl _ _⟩
  have q3' : l.length % n = 0 := by omega
  have q4 : (((l.length : Int) % (n : Int)) != 0) = false := by simp; omega
  have q5 : ¬ l.length / n ≤ 4096 := fun e => h ⟨n1, n2, by simpa using q3', by simpa using e⟩
  have q6 : decide (4096 < (l.length : Int) / (n : Int)) = true := by simp; omega
  have q7 := wrap_quo l.length n (by omega)
  clear h q3 q3'
  go_wp2
  go_ret2
  exact ⟨_, rfl, rfl, Kept.refl _ _⟩
theorem map_none (w : World) (R : Value → Option (DataW Value × List MemPlace)) : (w.alloc (.map #[] 0)).ownsMap Tryz.prog 3 R w.heap.size 0 (.map []) := World.ownsMap_made _ _ _ _
set_option maxRecDepth 100000 in
set_option maxHeartbeats 4000000 in
theorem open_yes (w : World) (size : Int) (v : Value) (bq off : Nat) (l : List Int) (hs : Sl .u8 w v bq off l) (hB : Bts l) (h : OpenOk size l) :
    Calls Tryz.prog 29 #[.int .i64 size, v] w (Post w [] fun r W => ∃ b F, r = .tuple #[.pointer (some ⟨b, 0, none⟩), .int .i64 0] ∧ DiskAt W b F (DiskS.open size.toNat l) ∧ ∀ g, g ∈ F → w.heap.size ≤ g) := by
  have hok := open_ok h hB
  have hby := open_bytes h
  have HSL := Lib.hid hs
  have HBT := Lib.hid hB
  have hln := hs.len
  unfold maxLen at hln
  obtain ⟨A, c, rfl, h1, h2, h3, h4⟩ := hs
  clear h1 h2 h3 h4
  obtain ⟨g1, g2, g3, g4⟩ := h
  obtain ⟨n, rfl⟩ := Int.eq_ofNat_of_zero_le (show 0 ≤ size by omega)
  simp only [Int.toNat_natCast] at *
  have l0 : (0 : Int) ≤ l.length := by omega
  have l1 : (l.length : Int) ≤ 9223372036854775807 := by omega
  have t3 : ((n : Int) == 0) = false := by rw [beq_eq_false_iff_ne]; omega
  have q4 : (((l.length : Int) % (n : Int)) != 0) = false := by simp; omega
  have q6 : decide (4096 < (l.length : Int) / (n : Int)) = false := by simp; omega
  have q7 := wrap_quo l.length n (by omega)
  have hll : l.length ≤ 16777216 := by have := bytes_bd hok; rw [hby] at this; exact this
  have HOK := Lib.hid hok
  have HBY := Lib.hid hby
  have hmm := @run_makeMap Tryz.prog
  clear hok hby g3 g4 hB
  go_enter Tryz.func29, Tryz.ntmps29
  go_wp2_with fail
  refine (clone_any _ _ bq off l HSL.out (by omega)).mono ?_
  rintro _ w1 ⟨vl, rfl, hv, k1⟩
  have HV := Lib.hid hv
  have K1 := Lib.hid k1
  obtain ⟨Av, cv, rfl⟩ := hv.sl.choose_spec.1.form
  clear hv k1
  go_wp2_with fail
  refine bodyPost_ret (v := .tuple #[.pointer (some ⟨w1.heap.size + 1 + 1, 0, none⟩), .int .i64 0]) (by simp [results, Tryz.results29, go_sem]) rfl ?_
  have hk := (((Kept.refl w1 []).alloc (.map #[] 0)).alloc (.map #[] 0)).alloc (.cells #[.int .i64 n, .slice Av l.length cv, .map (some w1.heap.size), .map (some (w1.heap.size + 1)), .int .i64 0, .int .i64 0] 102)
  have hvk := HV.out
  refine ⟨_, rfl, ⟨w1.heap.size + 1 + 1, (Value.slice Av l.length cv).ownBlock.toList ++ [w1.heap.size, w1.heap.size + 1, w1.heap.size + 1 + 1], rfl, ?_, ?_⟩, K1.out.trans hk (by simp)⟩
  · refine ⟨.slice Av l.length cv, w1.heap.size, w1.heap.size + 1, 0, .map [], 0, .map [], HOK.out, (by simpa [DiskS.open] using Blk.new ((w1.alloc (.map #[] 0)).alloc (.map #[] 0)) 102 [.int .i64 n, .slice Av l.length cv, .map (some w1.heap.size), .map (some (w1.heap.size + 1)), .int .i64 0, .int .i64 0]), ?_, ?_, Nat.zero_le _, ⟨?_, ?_, ?_⟩, ?_, Nat.zero_le _, fun _ => rfl, by omega, by simp, by simp, by simp, ?_, ?_⟩
    · show Row8 _ _ (DiskS.open n l).bytes
      rw [HBY.out]
      exact Own.mono (hvk.kept hk (by simp [Apart])) (Nat.zero_le _)
    · exact ((map_none w1 heldR).alloc _).alloc _
    · intro i hi hn
      rfl
    · intro i x hx
      change (List.replicate _ none)[i]?.join = some x at hx
      rw [List.getElem?_replicate] at hx
      split at hx <;> simp at hx
    · intro kl hkl; cases hkl
    · have := (map_none (w1.alloc (.map #[] 0)) Go.unitElem).alloc (.cells #[.int .i64 n, .slice Av l.length cv, .map (some w1.heap.size), .map (some (w1.heap.size + 1)), .int .i64 0, .int .i64 0] 102)
      simpa using this
    · intro g hg; simp [hg]
    · intro g hg
      simp only [List.mem_append, Option.mem_toList, List.mem_cons, List.not_mem_nil, or_false] at hg
      have := hvk.lt g
      rcases hg with hg | hg
      · have := (this hg).2; simp; omega
      · simp; omega
  · intro g hg
    have hs1 := K1.out.size
    simp only [List.mem_append, Option.mem_toList, List.mem_cons, List.not_mem_nil, or_false] at hg
    rcases hg with hg | hg
    · exact (hvk.lt g hg).1
    · omega
end Go.Proofs.YtcikhnkehglkgaaGreatDoor
namespace Go.Proofs.YtcikhnkehglkgaaGreatDoor
open Go.RowKit Go.Proofs.YtcikhnkehglkgaaGreatDoorLib Go.WideElems Go.Maps
set_option linter.unusedSimpArgs false
set_option linter.unusedVariables false

def NewOk (k n : Int) : Prop := 0 ≤ k ∧ k ≤ 4096 ∧ 1 ≤ n ∧ n ≤ 4096
instance (k n : Int) : Decidable (NewOk k n) := by unfold NewOk; infer_instance
set_option maxRecDepth 100000 in
set_option maxHeartbeats 4000000 in
theorem new_no (w : World) (k n : Int) (h : ¬ NewOk k n) : Calls Tryz.prog 34 #[.int .i64 k, .int .i64 n] w (Post w [] fun r W => r = .tuple #[.pointer none, .int .i64 1]) := by
  unfold NewOk at h
  by_cases q1 : k < 0
  · go_enter Tryz.func34, Tryz.ntmps34
    go_wp2
    go_ret2
    exact ⟨_, rfl, rfl, Kept.refl _ _⟩
  by_cases q2 : 4096 < k
  · go_enter Tryz.func34, Tryz.ntmps34
    go_wp2
    go_ret2
    exact ⟨_, rfl, rfl, Kept.refl _ _⟩
  by_cases q3 : n < 1
  · go_enter Tryz.func34, Tryz.ntmps34
    go_wp2
    go_ret2
    exact ⟨_, rfl, rfl, Kept.refl _ _⟩
  have q4 : 4096 < n := by omega
  clear h
  go_enter Tryz.func34, Tryz.ntmps34
  go_wp2
  go_ret2
  exact ⟨_, rfl, rfl, Kept.refl _ _⟩
/-- a new disk's sectors are noughts -/
def DiskS.new (k n : Nat) : DiskS := ⟨n, List.replicate k (List.replicate n 0), List.replicate k none, fun _ => false, 0, 0, 0⟩
theorem chop_replicate (n k : Nat) : chop n (List.replicate (k * n) 0) k = List.replicate k (List.replicate n 0) := by
  induction k with
  | zero => rfl
  | succ k ih =>
    rw [chop, List.replicate_succ, List.take_replicate, List.drop_replicate, Nat.succ_mul, Nat.min_eq_left (by omega), show k * n + n - n = k * n by omega, ih]
theorem open_new (k n : Nat) (h : 0 < n) : DiskS.open n (List.replicate (k * n) 0) = DiskS.new k n := by
  unfold DiskS.open DiskS.new
  rw [List.length_replicate, Nat.mul_div_cancel _ h, chop_replicate]
set_option maxRecDepth 100000 in
set_option maxHeartbeats 4000000 in
theorem new_yes (w : World) (k n : Int) (h : NewOk k n) : Calls Tryz.prog 34 #[.int .i64 k, .int .i64 n] w (Post w [] fun r W => ∃ b F, r = .tuple #[.pointer (some ⟨b, 0, none⟩), .int .i64 0] ∧ DiskAt W b F (DiskS.new k.toNat n.toNat) ∧ ∀ g, g ∈ F → w.heap.size ≤ g) := by
  obtain ⟨h1, h2, h3, h4⟩ := h
  obtain ⟨k, rfl⟩ := Int.eq_ofNat_of_zero_le h1
  obtain ⟨n, rfl⟩ := Int.eq_ofNat_of_zero_le (show 0 ≤ n by omega)
  simp only [Int.toNat_natCast]
  have hmul : k * n ≤ 4096 * 4096 := Nat.mul_le_mul (by omega) (by omega)
  have e1 : ((k : Int) * (n : Int)) = ((k * n : Nat) : Int) := by simp
  have hop := open_new k n (by omega)
  have hoo : OpenOk (n : Int) (List.replicate (k * n) 0) := by
    refine ⟨h3, h4, ?_, ?_⟩
    · rw [List.length_replicate, Int.toNat_natCast]; exact Nat.mul_mod_left _ _
    · rw [List.length_replicate, Int.toNat_natCast, Nat.mul_div_cancel _ (by omega)]; omega
  generalize k * n = m at *
  have HOP := Lib.hid hop
  have HOO := Lib.hid hoo
  have m0 : (0 : Int) ≤ m := by omega
  have m1 : (m : Int) ≤ 16777216 := by omega
  obtain ⟨i0, hi, hz0, hz1, hz2⟩ := info_parts info8
  obtain ⟨w1, hmk, hrow, k1⟩ := make_own (P := Tryz.prog) (k := .u8) Tryz.underlying27 hi hz0 hz1 (by omega) m (by omega) w
  have HROW := Lib.hid hrow
  have K1 := Lib.hid k1
  clear hrow k1 hi hz0 hz1 hz2 hop hoo
  go_enter Tryz.func34, Tryz.ntmps34
  go_wp2_with fail
  obtain ⟨bq, hsl, _⟩ := HROW.out.sl
  refine (open_yes w1 n _ bq 0 _ hsl (Bts.replicate0 _) HOO.out).mono ?_
  rintro _ w2 ⟨_, rfl, ⟨b, F, rfl, hd, hF⟩, k2⟩
  rw [Int.toNat_natCast, HOP.out] at hd
  have HD := Lib.hid hd
  have HFF := Lib.hid hF
  have K2 := Lib.hid k2
  clear hd hF k2 hsl
  go_wp2_with fail
  go_ret2
  exact ⟨_, rfl, ⟨b, F, rfl, HD.out, fun g hg => Nat.le_trans K1.out.size (HFF.out g hg)⟩, K1.out.trans K2.out (by simp)⟩
end Go.Proofs.YtcikhnkehglkgaaGreatDoor
