/- PROVED: the contract of disk.Crash. No conditions beyond those that each theorem states. -/
import Derived.Test.YtcbngmfbbdmlgaaDkE
import Derived.Deep.CutRange
namespace Go.Proofs.Ytcbngmfbbdmlgaa
open Go.RowKit Go.Proofs.YtcbngmfbbdmlgaaLib Go.WideElems Go.Maps
set_option linter.unusedSimpArgs false
set_option linter.unusedVariables false

/-- bytes that lie outside F -/
def BtsAt (w : World) (F : List Nat) (v : Value) (l : List Int) : Prop := ∃ bb bo, Sl .u8 w v bb bo l ∧ Bts l ∧ (l = [] ∨ bb ∉ F)
/-- a slice of tears, outside F -/
def TearsAt (w : World) (F : List Nat) (v : Value) (ts : List (Int × List Int)) : Prop := ∃ A c, v = .slice A ts.length c ∧ ts.length ≤ c ∧ c ≤ maxLen ∧
  ∀ (i : Nat) t, ts[i]? = some t → ∃ b off bv, A = some ⟨b, off, none⟩ ∧ b ∉ F ∧ w.cell? ⟨b, off + i * 2, none⟩ = some (.int .i64 t.1) ∧ w.cell? ⟨b, off + (i * 2 + 1), none⟩ = some bv ∧ BtsAt w F bv t.2
theorem BtsAt.kept {w w1 : World} {F S : List Nat} {v : Value} {l : List Int} (h : BtsAt w F v l) (hk : Kept w w1 S) (hS : ∀ g, g ∈ S → g ∈ F) : BtsAt w1 F v l := by
  obtain ⟨bb, bo, h1, h2, h3⟩ := h
  exact ⟨bb, bo, h1.kept hk (h3.imp id (fun hn hm => hn (hS _ hm))), h2, h3⟩
theorem TearsAt.kept {w w1 : World} {F S : List Nat} {v : Value} {ts : List (Int × List Int)} (h : TearsAt w F v ts) (hk : Kept w w1 S) (hS : ∀ g, g ∈ S → g ∈ F) : TearsAt w1 F v ts := by
  obtain ⟨A, c, h1, h2, h3, h4⟩ := h
  refine ⟨A, c, h1, h2, h3, fun i t hi => ?_⟩
  obtain ⟨b, off, bv, e, hb, c0, c1, hv⟩ := h4 i t hi
  exact ⟨b, off, bv, e, hb, hk.cell c0 (fun hm => hb (hS _ hm)), hk.cell c1 (fun hm => hb (hS _ hm)), hv.kept hk hS⟩
theorem BtsAt.drew {w : World} {F : List Nat} {v : Value} {l : List Int} (h : BtsAt w F v l) : BtsAt w.drew F v l := h.kept (Kept.refl w []).drew (by simp)
theorem splice_splice {α : Type} (L A B : List α) (off : Nat) (h : off + A.length ≤ L.length) (hB : B.length ≤ A.length) : splice (splice L off A) off B = splice L off (B ++ A.drop B.length) := by
  unfold splice
  have e1 : (L.take off ++ (A ++ L.drop (off + A.length))).take off = L.take off := by
    rw [List.take_append_of_le_length (by simp; omega), List.take_of_length_le (by simp; omega)]
  have e2 : (L.take off ++ (A ++ L.drop (off + A.length))).drop (off + B.length) = A.drop B.length ++ L.drop (off + A.length) := by
    rw [List.drop_append, List.drop_of_length_le (by simp; omega), List.nil_append]
    have : off + B.length - (L.take off).length = B.length := by simp; omega
    rw [this, List.drop_append_of_le_length hB]
  rw [e1, e2]
  have : (B ++ A.drop B.length).length = A.length := by simp; omega
  rw [this, List.append_assoc]
theorem left_junk (old next : List Int) (t : Int × List Int) (h : t.1 = 2) (n : Nat) (hn : old.length = n) : t.2.take n ++ (List.replicate n 0).drop (t.2.take n).length = left old next t := by
  unfold left
  rw [if_neg (by omega), if_pos h, hn, List.take_append]
  congr 1
  rw [List.drop_replicate, List.take_replicate, List.length_take]
  congr 1
  omega
/-- behind the sector's bytes: it is struck off the cached ones -/
theorem DiskX.took {w w4 : World} {b : Nat} {F : List Nat} {s : DiskS} {vl : Value} {bc bp nc : Nat} {Dc : DataW Value} {np : Nat} {Dp : DataW Value} (h : DiskX w b F s vl bc bp nc Dc np Dp) {i : Nat} (hi : i < s.last.length) {x : List Int} (hx : Sec s.size x) {g : Nat} (hg : vl.ownBlock = some g)
    (hk : Kept w w4 [g]) (hv : Row8 w4 vl (splice s.bytes (i * s.size) x)) : ∃ w5, (Builtin.delete_ #[57, 3] 0 #[.map (some bc), .int .i64 i]).run Try.prog w4 = .ok (.tuple #[]) w5 ∧ w4.cell? ⟨b, 2, none⟩ = some (.map (some bc)) ∧ Kept w w5 F ∧
      DiskX w5 b F { s with last := s.last.set i x, cach := s.cach.set i none } vl bc bp nc (Dc.del (.int .i64 i)) np Dp := by
  have hnb := Own.ne_map h.las h.cac
  have hbn : b ≠ g := fun e => Own.ne_cells h.las h.blk (by decide) (e ▸ hg)
  have hm4 := map_kept h.cac hk (by simp; intro e; exact hnb (e ▸ hg))
  obtain ⟨w5, hdel, hm5, ht5⟩ := hm4.drop keyedI Try.underlying57 (keyi (x := i) (by omega) (by have := h.ok.n1; omega)) 0
  have k5 := kept_turned (hk.mono (S2 := [g, bc]) (by simp)) ht5 (.inl (by simp))
  refine ⟨w5, hdel, hk.cell (h.blk.cell 2 rfl) (by simpa using hbn), k5.mono (fun j hj => ?_), h.taken hi hx hg k5 (hv.kept (kept_turned (Kept.refl w4 [bc]) ht5 (.inl (by simp))) (by intro j hj hm; simp at hm; subst hm; exact hnb hj)) hm5⟩
  simp at hj
  rcases hj with rfl | rfl
  · exact .inl (h.fl _ hg)
  · exact .inl h.fc
theorem DiskX.bl {w : World} {b : Nat} {F : List Nat} {s : DiskS} {vl : Value} {bc bp nc : Nat} {Dc : DataW Value} {np : Nat} {Dp : DataW Value} (h : DiskX w b F s vl bc bp nc Dc np Dp) {i : Nat} (hi : i < s.last.length) : ∃ bl, vl.ownBlock = some bl := by
  obtain ⟨bl, q1, q2⟩ := h.las.sl
  rcases q2 with q2 | q2
  · have e := h.ok.bytes_len
    rw [q2] at e
    have := Nat.mul_pos (show 0 < s.last.length by omega) h.ok.s1
    simp at e
    omega
  · exact ⟨bl, q2.1⟩
theorem DiskX.fits {w : World} {b : Nat} {F : List Nat} {s : DiskS} {vl : Value} {bc bp nc : Nat} {Dc : DataW Value} {np : Nat} {Dp : DataW Value} (h : DiskX w b F s vl bc bp nc Dc np Dp) {i : Nat} (hi : i < s.last.length) : i * s.size + s.size ≤ s.bytes.length := by
  have e := h.ok.bytes_len
  have := Nat.mul_le_mul_right s.size (Nat.succ_le_of_lt hi)
  rw [Nat.succ_mul] at this
  omega
theorem splice_same {size : Nat} {l : List (List Int)} (h : ∀ x, x ∈ l → Sec size x) (i : Nat) (x : List Int) (hx : l[i]? = some x) : splice l.flatten (i * size) x = l.flatten := by
  have hi : i < l.length := (List.getElem?_eq_some_iff.1 hx).1
  have e : l[i] = x := (List.getElem?_eq_some_iff.1 hx).2
  rw [flatten_set h i hi x (h x (List.mem_of_getElem? hx)).1, ← e, List.set_getElem_self]
set_option maxHeartbeats 1000000 in
theorem at_core (w : World) (b bl size L c i : Nat) (c0 : w.cell? ⟨b, 0, none⟩ = some (.int .i64 size)) (c1 : w.cell? ⟨b, 1, none⟩ = some (.slice (some ⟨bl, 0, none⟩) L c)) (s1 : 1 ≤ size) (s2 : size ≤ 4096) (bd : L ≤ 16777216) (hm : i * size + size ≤ L) (i1n : i ≤ 4096) (h1 : L ≤ c) (h2 : c ≤ maxLen) :
    size ≤ c - i * size ∧ c - i * size ≤ maxLen ∧ Calls Try.prog 35 #[.pointer (some ⟨b, 0, none⟩), .int .i64 i] w (fun e W => e = .returned (.slice (some ⟨bl, i * size, none⟩) size (c - i * size)) ∧ w.drew = W) := by
  have e1 : ((i : Int) * (size : Int)) = ((i * size : Nat) : Int) := by simp
  have e2 : (((i : Int) + 1) * (size : Int)) = ((i * size : Nat) : Int) + (size : Int) := by rw [Int.add_mul]; simp
  generalize i * size = m at *
  have H2 := Lib.hid h2
  clear h2
  have i0 : (0 : Int) ≤ i := by omega
  have i1 : (i : Int) ≤ 4096 := by omega
  have m0 : (0 : Int) ≤ m := by omega
  have m1 : (m : Int) ≤ 16777216 := by omega
  have t1 : (1 : Int) ≤ size := by omega
  have t2 : (size : Int) ≤ 4096 := by omega
  have hmc : m + size ≤ c := by omega
  have hmi : (m : Int) + (size : Int) ≤ c := by omega
  have hlt : m < c := by omega
  refine ⟨by omega, by have := H2.out; omega, ?_⟩
  go_enter Try.func35, Try.ntmps35
  go_wp2_with fail
  go_region
  all_goals (
    go_wp2_with fail
    go_ret
    exact ⟨congrArg (fun n => Ending.returned (Value.slice (some ⟨bl, m, none⟩) n (c - m))) (Nat.add_sub_cancel_left m size), rfl⟩)
theorem zeroB (w : World) : (zeroValue 5).run Try.prog w = .ok (.int .u8 0) w := by kernel_rfl
set_option maxRecDepth 100000 in
set_option maxHeartbeats 8000000 in
theorem crash_any (w : World) (b : Nat) (F : List Nat) (s : DiskS) (h : DiskAt w b F s) (tv : Value) (ts : List (Int × List Int)) (ht : TearsAt w F tv ts) :
    Calls Try.prog 21 #[.pointer (some ⟨b, 0, none⟩), tv] w (Post w F fun r W => r = .tuple #[] ∧ DiskAt W b F (s.crash ts)) := by
  have hok := h.ok
  have hfb := h.fb
  have HF := Lib.hid hfb
  have HO := Lib.hid hok
  have HLT := Lib.hid h.lt
  have HT := Lib.hid ht
  obtain ⟨At, ct, rfl, t1, t2, t3⟩ := ht
  clear hok hfb t3
  go_enter Try.func21, Try.ntmps21
  go_wp2_with fail
  refine (unsynced_any w b F s h).mono ?_
  rintro _ w2 ⟨v, rfl, hv, k2⟩
  have h2 := h.kept k2 (by simp)
  have K2 := Lib.hid (k2.mono (S2 := F) (by simp))
  have hlen := hv.len
  obtain ⟨bv, ⟨A, c, rfl, g1, g2, g3, g4⟩, g5⟩ := hv.sl
  have hN := unsynced_length s
  generalize hn : s.unsynced.length = n at *
  have HV := Lib.hid hv
  have hni : n ≤ 1000000 := by
    have h3 := HO.out.n1
    have h4 := HO.out.nc
    have h5 : idx s.cach s.cach.length ≤ s.cach.length := by
      unfold idx
      exact Nat.le_trans (List.countP_le_length) (by simp)
    omega
  have HT2 := Lib.hid (HT.out.kept k2 (by simp))
  have HN := Lib.hid hN
  have HNN := Lib.hid hn
  have H2 := Lib.hid h2
  have G3 := Lib.hid g3
  have htl : ts.length ≤ maxLen := by omega
  unfold maxLen at htl
  clear g4 g3 g5 h2 hN hn k2 hv g1 g2 h
  go_wp2_with fail
  go_loopg [10] n (fun g i wr => ∃ k B : Nat, k + g = n ∧ i = .int .i64 k ∧ idx s.cach B = k ∧ B ≤ s.cach.length ∧ DiskAt wr b F (s.part (fun k => ts[k]?.getD oldT) B) ∧ Own 3 .i64 wr w.heap.size (.slice A n c) s.unsynced ∧ TearsAt wr F (.slice At ts.length ct) ts ∧ Kept w wr F)
  case atStart => exact ⟨0, 0, by omega, rfl, by simp [idx], Nat.zero_le _, by rw [part_zero]; exact H2.out, HV.out, HT2.out, K2.out⟩
  case round =>
    obtain ⟨k, B, hk, rfl, hB, hBl, hd, hrow, htr, hkept⟩ := hrel
    have HK := Lib.hid hk
    have HB := Lib.hid hB
    have HD := Lib.hid hd
    have HR := Lib.hid hrow
    have HKE := Lib.hid hkept
    have HTR := Lib.hid htr
    clear hk hB hd hrow hkept htr
    by_cases hlt : k < n
    · have hxk := List.getElem?_eq_getElem (l := s.unsynced) (i := k) (by have := HNN.out; omega)
      obtain ⟨i, l, cc, hxi, hi, hl, hc, hl', hc', hidx, hstep⟩ := part_at s HO.out (fun k => ts[k]?.getD oldT) HB.out hxk
      rw [hxi] at hxk
      have hne : s.unsynced ≠ [] := by intro e; rw [e] at hxk; simp at hxk
      obtain rfl := G3.out hne
      have hcell : wr.cell? ⟨bv, 0 + k, none⟩ = some (.int .i64 i) := by
        obtain ⟨b2, q1, q2⟩ := HR.out.sl
        rcases q2 with q2 | q2
        · exact absurd q2 hne
        · obtain rfl : bv = b2 := by simpa [Value.ownBlock] using q2.1
          exact q1.cell hxk
      rw [Nat.zero_add] at hcell
      have HHL := Lib.hid hl
      have HHC := Lib.hid hc
      have HHL' := Lib.hid hl'
      have HHC' := Lib.hid hc'
      have HSTEP := Lib.hid hstep
      have HIDX := Lib.hid hidx
      have i0 : (0 : Int) ≤ i := by omega
      have i1 : (i : Int) < 4096 := by have := HO.out.n1; omega
      have k0 : (0 : Int) ≤ k := by omega
      have kn : (k : Int) < n := by omega
      have hti : (ts.length : Int) ≤ 9223372036854775807 := by omega
      clear hl hc hl' hc' hstep hidx hxi hxk hne
      obtain ⟨t, ht⟩ : ∃ t, t = ts[k]?.getD oldT := ⟨_, rfl⟩
      have HTT := Lib.hid ht
      clear ht
      go_upto_if 19 with fail
      go_cut [5, 6] from 11 to 54 (fun vi v wx => vi = .int .i64 i ∧ ∃ bt bw, v = .pointer (some ⟨bt, 0, none⟩) ∧ wr.heap.size ≤ bt ∧ Blk wx bt 51 [.int .i64 t.1, bw] ∧ BtsAt wx F bw t.2 ∧ Kept wr wx [])
      case first =>
        by_cases hkt : k < ts.length
        · have htk : ts[k]? = some t := by rw [HTT.out, List.getElem?_eq_getElem hkt]; rfl
          obtain ⟨Ab, Ac, Ae, _, _, Ah⟩ := HTR.out
          obtain ⟨tb, off, bw, e, hbF, d0, d1, hbw⟩ := Ah k t htk
          obtain rfl : At = some ⟨tb, off, none⟩ := by rw [← e]; simp at Ae; exact Ae.1
          obtain ⟨Aw, cw, rfl⟩ := hbw.choose_spec.choose_spec.1.form
          have d0' := Lib.cell?_alloc_some (o := .cells #[.int .i64 0, .slice none 0 0] 51) d0
          have d1' := Lib.cell?_alloc_some (o := .cells #[.int .i64 0, .slice none 0 0] 51) d1
          rw [← Nat.add_assoc] at d1'
          have hki : (k : Int) < ts.length := by omega
          clear Ah e Ae htk
          go_wp2_with fail
          go_meet
          case rel =>
            have kq := (Kept.refl wr []).alloc (.cells #[.int .i64 t.1, .slice Aw t.2.length cw] 51)
            exact ⟨rfl, wr.heap.size, _, rfl, Nat.le_refl _, Blk.new _ _ _, hbw.kept kq (by simp), kq⟩
        · have htk : t = oldT := by rw [HTT.out, List.getElem?_eq_none (by omega)]; rfl
          go_wp2_with fail
          go_meet
          case rel =>
            refine ⟨rfl, wr.heap.size, .slice none 0 0, rfl, Nat.le_refl _, ?_, ?_, (Kept.refl _ _).alloc _⟩
            · rw [htk]; exact Blk.new _ _ _
            · rw [htk]; exact ⟨0, 0, Sl.nil _ _ _ _, Bts.nil, .inl rfl⟩
      case rest =>
        obtain ⟨rfl, bt, bw, rfl, hbt, hbk, hbw, kx⟩ := hcut
        have b0 := hbk.cell 0 rfl
        have b1 := hbk.cell 1 rfl
        have HBW := Lib.hid hbw
        have KX := Lib.hid kx
        have HXX := Lib.hid (HD.out.kept kx (by simp))
        clear hbk hbw kx
        have hsz := part_size s (fun k => ts[k]?.getD oldT) B
        have hi' : i < (s.part (fun k => ts[k]?.getD oldT) B).last.length := by rw [hsz.2]; exact hi
        obtain ⟨vl, bc, bp, nc, Dc, np, Dp, hx⟩ := HXX.out
        obtain ⟨bl, hbl⟩ := hx.bl hi'
        have hfit := hx.fits hi'
        have hls : Sec s.size l := HO.out.ls l (List.mem_of_getElem? HHL.out)
        have hcs : Sec s.size cc := HO.out.cs cc (mem_join HHC.out)
        have c2 := hx.blk.cell 2 rfl
        have HFIN : Hid (∀ w5 vl' bc' nc' Dc' , DiskX w5 b F { s.part (fun k => ts[k]?.getD oldT) B with last := (s.part (fun k => ts[k]?.getD oldT) B).last.set i (left l cc t), cach := (s.part (fun k => ts[k]?.getD oldT) B).cach.set i none } vl' bc' bp nc' Dc' np Dp → DiskAt w5 b F (s.part (fun k => ts[k]?.getD oldT) (i + 1))) := Lib.hid (by
          intro w5 vl' bc' nc' Dc' h5
          rw [HSTEP.out, ← HTT.out]
          exact ⟨vl', bc', bp, nc', Dc', np, Dp, h5⟩)
        by_cases hold : t.1 ≠ 1 ∧ t.1 ≠ 2
        · have hleft : left l cc t = l := by unfold left; rw [if_neg hold.1, if_neg hold.2]
          rw [hleft] at HFIN
          have he := splice_same hx.ok.ls i l HHL'.out
          obtain ⟨w5, hdel, e4, k5, h5⟩ := hx.took (w4 := wc) hi' hls hbl (Kept.refl _ _) (he.symm ▸ hx.las)
          have q1 : (t.1 == 1) = false := by simp [hold.1]
          have q2 : (t.1 == 2) = false := by simp [hold.2]
          have H5 := Lib.hid h5
          have K5 := Lib.hid k5
          clear h5 k5 he hleft hx c2
          go_wp2_with fail
          go_roundg (gk - 1)
          case measure => have := HK.out; omega
          case rel =>
            have hk5 : Kept wr w5 F := (KX.out.mono (by simp)).trans K5.out (fun g hg => .inl hg)
            refine ⟨k + 1, i + 1, by have := HK.out; omega, by go_num, HIDX.out, by have := HO.out.nc; omega, HFIN.out _ _ _ _ _ H5.out, HR.out.kept hk5 ?_, HTR.out.kept hk5 (fun g hg => hg), HKE.out.trans hk5 (fun g hg => .inl hg)⟩
            intro g hg hm
            have := (HR.out.lt g hg).1
            have := HLT.out g hm
            omega
        by_cases hnew : t.1 = 1
        · have hleft : left l cc t = cc := by unfold left; rw [if_pos hnew]
          rw [hleft] at HFIN
          obtain ⟨ca, ha1, ha2, hat⟩ := at_drew wc.drew b F _ vl bc bp nc Dc np Dp hx.drew i hi' bl hbl
          obtain ⟨cv, _, hlook, hcrow, hcown⟩ := look_some hx HHC'.out
          have hl1 : (Instr.lookup 57 (.map (some bc)) (.int .i64 i) false).run Try.prog wc.drew = .ok cv wc.drew := hlook 1
          have hl2 : (Instr.lookup 57 (.map (some bc)) (.int .i64 i) false).run Try.prog wc.drew.drew = .ok cv wc.drew.drew := hlook 2
          obtain ⟨bcv, hcsl, _⟩ := Own.sl (hcrow.drew.drew)
          have htk : cc.take s.size = cc := List.take_of_length_le (by rw [hcs.1]; exact Nat.le_refl _)
          obtain ⟨w4, hcp, hv4, k4⟩ := hx.drew.drew.las.copy (P := Try.prog) hbl 31 31 3 5 Try.underlying31 (by kernel_rfl) (i * s.size) s.size ca hcsl (by rw [htk, hcs.1]; exact hfit)
          rw [htk] at hcp hv4
          have e1 : wc.drew.cell? ⟨b, 2, none⟩ = some (.map (some bc)) := c2
          have e2 : wc.drew.drew.cell? ⟨b, 2, none⟩ = some (.map (some bc)) := c2
          obtain ⟨w5, hdel, e4, k5, h5⟩ := hx.took hi' hcs hbl ((Kept.refl wc _).drew.drew.trans k4 (fun g hg => .inl hg)) hv4
          have q1 : (t.1 == 1) = true := by simp [hnew]
          have H5 := Lib.hid h5
          have K5 := Lib.hid k5
          clear h5 k5 hleft hx c2 hv4 k4 htk hcsl hcrow hcown hlook hnew hold
          go_wp2_with fail
          go_region_held3 (fun W => W.cell? ⟨b, 2, none⟩ = some (.map (some bc))) (first | (with_reducible exact e1) | (with_reducible exact e2) | (with_reducible exact e4) | go_keep) (first | (
            go_at_call 35
            refine hat.mono ?_
            rintro _ _ ⟨rfl, rfl⟩))
          all_goals (
            clear e1 e2 hl1 hl2 hat hcp
            go_wp2_with fail
            go_roundg (gk - 1)
            case measure => have := HK.out; omega
            case rel =>
              have hk5 : Kept wr w5 F := (KX.out.mono (by simp)).trans K5.out (fun g hg => .inl hg)
              refine ⟨k + 1, i + 1, by have := HK.out; omega, by go_num, HIDX.out, by have := HO.out.nc; omega, HFIN.out _ _ _ _ _ H5.out, HR.out.kept hk5 ?_, HTR.out.kept hk5 (fun g hg => hg), HKE.out.trans hk5 (fun g hg => .inl hg)⟩
              intro g hg hm
              have := (HR.out.lt g hg).1
              have := HLT.out g hm
              omega)
        have hj : t.1 = 2 := by omega
        have hlc : Sec s.size (left l cc t) := left_sec hls hcs (HBW.out.choose_spec.choose_spec.2.1)
        obtain ⟨bl2, hsl, hsl2⟩ := hx.las.sl
        have hbne : (s.part (fun k => ts[k]?.getD oldT) B).bytes ≠ [] := by
          intro e; rw [e] at hfit; have := hx.ok.s1; rw [hsz.1] at this hfit; simp at hfit; omega
        obtain rfl : bl2 = bl := by
          rcases hsl2 with h2 | h2
          · exact absurd h2 hbne
          · rw [hbl] at h2; simp at h2; exact h2.symm
        obtain ⟨cl, rfl⟩ := hsl.at hbne
        obtain ⟨_, hcl⟩ : (s.part (fun k => ts[k]?.getD oldT) B).bytes.length ≤ cl ∧ cl ≤ maxLen := by
          obtain ⟨_, _, e, q1, q2, _⟩ := hsl
          simp at e
          rw [e.2]
          exact ⟨q1, q2⟩
        have hbd := bytes_bd hx.ok
        have hs1 := hx.ok.s1
        have hs2 := hx.ok.s2
        have c0 := hx.blk.cell 0 rfl
        have c1 := hx.blk.cell 1 rfl
        rw [hsz.1] at c0 hs1 hs2 hfit
        obtain ⟨ha1, ha2, hat⟩ := at_core wc b bl2 s.size _ cl i c0 c1 hs1 hs2 hbd hfit (by omega) (by assumption) hcl
        obtain ⟨w3, hclr, hv3, k3⟩ := hx.drew.las.clear (P := Try.prog) hbl 31 0 5 Try.underlying31 zeroB (i * s.size) s.size (cl - i * s.size) (by omega) hfit
        have hbn : b ∉ [bl2] := by simp; exact fun e => Own.ne_cells hx.las hx.blk (by decide) (e ▸ hbl)
        have c0' : w3.drew.cell? ⟨b, 0, none⟩ = _ := k3.cell (w := wc.drew) c0 hbn
        have c1' : w3.drew.cell? ⟨b, 1, none⟩ = _ := k3.cell (w := wc.drew) c1 hbn
        obtain ⟨_, _, hat2⟩ := at_core w3.drew b bl2 s.size _ cl i c0' c1' hs1 hs2 hbd hfit (by omega) (by assumption) hcl
        have hblF : bl2 ∈ F := hx.fl _ hbl
        have hbt2 : bt ∉ [bl2] := by simp; have := HD.out.lt bl2 hblF; omega
        have g1 : w3.cell? ⟨bt, 1, none⟩ = some bw := k3.cell (w := wc.drew) b1 hbt2
        have g2 : w3.drew.cell? ⟨bt, 1, none⟩ = some bw := g1
        have g3 : w3.drew.drew.cell? ⟨bt, 1, none⟩ = some bw := g1
        obtain ⟨bb, bo, hbs, hbb, hbf⟩ := HBW.out
        have hbs3 := ((hbs.drew.kept k3 (hbf.imp id (fun hn hm => by simp at hm; subst hm; exact hn hblF))).drew).drew
        have hL : (splice (s.part (fun k => ts[k]?.getD oldT) B).bytes (i * s.size) (List.replicate s.size 0)).length = (s.part (fun k => ts[k]?.getD oldT) B).bytes.length := length_splice _ _ _ (by simpa using hfit)
        obtain ⟨w4, hcp, hv4, k4⟩ := hv3.drew.drew.copy (P := Try.prog) hbl 31 31 3 5 Try.underlying31 (by kernel_rfl) (i * s.size) s.size (cl - i * s.size) hbs3 (by rw [hL, List.length_take]; omega)
        rw [splice_splice _ _ _ _ (by simpa using hfit) (by simp; omega), left_junk l cc t hj s.size hls.1] at hv4
        have g4 : w4.cell? ⟨bt, 1, none⟩ = some bw := k4.cell (w := w3.drew.drew) g3 hbt2
        obtain ⟨w5, hdel, e4, k5, h5⟩ := hx.took hi' hlc hbl (((Kept.refl wc _).drew.trans k3 (fun g hg => .inl hg)).drew.drew.trans k4 (fun g hg => .inl hg)) hv4
        have q1 : (t.1 == 1) = false := by simp [hj]
        have q2 : (t.1 == 2) = true := by simp [hj]
        have H5 := Lib.hid h5
        have K5 := Lib.hid k5
        have hat' := Lib.hid hat
        have hat2' := Lib.hid hat2
        obtain ⟨Ab, cb, rfl⟩ := hbs.form
        clear h5 k5 hx c2 hv4 k4 k3 hv3 hL hbs hbs3 hbb hbf hbt2 hbn c0' c1' c0 c1 hnew hold hj hlc hsl hsl2 hbne hat hat2
        go_wp2_with fail
        refine hat'.out.mono ?_
        rintro _ _ ⟨rfl, rfl⟩
        go_wp2_with fail
        go_region_held3 (fun W => W.cell? ⟨bt, 1, none⟩ = some (.slice Ab t.2.length cb)) (first | (with_reducible exact g2) | (with_reducible exact g3) | (with_reducible exact g4) | go_keep) (first | (
          go_at_call 35
          refine hat2'.out.mono ?_
          rintro _ _ ⟨rfl, rfl⟩))
        all_goals (
          clear hcp hclr g1 g2 g3 g4
          go_wp2_with fail
          go_roundg (gk - 1)
          case measure => have := HK.out; omega
          case rel =>
            have hk5 : Kept wr w5 F := (KX.out.mono (by simp)).trans K5.out (fun g hg => .inl hg)
            refine ⟨k + 1, i + 1, by have := HK.out; omega, by go_num, HIDX.out, by have := HO.out.nc; omega, HFIN.out _ _ _ _ _ H5.out, HR.out.kept hk5 ?_, HTR.out.kept hk5 (fun g hg => hg), HKE.out.trans hk5 (fun g hg => .inl hg)⟩
            intro g hg hm
            have := (HR.out.lt g hg).1
            have := HLT.out g hm
            omega)
    · have hkn : k = n := by have := HK.out; omega
      clear hlt
      subst hkn
      go_wp2_with fail
      refine bodyPost_ret (v := .tuple #[]) (by simp [results, Try.results21, go_sem]) rfl ?_
      refine ⟨_, rfl, ⟨rfl, ?_⟩, HKE.out⟩
      have hp := part_between s (fun k => ts[k]?.getD oldT) B s.cach.length hBl (Nat.le_refl _) (by rw [← HN.out]; exact HB.out.symm)
      show DiskAt wr b F (s.part (fun k => ts[k]?.getD oldT) s.last.length)
      rw [← HO.out.nc, hp]
      exact HD.out
end Go.Proofs.Ytcbngmfbbdmlgaa
