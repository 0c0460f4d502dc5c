/- PROVED: plain laws on slots: what was laid and sealed is read; plain laws on slots: laid, sealed, wiped. No conditions beyond those that each theorem states. -/
import Derived.Test.YtcikhnkehglkgaaGreatDoorSlRd
import Derived.Test.YtcikhnkehglkgaaGreatDoorSlDa
namespace Go.Proofs.YtcikhnkehglkgaaGreatDoor
open Go.RowKit Go.Proofs.YtcikhnkehglkgaaGreatDoorLib
set_option linter.unusedSimpArgs false
set_option linter.unusedVariables false

/-- a sector's bytes, cached or lasting -/
def _root_.Go.Proofs.YtcikhnkehglkgaaGreatDoorLib.DiskS.get (s : DiskS) (i : Nat) : List Int := match s.cach[i]?.join with
  | some b => b
  | none => s.last[i]?.getD []
def _root_.Go.Proofs.YtcikhnkehglkgaaGreatDoorLib.DiskS.NoFail (s : DiskS) : Prop := ∀ n : Int, (s.ops : Int) < n → s.plan n = false
theorem read_ok {s : DiskS} (hf : s.fails = false) {i : Nat} (hi : i < s.last.length) : s.read (i : Int) = (s.get i, 0) := by
  unfold DiskS.read
  rw [if_neg (by simp [hf]), if_neg (by omega)]
  unfold DiskS.get
  simp only [Int.toNat_natCast]
  cases s.cach[i]?.join <;> rfl
theorem write_ok {s : DiskS} (hf : s.fails = false) {i : Nat} (hi : i < s.last.length) {l : List Int} (hl : l.length = s.size) :
    s.write (i : Int) l = ({ s.tick with cach := s.cach.set i (some l), writes := s.writes + 1 }, 0) := by
  unfold DiskS.write
  rw [if_neg (by simp [hf]), if_neg (by omega), if_neg (by omega), if_neg (by omega)]
  rfl
theorem get_set {s : DiskS} (hc : s.cach.length = s.last.length) {i : Nat} (hi : i < s.last.length) (l : List Int) (o w : Nat) (j : Nat) :
    DiskS.get { s with ops := o, cach := s.cach.set i (some l), writes := w } j = if j = i then l else s.get j := by
  unfold DiskS.get
  simp only [List.getElem?_set]
  by_cases h : i = j
  · subst h
    simp [hc, hi]
  · rw [if_neg h, if_neg (fun e => h e.symm)]
theorem NoFail.fails {s : DiskS} (h : s.NoFail) : s.fails = false := h _ (by omega)
theorem NoFail.tick {s : DiskS} (h : s.NoFail) : s.tick.NoFail := fun m hm => h m (by have e : s.tick.ops = s.ops + 1 := rfl; omega)
/-- what stays of a disk on which a sector was written -/
structure Wrote (s s' : DiskS) (n : Nat) : Prop where
  size : s'.size = s.size
  last : s'.last = s.last
  cach : s'.cach.length = s.cach.length
  plan : s'.plan = s.plan
  ops : s'.ops = s.ops + n
  marks : s'.marks = s.marks
theorem Wrote.refl (s : DiskS) : Wrote s s 0 := ⟨rfl, rfl, rfl, rfl, rfl, rfl⟩
theorem Wrote.trans {s t u : DiskS} {n m : Nat} (h : Wrote s t n) (k : Wrote t u m) : Wrote s u (n + m) :=
  ⟨k.size.trans h.size, k.last.trans h.last, k.cach.trans h.cach, k.plan.trans h.plan, by rw [k.ops, h.ops]; omega, k.marks.trans h.marks⟩
theorem Wrote.nofail {s t : DiskS} {n : Nat} (h : Wrote s t n) (k : s.NoFail) : t.NoFail := fun m hm => by rw [h.plan]; exact k m (by have := h.ops; omega)
theorem write_wrote (s : DiskS) (i : Int) (l : List Int) : Wrote s (s.write i l).1 1 := by
  unfold DiskS.write
  split
  · exact ⟨rfl, rfl, rfl, rfl, rfl, rfl⟩
  split
  · exact ⟨rfl, rfl, rfl, rfl, rfl, rfl⟩
  split
  · exact ⟨rfl, rfl, rfl, rfl, rfl, rfl⟩
  split
  · exact ⟨rfl, rfl, rfl, rfl, rfl, rfl⟩
  · exact ⟨rfl, rfl, by simp [DiskS.tick], rfl, rfl, rfl⟩
theorem writesM_wrote (s : DiskS) (at' : Nat) (xs : List (List Int)) : ∃ n, n ≤ xs.length ∧ Wrote s (writesM s at' xs).1 n := by
  induction xs generalizing s at' with
  | nil => exact ⟨0, Nat.le_refl _, Wrote.refl s⟩
  | cons x xs ih =>
    rw [writesM]
    split
    · exact ⟨1, by simp, write_wrote s _ x⟩
    · obtain ⟨n, hn, h⟩ := ih (s.write (at' : Int) x).1 (at' + 1)
      exact ⟨1 + n, by simp; omega, (write_wrote s _ x).trans h⟩
theorem writesM_ok {s : DiskS} (hn : s.NoFail) (hc : s.cach.length = s.last.length) (at' : Nat) (xs : List (List Int)) (hx : ∀ x, x ∈ xs → x.length = s.size) (ha : at' + xs.length ≤ s.last.length) :
    (writesM s at' xs).2 = 0 ∧ Wrote s (writesM s at' xs).1 xs.length ∧ ∀ j, (writesM s at' xs).1.get j = if at' ≤ j ∧ j < at' + xs.length then xs[j - at']?.getD [] else s.get j := by
  induction xs generalizing s at' with
  | nil =>
    refine ⟨rfl, Wrote.refl s, fun j => ?_⟩
    rw [if_neg (by simp)]
    try rfl
  | cons x xs ih =>
    simp only [List.length_cons] at ha
    have hw := write_ok (NoFail.fails hn) (show at' < s.last.length by omega) (hx x (by simp))
    have hwr := write_wrote s (at' : Int) x
    rw [writesM, hw]
    rw [hw] at hwr
    simp only [ne_eq, not_true_eq_false, if_false]
    have ih' := ih (s := { s.tick with cach := s.cach.set at' (some x), writes := s.writes + 1 }) (hwr.nofail hn) (by show (s.cach.set at' (some x)).length = s.last.length; simpa using hc) (at' + 1) (fun y hy => hx y (by simp [hy])) (by show at' + 1 + xs.length ≤ s.last.length; omega)
    refine ⟨ih'.1, ?_, fun j => ?_⟩
    · have := hwr.trans ih'.2.1
      have e : (x :: xs).length = 1 + xs.length := by rw [List.length_cons]; omega
      rw [e]
      exact this
    · rw [ih'.2.2 j]
      have hg := get_set hc (show at' < s.last.length by omega) x (s.ops + 1) (s.writes + 1) j
      rw [List.length_cons]
      by_cases hj : at' + 1 ≤ j ∧ j < at' + 1 + xs.length
      · rw [if_pos hj, if_pos (by omega)]
        obtain ⟨d, rfl⟩ : ∃ d, j = at' + 1 + d := ⟨j - (at' + 1), by omega⟩
        rw [Nat.add_sub_cancel_left, show at' + 1 + d - at' = d + 1 by omega, List.getElem?_cons_succ]
      · rw [if_neg hj]
        refine hg.trans ?_
        by_cases he : j = at'
        · subst he
          rw [if_pos rfl, if_pos (by omega)]
          simp
        · rw [if_neg he, if_neg (by omega)]
def _root_.Go.Proofs.YtcikhnkehglkgaaGreatDoorLib.DiskS.ticks (s : DiskS) (n : Nat) : DiskS := { s with ops := s.ops + n }
theorem readsM_ok {s : DiskS} (hn : s.NoFail) (at' n : Nat) (ha : at' + n ≤ s.last.length) :
    readsM s at' n = (s.ticks n, (List.range n).map (fun i => s.get (at' + i)), 0) := by
  induction n generalizing s at' with
  | zero => rfl
  | succ n ih =>
    rw [readsM, read_ok (NoFail.fails hn) (show at' < s.last.length by omega)]
    simp only [ne_eq, not_true_eq_false, if_false]
    have ih' := ih (s := s.tick) (NoFail.tick hn) (at' + 1) (by show at' + 1 + n ≤ s.last.length; omega)
    rw [ih']
    have e1 : s.tick.ticks n = s.ticks (n + 1) := by
      unfold DiskS.ticks DiskS.tick
      simp only [DiskS.mk.injEq, true_and, and_true]
      omega
    rw [e1, List.range_succ_eq_map, List.map_cons, List.map_map]
    congr 2
    simp only [List.cons.injEq, Nat.add_zero, true_and]
    apply List.map_congr_left
    intro i _
    show s.get (at' + 1 + i) = s.get (at' + (i + 1))
    congr 1
    omega
/-! a head's sector -/
theorem drop_take_mid (a b c : List Int) (n m : Nat) (hn : a.length = n) (hm : b.length = m) : ((a ++ (b ++ c)).drop n).take m = b := by
  subst hn; subst hm
  rw [List.drop_left, List.take_left]
theorem encX (e f s len seq sum : Int) (p : List Int) : encL e f s len seq sum ++ p = [75, 69, 69, 80, 1, e, f, s] ++ (layM len 4 ++ (layM seq 8 ++ (layM sum 4 ++ (layM (sumM (encB e f s len seq sum)) 4 ++ p)))) := by
  simp [encL, encB, List.append_assoc]
theorem dec_enc {e f s len seq sum : Int} (hr : gRight e f s = true) (hl : len = gTotal e f s) (q0 : 0 ≤ seq) (q1 : seq ≤ 18446744073709551615) (u0 : 0 ≤ sum) (u1 : sum ≤ 4294967295) (p : List Int) :
    decWhy (encL e f s len seq sum ++ p) = 0 ∧ hd (encL e f s len seq sum ++ p) 5 = e ∧ hd (encL e f s len seq sum ++ p) 6 = f ∧ hd (encL e f s len seq sum ++ p) 7 = s ∧ decN (encL e f s len seq sum ++ p) 12 8 = seq ∧ decN (encL e f s len seq sum ++ p) 20 4 = sum := by
  have hsb := sumM_u32 (encB e f s len seq sum)
  have h24 : (encL e f s len seq sum ++ p).take 24 = encB e f s len seq sum := by
    rw [encL, List.append_assoc, List.take_append_of_le_length (by rw [encB_len]; omega), List.take_of_length_le (by rw [encB_len]; omega)]
  have p4 : (256 : Int) ^ 4 = 4294967296 := by decide
  have p8 : (256 : Int) ^ 8 = 18446744073709551616 := by decide
  have hl0 : 0 ≤ len ∧ len < 256 ^ 4 := by have := gTotal_le e f s; rw [p4]; omega
  have n8 : decN (encL e f s len seq sum ++ p) 8 4 = len := by
    unfold decN
    rw [encX, drop_take_mid _ _ _ 8 4 rfl (layM_len _ _)]
    exact take_lay _ _ hl0.1 hl0.2
  have n12 : decN (encL e f s len seq sum ++ p) 12 8 = seq := by
    unfold decN
    rw [encX, ← List.append_assoc, drop_take_mid _ _ _ 12 8 (by simp [layM_len]) (layM_len _ _)]
    exact take_lay _ _ q0 (by rw [p8]; omega)
  have n20 : decN (encL e f s len seq sum ++ p) 20 4 = sum := by
    unfold decN
    rw [encX, ← List.append_assoc, ← List.append_assoc, drop_take_mid _ _ _ 20 4 (by simp [layM_len]) (layM_len _ _)]
    exact take_lay _ _ u0 (by rw [p4]; omega)
  have n24 : decN (encL e f s len seq sum ++ p) 24 4 = sumM (encB e f s len seq sum) := by
    unfold decN
    rw [encX, ← List.append_assoc, ← List.append_assoc, ← List.append_assoc, drop_take_mid _ _ _ 24 4 (by simp [layM_len]) (layM_len _ _)]
    exact take_lay _ _ hsb.1 (by rw [p4]; omega)
  have h5 : hd (encL e f s len seq sum ++ p) 5 = e := by unfold hd; rw [encX]; rfl
  have h6 : hd (encL e f s len seq sum ++ p) 6 = f := by unfold hd; rw [encX]; rfl
  have h7 : hd (encL e f s len seq sum ++ p) 7 = s := by unfold hd; rw [encX]; rfl
  have h4 : hd (encL e f s len seq sum ++ p) 4 = 1 := by unfold hd; rw [encX]; rfl
  have hm : (encL e f s len seq sum ++ p).take 4 = [75, 69, 69, 80] := by rw [encX]; rfl
  have hlen : ¬ (encL e f s len seq sum ++ p).length < 28 := by rw [List.length_append, encL_len]; omega
  refine ⟨?_, h5, h6, h7, n12, n20⟩
  unfold decWhy
  rw [if_neg hlen, if_neg (by rw [hm]; simp), if_neg (by rw [h4]; simp), if_neg (by rw [h24, n24]; simp), if_neg]
  unfold decOk
  rw [h5, h6, h7, n8, hr, decide_eq_true hl]
  simp
/-- no head -/
theorem dec_zero (n : Nat) (h : 28 ≤ n) : decWhy (List.replicate n 0) = 6 := by
  unfold decWhy
  rw [if_neg (by rw [List.length_replicate]; omega), if_pos]
  rw [List.take_replicate, Nat.min_eq_left (by omega)]
  decide
/-! an image's sectors -/
theorem chop_flat (size : Nat) (b : List Int) (n : Nat) (h : n * size = b.length) : (chop size b n).flatten = b := chop_flatten size b n h
theorem imgL_flat (l : List Int) (size : Nat) (h : 1 ≤ size) : (imgL l size).flatten = padL l (secs l.length size * size) :=
  chop_flatten _ _ _ (padL_len _ _ (secs_fits _ _ h)).symm
theorem imgL_take (l : List Int) (size : Nat) (h : 1 ≤ size) : (imgL l size).flatten.take l.length = l := by
  rw [imgL_flat l size h]
  unfold padL
  rw [List.take_append_of_le_length (Nat.le_refl _), List.take_of_length_le (Nat.le_refl _)]
theorem imgL_sec (l : List Int) (size : Nat) (h : 1 ≤ size) (hB : Bts l) : ∀ x, x ∈ imgL l size → Sec size x :=
  chop_sec size _ _ (by rw [padL_len _ _ (secs_fits _ _ h)]; omega) (padL_bts hB _)
theorem range_get (xs : List (List Int)) : (List.range xs.length).map (fun i => xs[i]?.getD []) = xs := by
  apply List.ext_getElem?
  intro i
  rw [List.getElem?_map]
  by_cases h : i < xs.length
  · rw [List.getElem?_range h, Option.map_some, List.getElem?_eq_getElem h]; rfl
  · rw [List.getElem?_eq_none (by simpa using h), List.getElem?_eq_none (by omega)]; rfl
theorem spanN_eq {size : Nat} {e f g : Int} (h1 : gRight e f g = true) (h2 : 32 ≤ size) (h3 : size ≤ 4096) : spanN size e f g = 1 + secs (gTotal e f g) size := by
  unfold spanN; rw [if_pos ⟨h1, by omega, by omega⟩]; rfl
/-- what stands sealed is read -/
theorem read_good {s : DiskS} (hn : s.NoFail) (hs2 : s.size ≤ 4096) {which e f g : Int} (hw : atWhy s which e f g = 0) {l : List Int} (hl : l.length = gTotal e f g) {seq : Int} (q0 : 0 ≤ seq) (q1 : seq ≤ 18446744073709551615)
    (hh : s.get (which.toNat * spanN s.size e f g) = padL (encL e f g l.length seq (sumM l)) s.size) (hi : ∀ i, i < secs l.length s.size → s.get (which.toNat * spanN s.size e f g + 1 + i) = (imgL l s.size)[i]?.getD []) :
    readM s which e f g = (s.ticks (spanN s.size e f g), ⟨2, 0, seq, l⟩, 0) := by
  obtain ⟨hr, ⟨wh0, wh1⟩, hsz, hrm⟩ := atWhy_yes hw
  have hsp := spanN_eq hr hsz hs2
  have hwh : which.toNat * spanN s.size e f g + spanN s.size e f g ≤ s.last.length := by
    have h1 : (which.toNat + 1) * spanN s.size e f g ≤ 2 * spanN s.size e f g := Nat.mul_le_mul_right _ (by omega)
    rw [Nat.succ_mul] at h1
    omega
  have hsu := sumM_u32 l
  have hde := dec_enc hr (show (l.length : Int) = gTotal e f g by rw [hl]) q0 q1 hsu.1 hsu.2 (List.replicate (s.size - (encL e f g l.length seq (sumM l)).length) 0)
  have hrd := read_ok (NoFail.fails hn) (show which.toNat * spanN s.size e f g < s.last.length by omega)
  have hrs := readsM_ok (s := s.tick) (NoFail.tick hn) (which.toNat * spanN s.size e f g + 1) (spanN s.size e f g - 1) (by show _ ≤ s.last.length; omega)
  have hmap : (List.range (spanN s.size e f g - 1)).map (fun i => s.tick.get (which.toNat * spanN s.size e f g + 1 + i)) = imgL l s.size := by
    have e2 : spanN s.size e f g - 1 = secs l.length s.size := by rw [hsp, hl]; omega
    rw [e2]
    conv => rhs; rw [← range_get (imgL l s.size)]
    rw [imgL_len]
    apply List.map_congr_left
    intro i hir
    exact hi i (List.mem_range.1 hir)
  rw [hmap] at hrs
  have htk : s.tick.ticks (spanN s.size e f g - 1) = s.ticks (spanN s.size e f g) := by
    unfold DiskS.ticks DiskS.tick
    simp only [DiskS.mk.injEq, true_and, and_true]
    omega
  have h32 : 1 ≤ s.size := by omega
  unfold readM
  rw [if_neg (by simp [hw]), hrd, hh, hrs]
  unfold padL
  rw [if_neg (by simp), if_neg (by rw [hde.1]; simp), if_neg (by rw [hde.2.1, hde.2.2.1, hde.2.2.2.1]; simp), if_neg (by simp), if_neg]
  · rw [hde.2.2.2.2.1, ← hl, imgL_take l s.size h32, htk]
  · rw [← hl, imgL_take l s.size h32, hde.2.2.2.2.2]
    simp
end Go.Proofs.YtcikhnkehglkgaaGreatDoor
namespace Go.Proofs.YtcikhnkehglkgaaGreatDoor
open Go.RowKit Go.Proofs.YtcikhnkehglkgaaGreatDoorLib
set_option linter.unusedSimpArgs false
set_option linter.unusedVariables false

theorem atWhy_wrote {s t : DiskS} {n : Nat} (h : Wrote s t n) (which e f g : Int) : atWhy t which e f g = atWhy s which e f g := by
  unfold atWhy; rw [h.size, h.last]
/-- a slot's first sector -/
def slotAt (s : DiskS) (which e f g : Int) : Nat := which.toNat * spanN s.size e f g
theorem slotAt_wrote {s t : DiskS} {n : Nat} (h : Wrote s t n) (which e f g : Int) : slotAt t which e f g = slotAt s which e f g := by
  unfold slotAt; rw [h.size]
theorem slot_fits {s : DiskS} {which e f g : Int} (hw : atWhy s which e f g = 0) : slotAt s which e f g + spanN s.size e f g ≤ s.last.length := by
  obtain ⟨hr, ⟨wh0, wh1⟩, hsz, hrm⟩ := atWhy_yes hw
  unfold slotAt
  have h1 : (which.toNat + 1) * spanN s.size e f g ≤ 2 * spanN s.size e f g := Nat.mul_le_mul_right _ (by omega)
  rw [Nat.succ_mul] at h1
  omega
theorem slot_span {s : DiskS} (hs2 : s.size ≤ 4096) {which e f g : Int} (hw : atWhy s which e f g = 0) : spanN s.size e f g = 1 + secs (gTotal e f g) s.size :=
  spanN_eq (atWhy_yes hw).1 (atWhy_yes hw).2.2.1 hs2
/-- behind Data -/
theorem laid_law {s : DiskS} (hn : s.NoFail) (hc : s.cach.length = s.last.length) (hs2 : s.size ≤ 4096) {which e f g : Int} (hw : atWhy s which e f g = 0) {l : List Int} (hl : l.length = gTotal e f g) (hB : Bts l) :
    (writesM s (slotAt s which e f g + 1) (imgL l s.size)).2 = 0 ∧ Wrote s (writesM s (slotAt s which e f g + 1) (imgL l s.size)).1 (secs l.length s.size) ∧
    ∀ j, (writesM s (slotAt s which e f g + 1) (imgL l s.size)).1.get j = if slotAt s which e f g + 1 ≤ j ∧ j < slotAt s which e f g + spanN s.size e f g then (imgL l s.size)[j - (slotAt s which e f g + 1)]?.getD [] else s.get j := by
  have h32 := (atWhy_yes hw).2.2.1
  have hsp := slot_span hs2 hw
  have hf := slot_fits hw
  have hlen := imgL_len l s.size
  have h := writesM_ok hn hc (slotAt s which e f g + 1) (imgL l s.size) (fun x hx => (imgL_sec l s.size (by omega) hB x hx).1) (by rw [hlen, hl]; omega)
  rw [hlen] at h
  refine ⟨h.1, h.2.1, fun j => ?_⟩
  rw [h.2.2 j]
  have e1 : slotAt s which e f g + 1 + secs l.length s.size = slotAt s which e f g + spanN s.size e f g := by rw [hsp, hl]; omega
  rw [e1]
/-- one sector written -/
theorem put_law {s : DiskS} (hn : s.NoFail) (hc : s.cach.length = s.last.length) {i : Nat} (hi : i < s.last.length) {l : List Int} (hl : l.length = s.size) :
    (s.write (i : Int) l).2 = 0 ∧ Wrote s (s.write (i : Int) l).1 1 ∧ ∀ j, (s.write (i : Int) l).1.get j = if j = i then l else s.get j := by
  refine ⟨by rw [write_ok (NoFail.fails hn) hi hl], write_wrote s _ l, fun j => ?_⟩
  rw [write_ok (NoFail.fails hn) hi hl]
  exact get_set hc hi l (s.ops + 1) (s.writes + 1) j
/-- a head that is none -/
theorem read_bad {s : DiskS} (hn : s.NoFail) (hs2 : s.size ≤ 4096) {which e f g : Int} (hw : atWhy s which e f g = 0) (hh : s.get (slotAt s which e f g) = List.replicate s.size 0) : readM s which e f g = (s.tick, ⟨0, 6, 0, []⟩, 0) := by
  have hf := slot_fits hw
  have h32 := (atWhy_yes hw).2.2.1
  have hlt : slotAt s which e f g < s.last.length := by have := slot_span hs2 hw; omega
  have hrd := read_ok (NoFail.fails hn) hlt
  unfold slotAt at hrd hh
  unfold readM
  rw [if_neg (by simp [hw]), hrd, hh, if_neg (by simp), if_pos (by rw [dec_zero _ (by omega)]; simp), dec_zero _ (by omega)]
end Go.Proofs.YtcikhnkehglkgaaGreatDoor
