/- PROVED: the plain law of SlotApart. No conditions beyond those that each theorem states. -/
import Derived.Test.YtlglbgemmljmlaaDoorSlV
namespace Go.Proofs.YtlglbgemmljmlaaDoor
open Go.RowKit Go.Proofs.YtlglbgemmljmlaaDoorLib
set_option linter.unusedSimpArgs false
set_option linter.unusedVariables false

/-- what slot one has stays: of size m, with len sectors; from a to b -/
structure Held (y s : DiskS) (a b : Nat) : Prop where
  size : s.size = y.size
  len : s.last.length = y.last.length
  cl : s.cach.length = s.last.length
  got : ∀ i, a ≤ i → i < b → s.get i = y.get i
  unc : ∀ i, a ≤ i → i < b → s.cach[i]?.join = none
theorem Held.write {y s : DiskS} {a b : Nat} (h : Held y s a b) (j : Nat) (l : List Int) (hj : j < a ∨ b ≤ j) : Held y (s.write (j : Int) l).1 a b := by
  have ht : Held y s.tick a b := ⟨h.size, h.len, h.cl, h.got, h.unc⟩
  unfold DiskS.write
  split
  · exact ht
  split
  · exact ht
  split
  · exact ht
  split
  · exact ht
  · rename_i h1 h2 h3 h4
    have hjl : j < s.last.length := by omega
    refine ⟨h.size, h.len, by show (s.cach.set j (some l)).length = _; rw [List.length_set]; exact h.cl, fun i h5 h6 => ?_, fun i h5 h6 => ?_⟩
    · have := get_set h.cl hjl l (s.ops + 1) (s.writes + 1) i
      rw [if_neg (by omega), h.got i h5 h6] at this
      exact this
    · show (s.cach.set j (some l))[i]?.join = none
      rw [List.getElem?_set, if_neg (by omega)]
      exact h.unc i h5 h6
theorem Held.writes {y s : DiskS} {a b : Nat} (h : Held y s a b) (j : Nat) (xs : List (List Int)) (hj : j + xs.length ≤ a ∨ b ≤ j) : Held y (writesM s j xs).1 a b := by
  induction xs generalizing s j with
  | nil => exact h
  | cons x xs ih =>
    rw [writesM]
    simp only [List.length_cons] at hj
    have h1 := h.write j x (by omega)
    split
    · exact h1
    · exact ih h1 (j + 1) (by omega)
theorem write_plan (s : DiskS) (i : Int) (l : List Int) : (s.write i l).1.plan = s.plan := (write_wrote s i l).plan
theorem writesM_plan (s : DiskS) (j : Nat) (xs : List (List Int)) : (writesM s j xs).1.plan = s.plan ∧ (writesM s j xs).1.ops ≤ s.ops + xs.length := by
  obtain ⟨n, hn, h⟩ := writesM_wrote s j xs
  exact ⟨h.plan, by rw [h.ops]; omega⟩
theorem Held.crash {y s : DiskS} {a b : Nat} (h : Held y s a b) (ts : List (Int × List Int)) : Held y (s.crash ts) a b := by
  have hg := get_swept s h.cl (fun k => ts[k]?.getD oldT)
  refine ⟨h.size, ?_, ?_, fun i h1 h2 => ?_, fun i h1 h2 => ?_⟩
  · show (partLast s.last s.cach (fun k => ts[k]?.getD oldT) s.last.length).length = _
    rw [length_partLast]; exact h.len
  · show (partCach s.cach s.last.length).length = (partLast s.last s.cach (fun k => ts[k]?.getD oldT) s.last.length).length
    rw [length_partLast, length_partCach]; exact h.cl
  · refine (hg i).trans ?_
    rw [h.unc i h1 h2, ← h.got i h1 h2]
    unfold DiskS.get
    rw [h.unc i h1 h2]
  · show (partCach s.cach s.last.length)[i]?.join = none
    rw [partCach_get]
    have := h.unc i h1 h2
    cases hc : s.cach[i]? with
    | none => rfl
    | some o =>
      rw [hc] at this
      simp only [Option.map_some, Option.join, Option.bind_some, id] at this ⊢
      rw [this]
      simp
/-- of the operations to come one alone fails -/
def Once (s : DiskS) (F : Nat) : Prop := ∀ n : Nat, s.plan (n : Int) = decide (n = F)
theorem once_fails {s : DiskS} {F : Nat} (h : Once s F) : s.fails = decide (s.ops + 1 = F) := by
  have := h (s.ops + 1)
  unfold DiskS.fails
  rw [show ((s.ops : Int) + 1) = ((s.ops + 1 : Nat) : Int) by simp, this]
theorem readsM_once {s : DiskS} {F : Nat} (hn : Once s F) (at' n : Nat) (ha : at' + n ≤ s.last.length) :
    (readsM s at' n = (s.ticks n, (List.range n).map (fun i => s.get (at' + i)), 0)) ∨ (∃ k, k ≤ n ∧ (readsM s at' n).1 = s.ticks k ∧ F ≤ s.ops + k ∧ (readsM s at' n).2.2 = 3 ∧ s.ops < F) := by
  induction n generalizing s at' with
  | zero => exact .inl rfl
  | succ n ih =>
    rw [readsM]
    by_cases hf : s.ops + 1 = F
    · right
      have hfl : s.fails = true := by rw [once_fails hn, decide_eq_true hf]
      have hr : s.read (at' : Int) = ([], 3) := by unfold DiskS.read; rw [if_pos hfl]
      rw [hr, if_pos (by decide)]
      exact ⟨1, by omega, rfl, by omega, rfl, by omega⟩
    · have hfl : s.fails = false := by rw [once_fails hn, decide_eq_false hf]
      rw [read_ok hfl (show at' < s.last.length by omega)]
      simp only [ne_eq, not_true_eq_false, if_false]
      rcases ih (s := s.tick) hn (at' + 1) (by show at' + 1 + n ≤ s.last.length; omega) with h | ⟨k, h1, h2, h3, h4, h5⟩
      · left
        rw [h]
        have e1 : s.tick.ticks n = s.ticks (n + 1) := by
          unfold DiskS.ticks DiskS.tick
          simp only [DiskS.mk.injEq, true_and, and_true]
          omega
        rw [e1, List.range_succ_eq_map, List.map_cons, List.map_map]
        congr 2
        simp only [List.cons.injEq, Nat.add_zero, true_and]
        apply List.map_congr_left
        intro i _
        show s.get (at' + 1 + i) = s.get (at' + (i + 1))
        congr 1
        omega
      · right
        refine ⟨k + 1, by omega, ?_, ?_, h4, ?_⟩
        · rw [h2]
          unfold DiskS.ticks DiskS.tick
          simp only [DiskS.mk.injEq, true_and, and_true]
          omega
        · have h3' : F ≤ s.ops + 1 + k := h3; omega
        · have h5' : s.ops + 1 < F := h5; omega
/-- what stands sealed is read, or the disk fails -/
theorem read_once {s : DiskS} {F : Nat} (hn : Once s F) (hs2 : s.size ≤ 4096) {which e f g : Int} (hw : atWhy s which e f g = 0) {l : List Int} (hl : l.length = gTotal e f g) {seq : Int} (q0 : 0 ≤ seq) (q1 : seq ≤ 18446744073709551615)
    (h : Sealed s which e f g seq l) :
    (∃ k, readM s which e f g = (s.ticks k, ⟨2, 0, seq, l⟩, 0)) ∨ (∃ k, k ≤ spanN s.size e f g ∧ readM s which e f g = (s.ticks k, ⟨0, 0, 0, []⟩, 3) ∧ F ≤ s.ops + k ∧ s.ops < F) := by
  obtain ⟨hr, ⟨wh0, wh1⟩, hsz, hrm⟩ := atWhy_yes hw
  have hsp := spanN_eq hr hsz hs2
  have hwh := slot_fits hw
  have hh := h.head
  have hi := h.body
  unfold slotAt at hh hi hwh
  have hsu := sumM_u32 l
  have hde := dec_enc hr (show (l.length : Int) = gTotal e f g by rw [hl]) q0 q1 hsu.1 hsu.2 (List.replicate (s.size - (encL e f g l.length seq (sumM l)).length) 0)
  have h32 : 1 ≤ s.size := by omega
  by_cases hf : s.ops + 1 = F
  · right
    have hfl : s.fails = true := by rw [once_fails hn, decide_eq_true hf]
    have hrd : s.read ((which.toNat * spanN s.size e f g : Nat) : Int) = ([], 3) := by unfold DiskS.read; rw [if_pos hfl]
    refine ⟨1, by omega, ?_, by omega, by omega⟩
    unfold readM
    rw [if_neg (by simp [hw]), hrd, if_pos (by decide)]
    rfl
  · have hfl : s.fails = false := by rw [once_fails hn, decide_eq_false hf]
    have hrd := read_ok hfl (show which.toNat * spanN s.size e f g < s.last.length by omega)
    have hmap : (List.range (spanN s.size e f g - 1)).map (fun i => s.tick.get (which.toNat * spanN s.size e f g + 1 + i)) = imgL l s.size := by
      have e2 : spanN s.size e f g - 1 = secs l.length s.size := by rw [hsp, hl]; omega
      rw [e2]
      conv => rhs; rw [← range_get (imgL l s.size)]
      rw [imgL_len]
      apply List.map_congr_left
      intro i hir
      exact hi i (List.mem_range.1 hir)
    rcases readsM_once (s := s.tick) (F := F) hn (which.toNat * spanN s.size e f g + 1) (spanN s.size e f g - 1) (by show _ ≤ s.last.length; omega) with hrs | ⟨k, h1, h2, h3, h4, h5⟩
    · left
      rw [hmap] at hrs
      refine ⟨spanN s.size e f g, ?_⟩
      have htk : s.tick.ticks (spanN s.size e f g - 1) = s.ticks (spanN s.size e f g) := by
        unfold DiskS.ticks DiskS.tick
        simp only [DiskS.mk.injEq, true_and, and_true]
        omega
      unfold readM
      rw [if_neg (by simp [hw]), hrd, hh, hrs]
      unfold padL
      rw [if_neg (by simp), if_neg (by rw [hde.1]; simp), if_neg (by rw [hde.2.1, hde.2.2.1, hde.2.2.2.1]; simp), if_neg (by simp), if_neg]
      · rw [hde.2.2.2.2.1, ← hl, imgL_take l s.size h32, htk]
      · rw [← hl, imgL_take l s.size h32, hde.2.2.2.2.2]
        simp
    · right
      have h3' : F ≤ s.ops + 1 + k := h3
      have h5' : s.ops + 1 < F := h5
      refine ⟨k + 1, by omega, ?_, by omega, by omega⟩
      have htk : s.tick.ticks k = s.ticks (k + 1) := by
        unfold DiskS.ticks DiskS.tick
        simp only [DiskS.mk.injEq, true_and, and_true]
        omega
      unfold readM
      rw [if_neg (by simp [hw]), hrd, hh]
      unfold padL
      rw [if_neg (by simp), if_neg (by rw [hde.1]; simp), if_neg (by rw [hde.2.1, hde.2.2.1, hde.2.2.2.1]; simp), if_pos (by rw [h4]; decide), h4, h2, htk]
      rfl
/-- SlotApart -/
theorem apart_law {m : Nat} {one two e f g : Int} (hm : 32 ≤ m ∧ m ≤ 4096) (hr : gRight e f g = true) (hot : (one = 0 ∧ two = 1) ∨ (one = 1 ∧ two = 0)) {l c : List Int} (hl : l.length = gTotal e f g) (hc' : c.length = gTotal e f g) (hB : Bts l) (ts : List (Int × List Int)) (fail : Nat) :
    ∃ d1 s2 y D S W : DiskS, ∃ rd rs rw' : Int, dataM (DiskS.new (2 * spanN m e f g) m) one e f g l = (d1, 0) ∧ sealM d1 one e f g 5 l = (s2, 0) ∧ s2.sync = (y, 0) ∧
      dataM (y.fail ((y.ops : Int) + 1 + fail)) two e f g c = (D, rd) ∧ sealM D two e f g 6 c = (S, rs) ∧ wipeM S two e f g = (W, rw') ∧
      d1.ops ≤ 100001 ∧ s2.ops ≤ 100002 ∧ y.ops ≤ 100003 ∧ y.marks = 0 ∧ D.ops ≤ 200004 ∧ S.ops ≤ 200005 ∧ W.ops ≤ 200006 ∧ W.size = m ∧
      ((∃ k, readM (W.crash ts) one e f g = (k, ⟨2, 0, 5, l⟩, 0)) ∨ (∃ k1 k2, readM (W.crash ts) one e f g = (k1, ⟨0, 0, 0, []⟩, 3) ∧ k1.ops ≤ 300010 ∧ k1.size = m ∧ readM k1 one e f g = (k2, ⟨2, 0, 5, l⟩, 0))) := by
  have hn : (DiskS.new (2 * spanN m e f g) m).NoFail := fun _ => rfl
  have hc : (DiskS.new (2 * spanN m e f g) m).cach.length = (DiskS.new (2 * spanN m e f g) m).last.length := by simp [DiskS.new]
  have hll : (DiskS.new (2 * spanN m e f g) m).last.length = 2 * spanN m e f g := by simp [DiskS.new]
  have hsz : (DiskS.new (2 * spanN m e f g) m).size = m := rfl
  have hwh : ∀ which : Int, which = 0 ∨ which = 1 → atWhy (DiskS.new (2 * spanN m e f g) m) which e f g = 0 := fun which hwh => by
    unfold atWhy
    rw [hll, hsz, if_neg (by simp [hr]), if_neg (by omega), if_neg (by omega)]
  have hspb := spanN_le m e f g
  have hs2 : (DiskS.new (2 * spanN m e f g) m).size ≤ 4096 := hm.2
  have hw := hwh one (by omega)
  obtain ⟨h1, hk1, hg1, hrest⟩ := seal_law hn hc hs2 hw hl hB 5
  have hsp := slot_span hs2 hw
  rw [hsz] at hk1 hsp
  have hscb : secs l.length m ≤ 100001 := by rw [hl]; omega
  obtain ⟨p1, pk, pse, pg⟩ := hrest _ 0 (Kin.refl _) (fun j => rfl)
  have hk2 := hk1.trans pk
  have hmk : (dataM (DiskS.new (2 * spanN m e f g) m) one e f g l).1.marks = 0 := by
    unfold dataM
    rw [if_neg (by simp [hw]), if_neg (by simp [hl])]
    obtain ⟨_, _, h⟩ := writesM_wrote (DiskS.new (2 * spanN m e f g) m) (slotAt (DiskS.new (2 * spanN m e f g) m) one e f g + 1) (imgL l (DiskS.new (2 * spanN m e f g) m).size)
    exact h.marks
  generalize hd1 : dataM (DiskS.new (2 * spanN m e f g) m) one e f g l = D1 at *
  obtain ⟨d1, z1⟩ := D1
  simp only at h1 hk1 hg1 hrest p1 pk pse pg hk2 hmk
  subst h1
  have hmk2 : (sealM d1 one e f g 5 l).1.marks = 0 := by
    unfold sealM
    rw [if_neg (by simp [atWhy_kin hk1, hw]), if_neg (by simp [hl]), (write_wrote d1 _ _).marks, hmk]
  generalize hd2 : sealM d1 one e f g 5 l = D2 at *
  obtain ⟨s2, z2⟩ := D2
  simp only at p1 pk pse pg hk2 hmk2
  subst p1
  have hn2 := hk2.nofail hn
  have hc2 := hk2.cl hc
  have hf2 := NoFail.fails hn2
  have hsy := sync_kin hf2
  have hgy := get_sync hf2 hc2
  have huy : ∀ i : Nat, s2.sync.1.cach[i]?.join = none := by
    intro i
    unfold DiskS.sync
    rw [if_neg (by simp [hf2])]
    show (partCach s2.tick.cach s2.tick.last.length)[i]?.join = none
    rw [partCach_get]
    by_cases hi : i < s2.cach.length
    · rw [show s2.tick.cach[i]? = some (s2.cach[i]) from List.getElem?_eq_getElem hi]
      have : i < s2.tick.last.length := by show i < s2.last.length; omega
      simp [this]
    · rw [show s2.tick.cach[i]? = none from List.getElem?_eq_none (by show s2.cach.length ≤ i; omega)]
      rfl
  have hymk : s2.sync.1.marks = 0 := by unfold DiskS.sync; rw [if_neg (by simp [hf2])]; exact hmk2
  have hye : s2.sync = (s2.sync.1, 0) := Prod.ext rfl hsy.1
  generalize s2.sync.1 = y at *
  have hk3 := hk2.trans hsy.2
  have hsey : Sealed y one e f g 5 l := pse.kin hsy.2 (fun i _ _ => hgy i)
  have hyp : y.plan = fun _ => false := by rw [hk3.plan]; rfl
  obtain ⟨p, hp⟩ : ∃ p, p = y.fail ((y.ops : Int) + 1 + fail) := ⟨_, rfl⟩
  have hps : p.size = m := by rw [hp]; exact hk3.size
  have hpl : p.last.length = 2 * spanN m e f g := by rw [hp]; show y.last.length = _; rw [hk3.len, hll]
  have hpo : p.ops = y.ops := by rw [hp]; rfl
  have honce : ∀ s : DiskS, s.plan = p.plan → Once s (y.ops + 1 + fail) := by
    intro s hs n
    rw [hs, hp]
    show (y.plan n || ((n : Int) == (y.ops : Int) + 1 + fail)) = decide (n = y.ops + 1 + fail)
    rw [hyp]
    by_cases h : n = y.ops + 1 + fail
    · subst h; simp
    · rw [decide_eq_false h]; simp; omega
  have hsl1 : slotAt y one e f g = one.toNat * spanN m e f g := by unfold slotAt; rw [show y.size = m from hk3.size]
  have hH0 : Held y p (slotAt y one e f g) (slotAt y one e f g + spanN m e f g) := by
    refine ⟨by rw [hps]; exact hk3.size.symm, by rw [hpl, hk3.len, hll], ?_, fun i _ _ => ?_, fun i _ _ => ?_⟩
    · rw [hp]; exact hk3.cl hc
    · rw [hp]; rfl
    · rw [hp]; exact huy i
  have hwp : atWhy p two e f g = 0 := by
    unfold atWhy
    rw [hpl, hps, if_neg (by simp [hr]), if_neg (by omega), if_neg (by omega)]
  have hdp : dataM p two e f g c = writesM p (slotAt p two e f g + 1) (imgL c p.size) := by unfold dataM; rw [if_neg (by simp [hwp]), if_neg (by simp [hc'])]
  have hst2 : slotAt p two e f g = two.toNat * spanN m e f g := by unfold slotAt; rw [hps]
  have hlen2 : (imgL c p.size).length + 1 = spanN m e f g := by rw [imgL_len, hps, hsp, hc']; omega
  have hdis : two.toNat * spanN m e f g + spanN m e f g ≤ one.toNat * spanN m e f g ∨ one.toNat * spanN m e f g + spanN m e f g ≤ two.toNat * spanN m e f g := by
    rcases hot with ⟨rfl, rfl⟩ | ⟨rfl, rfl⟩
    · right; simp
    · left; simp
  have hHD := hH0.writes (slotAt p two e f g + 1) (imgL c p.size) (by rw [hst2, hsl1]; omega)
  have hpD := writesM_plan p (slotAt p two e f g + 1) (imgL c p.size)
  rw [← hdp] at hHD hpD
  generalize hDD : dataM p two e f g c = DD at *
  obtain ⟨D, rd⟩ := DD
  simp only at hHD hpD
  have step : ∀ s : DiskS, Held y s (slotAt y one e f g) (slotAt y one e f g + spanN m e f g) → s.plan = p.plan → ∀ X : List Int, Held y (s.write (slotAt s two e f g : Int) X).1 (slotAt y one e f g) (slotAt y one e f g + spanN m e f g) ∧ (s.write (slotAt s two e f g : Int) X).1.plan = p.plan := by
    intro s hs hpl X
    have e1 : slotAt s two e f g = two.toNat * spanN m e f g := by unfold slotAt; rw [hs.size, show y.size = m from hk3.size]
    refine ⟨hs.write _ X ?_, by rw [write_plan, hpl]⟩
    have hspos : 1 ≤ spanN m e f g := by omega
    rw [e1, hsl1]
    omega
  have why : ∀ s : DiskS, Held y s (slotAt y one e f g) (slotAt y one e f g + spanN m e f g) → ∀ which : Int, which = 0 ∨ which = 1 → atWhy s which e f g = 0 := by
    intro s hs which hx
    have h3 : s.last.length = 2 * spanN m e f g := by rw [hs.len, hk3.len, hll]
    have h4 : s.size = m := hs.size.trans hk3.size
    unfold atWhy
    rw [h3, h4, if_neg (by simp [hr]), if_neg (by omega), if_neg (by omega)]
  have hseD : sealM D two e f g 6 c = D.write (slotAt D two e f g : Int) (padL (encL e f g c.length 6 (sumM c)) D.size) := by unfold sealM; rw [if_neg (by simp [why D hHD two (by omega)]), if_neg (by simp [hc'])]
  have hS := step D hHD hpD.1 (padL (encL e f g c.length 6 (sumM c)) D.size)
  have hSo := (write_wrote D (slotAt D two e f g : Int) (padL (encL e f g c.length 6 (sumM c)) D.size)).ops
  rw [← hseD] at hS hSo
  generalize hSS : sealM D two e f g 6 c = SS at *
  obtain ⟨S, rs⟩ := SS
  simp only at hS hSo
  have hwpS : wipeM S two e f g = S.write (slotAt S two e f g : Int) (padL [] S.size) := by unfold wipeM; rw [if_neg (by simp [why S hS.1 two (by omega)])]
  have hW := step S hS.1 hS.2 (padL [] S.size)
  have hWo := (write_wrote S (slotAt S two e f g : Int) (padL [] S.size)).ops
  rw [← hwpS] at hW hWo
  generalize hWW : wipeM S two e f g = WW at *
  obtain ⟨W, rw'⟩ := WW
  simp only at hW hWo
  have hKH := hW.1.crash ts
  have hKp : (W.crash ts).plan = p.plan := hW.2
  have hKo : (W.crash ts).ops = W.ops := rfl
  have hKw := why _ hKH one (by omega)
  have hKs : (W.crash ts).size = m := hKH.size.trans hk3.size
  have hSeal : ∀ s : DiskS, Held y s (slotAt y one e f g) (slotAt y one e f g + spanN m e f g) → Sealed s one e f g 5 l := by
    intro s hs
    have h4 : s.size = y.size := hs.size
    have hsl : slotAt s one e f g = slotAt y one e f g := by unfold slotAt; rw [h4]
    have hspos : 1 ≤ spanN m e f g := by omega
    refine ⟨?_, fun i hi => ?_⟩
    · rw [hsl, hs.got _ (Nat.le_refl _) (by omega), h4]; exact hsey.head
    · rw [h4] at hi ⊢
      rw [hsl, hs.got _ (by omega) (by
        have h5 : y.size = m := hk3.size
        rw [h5, hl] at hi
        omega)]
      exact hsey.body i hi
  have hKS := hSeal _ hKH
  have o0 : (DiskS.new (2 * spanN m e f g) m).ops = 0 := rfl
  have oy : y.ops ≤ 100003 := by have := hk3.ops; omega
  have oD : D.ops ≤ 200004 := by have h := hpD.2; omega
  refine ⟨d1, s2, y, D, S, W, rd, rs, rw', rfl, hd2, hye, by rw [← hp]; exact hDD, hSS, hWW, by have := hk1.ops; omega, by have := hk2.ops; omega, oy, hymk, oD, by omega, by omega, hW.1.size.trans hk3.size, ?_⟩
  rcases read_once (honce _ hKp) (by rw [hKs]; exact hm.2) hKw hl (by decide) (by decide) hKS with ⟨k, h⟩ | ⟨k, hk, h, hF, hlt⟩
  · exact .inl ⟨_, h⟩
  · right
    have hH2 : Held y ((W.crash ts).ticks k) (slotAt y one e f g) (slotAt y one e f g + spanN m e f g) := ⟨hKH.size, hKH.len, hKH.cl, hKH.got, hKH.unc⟩
    rw [hKs] at hk
    rcases read_once (s := (W.crash ts).ticks k) (honce _ hKp) (by show (W.crash ts).size ≤ 4096; rw [hKs]; exact hm.2) (why _ hH2 one (by omega)) hl (by decide) (by decide) (hSeal _ hH2) with ⟨k2, h2⟩ | ⟨k2, _, _, _, hlt2⟩
    · exact ⟨_, _, h, by show (W.crash ts).ops + k ≤ _; rw [hKo]; omega, hKs, h2⟩
    · exfalso
      have h6 : (W.crash ts).ops + k < y.ops + 1 + fail := hlt2
      omega
end Go.Proofs.YtlglbgemmljmlaaDoor
