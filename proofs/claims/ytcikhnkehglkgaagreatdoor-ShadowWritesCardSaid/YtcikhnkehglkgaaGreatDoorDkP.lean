/- PROVED: plain lemmas on the sectors of a disk. No conditions beyond those that each theorem states. -/
import Derived.Test.YtcikhnkehglkgaaGreatDoorBy
namespace Go.Proofs.YtcikhnkehglkgaaGreatDoorLib
set_option linter.unusedSimpArgs false
set_option linter.unusedVariables false

/-- a disk: how many bytes a sector has, each sector's lasting bytes, its cached ones, which operations are to fail, how many there were, how many wrote -/
structure DiskS where
  size : Nat
  last : List (List Int)
  cach : List (Option (List Int))
  plan : Int → Bool
  ops : Nat
  writes : Nat
  marks : Nat
def Sec (size : Nat) (l : List Int) : Prop := l.length = size ∧ Bts l
structure DiskS.Ok (s : DiskS) : Prop where
  s1 : 1 ≤ s.size
  s2 : s.size ≤ 4096
  n1 : s.last.length ≤ 4096
  nc : s.cach.length = s.last.length
  ls : ∀ l, l ∈ s.last → Sec s.size l
  cs : ∀ l, some l ∈ s.cach → Sec s.size l
  op : s.ops ≤ 1000000000
  wr : s.writes ≤ s.ops
  ma : s.marks ≤ 1000000000
/-- what a crash leaves of a sector -/
def left (old next : List Int) (t : Int × List Int) : List Int :=
  if t.1 = 1 then next else if t.1 = 2 then (t.2 ++ List.replicate old.length 0).take old.length else old
/-- how many of the first sectors are cached -/
def idx (c : List (Option (List Int))) (i : Nat) : Nat := (c.take i).countP Option.isSome
def partLast (l : List (List Int)) (c : List (Option (List Int))) (g : Nat → Int × List Int) (B : Nat) : List (List Int) :=
  l.mapIdx fun i x => if i < B then (match c[i]?.join with | some y => left x y (g (idx c i)) | none => x) else x
def partCach (c : List (Option (List Int))) (B : Nat) : List (Option (List Int)) := c.mapIdx fun i o => if i < B then none else o
/-- what a crash, or a Sync, leaves when all sectors below B were looked at -/
def DiskS.part (s : DiskS) (g : Nat → Int × List Int) (B : Nat) : DiskS := { s with last := partLast s.last s.cach g B, cach := partCach s.cach B }
def DiskS.tick (s : DiskS) : DiskS := { s with ops := s.ops + 1 }
def DiskS.fails (s : DiskS) : Bool := s.plan ((s.ops : Int) + 1)
def DiskS.unsynced (s : DiskS) : List Int := ((List.range s.cach.length).filter fun i => (s.cach[i]?.join).isSome).map Int.ofNat
def DiskS.bytes (s : DiskS) : List Int := s.last.flatten
def DiskS.swept (s : DiskS) (g : Nat → Int × List Int) : DiskS := s.part g s.last.length
def DiskS.read (s : DiskS) (i : Int) : List Int × Int :=
  if s.fails = true then ([], 3) else if i < 0 ∨ (s.last.length : Int) ≤ i then ([], 2) else
  match s.cach[i.toNat]?.join with
  | some b => (b, 0)
  | none => (s.last[i.toNat]?.getD [], 0)
def DiskS.write (s : DiskS) (i : Int) (b : List Int) : DiskS × Int :=
  if s.fails = true then (s.tick, 3) else if i < 0 then (s.tick, 2) else if (s.last.length : Int) ≤ i then (s.tick, 4) else
  if b.length ≠ s.size then (s.tick, 1) else ({ s.tick with cach := s.cach.set i.toNat (some b), writes := s.writes + 1 }, 0)
def newT : Int × List Int := (1, [])
def oldT : Int × List Int := (0, [])
def DiskS.sync (s : DiskS) : DiskS × Int := if s.fails = true then (s.tick, 3) else (s.tick.swept fun _ => newT, 0)
def DiskS.crash (s : DiskS) (l : List (Int × List Int)) : DiskS := s.swept fun k => l[k]?.getD oldT
def DiskS.fail (s : DiskS) (n : Int) : DiskS := { s with plan := fun k => s.plan k || k == n, marks := s.marks + 1 }
/-- a disk with sectors -/
def chop (size : Nat) (b : List Int) : Nat → List (List Int)
  | 0 => []
  | n + 1 => b.take size :: chop size (b.drop size) n
def DiskS.open (size : Nat) (b : List Int) : DiskS := ⟨size, chop size b (b.length / size), List.replicate (b.length / size) none, fun _ => false, 0, 0, 0⟩

theorem length_chop (size : Nat) (b : List Int) (n : Nat) : (chop size b n).length = n := by
  induction n generalizing b with
  | zero => rfl
  | succ n ih => simp [chop, ih]
theorem chop_sec (size : Nat) (b : List Int) (n : Nat) (h : n * size ≤ b.length) (hb : Bts b) : ∀ l, l ∈ chop size b n → Sec size l := by
  induction n generalizing b with
  | zero => intro l hl; simp [chop] at hl
  | succ n ih =>
    intro l hl
    rw [Nat.succ_mul] at h
    rw [chop, List.mem_cons] at hl
    rcases hl with rfl | hl
    · exact ⟨by simp; omega, hb.take _⟩
    · exact ih (b.drop size) (by simp; omega) (hb.drop _) l hl
theorem chop_flatten (size : Nat) (b : List Int) (n : Nat) (h : n * size = b.length) : (chop size b n).flatten = b := by
  induction n generalizing b with
  | zero => simp at h; simp [chop, List.eq_nil_of_length_eq_zero h.symm]
  | succ n ih =>
    rw [Nat.succ_mul] at h
    rw [chop, List.flatten_cons, ih (b.drop size) (by simp; omega), List.take_append_drop]
theorem flatten_length {size : Nat} {l : List (List Int)} (h : ∀ x, x ∈ l → Sec size x) : l.flatten.length = l.length * size := by
  induction l with
  | nil => simp
  | cons a l ih => rw [List.flatten_cons, List.length_append, ih (fun x hx => h x (by simp [hx])), (h a (by simp)).1, List.length_cons, Nat.succ_mul]; omega
theorem flatten_bts {size : Nat} {l : List (List Int)} (h : ∀ x, x ∈ l → Sec size x) : Bts l.flatten := by
  intro x hx
  obtain ⟨a, ha, hx⟩ := List.mem_flatten.1 hx
  exact (h a ha).2 x hx
theorem DiskS.Ok.bytes_len {s : DiskS} (h : s.Ok) : s.bytes.length = s.last.length * s.size := flatten_length h.ls
theorem DiskS.Ok.bytes_bts {s : DiskS} (h : s.Ok) : Bts s.bytes := flatten_bts h.ls
/-- a sector of the bytes -/
theorem flatten_part {size : Nat} {l : List (List Int)} (h : ∀ x, x ∈ l → Sec size x) (i : Nat) (hi : i < l.length) : (l.flatten.drop (i * size)).take size = l[i] := by
  induction l generalizing i with
  | nil => simp at hi
  | cons a l ih =>
    have ha := (h a (by simp)).1
    cases i with
    | zero => simp [← ha]
    | succ i =>
      have e : (i + 1) * size = a.length + i * size := by rw [Nat.succ_mul, ha]; omega
      rw [List.flatten_cons, e, ← List.drop_drop, List.drop_left, List.getElem_cons_succ]
      exact ih (fun x hx => h x (by simp [hx])) i (by simpa using hi)
/-- a sector of the bytes, laid anew -/
theorem flatten_set {size : Nat} {l : List (List Int)} (h : ∀ x, x ∈ l → Sec size x) (i : Nat) (hi : i < l.length) (c : List Int) (hc : c.length = size) : splice l.flatten (i * size) c = (l.set i c).flatten := by
  induction l generalizing i with
  | nil => simp at hi
  | cons a l ih =>
    have ha := (h a (by simp)).1
    cases i with
    | zero => simp [splice, hc, ← ha]
    | succ i =>
      have e : (i + 1) * size = a.length + i * size := by rw [Nat.succ_mul, ha]; omega
      have := ih (fun x hx => h x (by simp [hx])) i (by simpa using hi)
      rw [List.set_cons_succ, List.flatten_cons, List.flatten_cons, ← this, e]
      unfold splice
      rw [Nat.add_assoc, List.take_length_add_append, ← List.drop_drop, List.drop_left, List.append_assoc]

theorem idx_succ (c : List (Option (List Int))) (i : Nat) (hi : i < c.length) : idx c (i + 1) = idx c i + (if (c[i]?.join).isSome = true then 1 else 0) := by
  unfold idx
  rw [List.take_add_one, List.countP_append, List.getElem?_eq_getElem hi]
  cases h : c[i] <;> simp
theorem idx_le (c : List (Option (List Int))) (i j : Nat) (h : i ≤ j) : idx c i ≤ idx c j := by
  unfold idx
  have e : c.take i = (c.take j).take i := by rw [List.take_take, Nat.min_eq_left h]
  rw [e]
  exact List.Sublist.countP_le (List.take_sublist _ _)
theorem length_partLast (l : List (List Int)) (c : List (Option (List Int))) (g : Nat → Int × List Int) (B : Nat) : (partLast l c g B).length = l.length := by simp [partLast]
theorem length_partCach (c : List (Option (List Int))) (B : Nat) : (partCach c B).length = c.length := by simp [partCach]
theorem partLast_get (l : List (List Int)) (c : List (Option (List Int))) (g : Nat → Int × List Int) (B i : Nat) : (partLast l c g B)[i]? = l[i]?.map fun x => if i < B then (match c[i]?.join with | some y => left x y (g (idx c i)) | none => x) else x := by
  unfold partLast; rw [List.getElem?_mapIdx]
theorem partCach_get (c : List (Option (List Int))) (B i : Nat) : (partCach c B)[i]? = c[i]?.map fun o => if i < B then none else o := by
  unfold partCach; rw [List.getElem?_mapIdx]
theorem part_zero (s : DiskS) (g : Nat → Int × List Int) : s.part g 0 = s := by
  have h1 : partLast s.last s.cach g 0 = s.last := by
    apply List.ext_getElem?; intro i; rw [partLast_get]; simp
  have h2 : partCach s.cach 0 = s.cach := by
    apply List.ext_getElem?; intro i; rw [partCach_get]; simp
  unfold DiskS.part; rw [h1, h2]
/-- a sector that isn't cached -/
theorem part_skip (s : DiskS) (g : Nat → Int × List Int) (i : Nat) (h : s.cach[i]?.join = none) : s.part g (i + 1) = s.part g i := by
  have h1 : partLast s.last s.cach g (i + 1) = partLast s.last s.cach g i := by
    apply List.ext_getElem?; intro j; rw [partLast_get, partLast_get]
    congr 1; funext x
    by_cases hj : j = i
    · subst hj; simp [h]
    · simp only [show (j < i + 1) = (j < i) by simp; omega]
  have h2 : partCach s.cach (i + 1) = partCach s.cach i := by
    apply List.ext_getElem?; intro j; rw [partCach_get, partCach_get]
    by_cases hj : j = i
    · subst hj
      cases hc : s.cach[j]? with
      | none => rfl
      | some o => rw [hc] at h; simp at h; subst h; simp
    · congr 1; funext x
      simp only [show (j < i + 1) = (j < i) by simp; omega]
  unfold DiskS.part; rw [h1, h2]
/-- one that is -/
theorem part_step (s : DiskS) (g : Nat → Int × List Int) (i : Nat) (c : List Int) (h : s.cach[i]?.join = some c) (x : List Int) (hx : s.last[i]? = some x) :
    s.part g (i + 1) = { s.part g i with last := (s.part g i).last.set i (left x c (g (idx s.cach i))), cach := (s.part g i).cach.set i none } := by
  have hi : i < s.last.length := (List.getElem?_eq_some_iff.1 hx).1
  have h1 : partLast s.last s.cach g (i + 1) = (partLast s.last s.cach g i).set i (left x c (g (idx s.cach i))) := by
    apply List.ext_getElem?; intro j; rw [partLast_get, List.getElem?_set, partLast_get]
    by_cases hj : i = j
    · subst hj; rw [if_pos rfl, if_pos (by rw [length_partLast]; exact hi), hx]; simp [h]
    · rw [if_neg hj]; congr 1; funext y
      simp only [show (j < i + 1) = (j < i) by simp; omega]
  have hci : i < s.cach.length := by
    cases hc : s.cach[i]? with
    | none => rw [hc] at h; simp at h
    | some o => exact (List.getElem?_eq_some_iff.1 hc).1
  have h2 : partCach s.cach (i + 1) = (partCach s.cach i).set i none := by
    apply List.ext_getElem?; intro j; rw [partCach_get, List.getElem?_set, partCach_get]
    by_cases hj : i = j
    · subst hj; rw [if_pos rfl, if_pos (by rw [length_partCach]; exact hci), List.getElem?_eq_getElem hci]; simp
    · rw [if_neg hj]; congr 1; funext y
      simp only [show (j < i + 1) = (j < i) by simp; omega]
  unfold DiskS.part; rw [h1, h2]
theorem part_last_get (s : DiskS) (g : Nat → Int × List Int) (i : Nat) (x : List Int) (hx : s.last[i]? = some x) : (s.part g i).last[i]? = some x := by
  show (partLast s.last s.cach g i)[i]? = some x
  rw [partLast_get, hx]; simp
theorem part_cach_get (s : DiskS) (g : Nat → Int × List Int) (B i : Nat) (h : B ≤ i) : (s.part g B).cach[i]?.join = s.cach[i]?.join := by
  show (partCach s.cach B)[i]?.join = s.cach[i]?.join
  rw [partCach_get]
  cases s.cach[i]? with
  | none => rfl
  | some o => simp [show ¬ i < B by omega]
/-- between two places with as many cached ones below nothing is cached -/
theorem part_between (s : DiskS) (g : Nat → Int × List Int) (B : Nat) : ∀ i, B ≤ i → i ≤ s.cach.length → idx s.cach i = idx s.cach B → s.part g i = s.part g B := by
  intro i hBi
  induction hBi with
  | refl => intros; rfl
  | step h ih =>
    rename_i m
    intro hm he
    have h1 := idx_succ s.cach m (by omega)
    have h2 := idx_le s.cach B m h
    have h3 : (s.cach[m]?.join).isSome = false := by
      cases hh : (s.cach[m]?.join).isSome with
      | false => rfl
      | true =>
        rw [hh, if_pos rfl] at h1
        have h5 : idx s.cach (m + 1) = idx s.cach B := he
        omega
    rw [h3] at h1
    have h4 : s.cach[m]?.join = none := by simpa using h3
    rw [part_skip s g m h4]
    exact ih (by omega) (by simpa using h1.symm.trans he)
theorem left_sec {size : Nat} {old next : List Int} {t : Int × List Int} (ho : Sec size old) (hn : Sec size next) (ht : Bts t.2) : Sec size (left old next t) := by
  unfold left
  split
  · exact hn
  split
  · refine ⟨by simp [ho.1], (ht.append (Bts.replicate0 _)).take _⟩
  · exact ho
theorem mem_join {c : List (Option (List Int))} {i : Nat} {l : List Int} (h : c[i]?.join = some l) : some l ∈ c := by
  cases hc : c[i]? with
  | none => rw [hc] at h; simp at h
  | some o => rw [hc] at h; simp at h; subst h; exact List.mem_of_getElem? hc
theorem DiskS.Ok.part {s : DiskS} (h : s.Ok) (g : Nat → Int × List Int) (hg : ∀ k, Bts (g k).2) (B : Nat) : (s.part g B).Ok := by
  refine ⟨h.s1, h.s2, ?_, ?_, ?_, ?_, h.op, h.wr, h.ma⟩
  · show (partLast _ _ _ _).length ≤ 4096; rw [length_partLast]; exact h.n1
  · show (partCach _ _).length = (partLast _ _ _ _).length; rw [length_partLast, length_partCach]; exact h.nc
  · intro l hl
    obtain ⟨i, hi⟩ := List.mem_iff_getElem?.1 hl
    change (partLast s.last s.cach g B)[i]? = some l at hi
    rw [partLast_get] at hi
    cases hx : s.last[i]? with
    | none => rw [hx] at hi; simp at hi
    | some x =>
      have hs := h.ls x (List.mem_of_getElem? hx)
      rw [hx] at hi
      simp only [Option.map_some, Option.some.injEq] at hi
      rw [← hi]
      split
      · split
        · rename_i y hy; exact left_sec hs (h.cs y (mem_join hy)) (hg _)
        · exact hs
      · exact hs
  · intro l hl
    obtain ⟨i, hi⟩ := List.mem_iff_getElem?.1 hl
    change (partCach s.cach B)[i]? = some (some l) at hi
    rw [partCach_get] at hi
    cases hx : s.cach[i]? with
    | none => rw [hx] at hi; simp at hi
    | some o =>
      rw [hx] at hi
      simp only [Option.map_some, Option.some.injEq] at hi
      split at hi
      · cases hi
      · subst hi; exact h.cs l (List.mem_of_getElem? hx)
/-- the sectors that are cached -/
theorem unsynced_get (s : DiskS) (k : Nat) (x : Int) (h : s.unsynced[k]? = some x) : ∃ i : Nat, x = i ∧ i < s.cach.length ∧ (s.cach[i]?.join).isSome = true ∧ idx s.cach i = k := by
  have key : ∀ (n : Nat), n ≤ s.cach.length → ∀ (k : Nat) (i : Nat), ((List.range n).filter fun i => (s.cach[i]?.join).isSome)[k]? = some i → i < n ∧ (s.cach[i]?.join).isSome = true ∧ idx s.cach i = k := by
    intro n
    have hlen : ∀ n, n ≤ s.cach.length → ((List.range n).filter fun i => (s.cach[i]?.join).isSome).length = idx s.cach n := by
      intro n
      induction n with
      | zero => intro _; simp [idx]
      | succ n ih =>
        intro hn
        rw [List.range_succ, List.filter_append, List.length_append, ih (by omega), idx_succ _ _ (by omega)]
        congr 1
        rw [List.filter_cons, List.filter_nil]
        split <;> simp
    induction n with
    | zero => intro _ k i h; simp at h
    | succ n ih =>
      intro hn k i h
      rw [List.range_succ, List.filter_append, List.getElem?_append] at h
      split at h
      · obtain ⟨h1, h2, h3⟩ := ih (by omega) k i h
        exact ⟨by omega, h2, h3⟩
      · rename_i hk
        rw [List.filter_cons, List.filter_nil] at h
        split at h
        · rename_i hsome
          rw [List.getElem?_cons] at h
          split at h
          · rename_i hz
            simp only [Option.some.injEq] at h
            subst h
            rw [hlen n (by omega)] at hk hz
            exact ⟨by omega, hsome, by omega⟩
          · simp at h
        · simp at h
  unfold DiskS.unsynced at h
  rw [List.getElem?_map] at h
  cases hh : ((List.range s.cach.length).filter fun i => (s.cach[i]?.join).isSome)[k]? with
  | none => rw [hh] at h; simp at h
  | some i =>
    rw [hh] at h
    simp only [Option.map_some, Option.some.injEq] at h
    obtain ⟨h1, h2, h3⟩ := key _ (Nat.le_refl _) k i hh
    exact ⟨i, h.symm, h1, h2, h3⟩
theorem unsynced_length (s : DiskS) : s.unsynced.length = idx s.cach s.cach.length := by
  have hlen : ∀ n, n ≤ s.cach.length → ((List.range n).filter fun i => (s.cach[i]?.join).isSome).length = idx s.cach n := by
    intro n
    induction n with
    | zero => intro _; simp [idx]
    | succ n ih =>
      intro hn
      rw [List.range_succ, List.filter_append, List.length_append, ih (by omega), idx_succ _ _ (by omega)]
      congr 1
      rw [List.filter_cons, List.filter_nil]
      split <;> simp
  unfold DiskS.unsynced
  rw [List.length_map]
  exact hlen _ (Nat.le_refl _)
end Go.Proofs.YtcikhnkehglkgaaGreatDoorLib
