/- PROVED: the contract of a place's whole image. No conditions beyond those that each theorem states. -/
import Derived.Test.YtcikhnkehglkgaaGreatDoorSlF
import Derived.Test.YtcikhnkehglkgaaGreatDoorSlJ
namespace Go.Proofs.YtcikhnkehglkgaaGreatDoor
open Go.RowKit Go.Proofs.YtcikhnkehglkgaaGreatDoorLib
set_option linter.unusedSimpArgs false
set_option linter.unusedVariables false

/-- sectors read one behind the other, till one fails -/
def readsM (s : DiskS) (at' : Nat) : Nat → DiskS × List (List Int) × Int
  | 0 => (s, [], 0)
  | n + 1 => if (s.read (at' : Int)).2 ≠ 0 then (s.tick, [], (s.read (at' : Int)).2) else ((readsM s.tick (at' + 1) n).1, (s.read (at' : Int)).1 :: (readsM s.tick (at' + 1) n).2.1, (readsM s.tick (at' + 1) n).2.2)
theorem read_sec {s : DiskS} (hs : s.Ok) (i : Int) (h : (s.read i).2 = 0) : Sec s.size (s.read i).1 := by
  unfold DiskS.read at h ⊢
  split at h
  · cases h
  rename_i h1
  rw [if_neg h1]
  split at h
  · cases h
  rename_i h2
  rw [if_neg h2]
  split
  · rename_i b hb
    exact hs.cs b (mem_join hb)
  · have hi : i.toNat < s.last.length := by omega
    rw [List.getElem?_eq_getElem hi]
    exact hs.ls _ (List.getElem_mem hi)
theorem SRow.ne_own {w : World} {base : Nat} {v u : Value} {L : List Value} (h : SRow w base v L) {T : TypeId} {k : IntKind} {base' : Nat} {l : List Int} (hu : Own T k w base' u l) (hT : 27 ≠ T) : ∀ g, v.ownBlock = some g → u.ownBlock ≠ some g := by
  intro g hg hu'
  obtain ⟨h1, ⟨rfl, _⟩ | ⟨g1, cap, cur, rfl, hg1, hc, _⟩⟩ := h
  · simp [Value.ownBlock] at hg
  · obtain ⟨h2, ⟨rfl, _⟩ | ⟨g2, cap2, cur2, rfl, hg2, hc2, _⟩⟩ := hu
    · simp [Value.ownBlock] at hu'
    · simp [Value.ownBlock] at hg hu'
      subst hg; subst hu'
      rw [hc] at hc2
      simp at hc2
      exact hT hc2.2
/-- the slices of a row are rows of their own -/
def PartsO (w : World) (lo : Nat) (L : List Value) (xs : List (List Int)) : Prop := L.length = xs.length ∧ ∀ (i : Nat) (u : Value) (x : List Int), L[i]? = some u → xs[i]? = some x → Own 5 .u8 w lo u x
theorem PartsO.parts {w : World} {lo : Nat} {L : List Value} {xs : List (List Int)} (h : PartsO w lo L xs) : Parts w L xs :=
  ⟨h.1, fun i u x hu hx => let ⟨b, hs, _⟩ := (h.2 i u x hu hx).sl; ⟨b, 0, hs⟩⟩
theorem PartsO.kept {w w1 : World} {lo : Nat} {L : List Value} {xs : List (List Int)} {S : List Nat} (h : PartsO w lo L xs) (hk : Kept w w1 S) (hS : ∀ (i : Nat) (u : Value) (x : List Int), L[i]? = some u → xs[i]? = some x → Apart u S) : PartsO w1 lo L xs :=
  ⟨h.1, fun i u x hu hx => (h.2 i u x hu hx).kept hk (hS i u x hu hx)⟩
theorem PartsO.snoc {w : World} {lo : Nat} {L : List Value} {xs : List (List Int)} (h : PartsO w lo L xs) {u : Value} {x : List Int} (hu : Own 5 .u8 w lo u x) : PartsO w lo (L ++ [u]) (xs ++ [x]) := by
  refine ⟨by simp [h.1], fun i v y hv hy => ?_⟩
  rw [List.getElem?_append] at hv hy
  split at hv
  · rename_i hi
    rw [if_pos (by have := h.1; omega)] at hy
    exact h.2 i v y hv hy
  · rename_i hi
    rw [if_neg (by have := h.1; omega)] at hy
    have e := h.1
    rw [e] at hv
    rw [List.getElem?_cons] at hv hy
    split at hv
    · rename_i hz
      rw [if_pos hz] at hy
      simp only [Option.some.injEq] at hv hy
      subst hv; subst hy
      exact hu
    · simp at hv
theorem flat_len (xs : List (List Int)) (n : Nat) (h : ∀ x, x ∈ xs → x.length = n) : xs.flatten.length = xs.length * n := by
  induction xs with
  | nil => simp
  | cons a r ih => rw [List.flatten_cons, List.length_append, ih (fun x hx => h x (by simp [hx])), h a (by simp), List.length_cons, Nat.succ_mul]; omega
set_option maxRecDepth 100000 in
set_option maxHeartbeats 4000000 in
theorem whole_any (W : World) (lo b first p3 p9 : Nat) (F : List Nat) (s : DiskS) (h : DiskAt W b F s) (hx : PlaceX W lo b first p3 p9) (m many : Nat) (hm : m ≤ 200) (hi : first ≤ 200000) (ho : s.ops < 900000000) (hp3 : p3 ≠ b) (hp9 : p9 ≠ b) (hmany : many ≤ m * s.size) :
    Calls Tryz.prog 86 #[placeV m s.size p3 p9, .int .i64 many] W (Post W [b] fun r V => ∃ v, r = .tuple #[v, .int .i64 (readsM s (first + 1) m).2.2] ∧ DiskAt V b F (readsM s (first + 1) m).1 ∧ ((readsM s (first + 1) m).2.2 = 0 → ∃ g, Sl .u8 V v g 0 ((readsM s (first + 1) m).2.1.flatten.take many) ∧ W.heap.size ≤ g)) := by
  have hok := h.ok
  have s1 := hok.s1
  have s2 := hok.s2
  have hbF := h.lt b h.fb
  obtain ⟨w0, hw0⟩ : ∃ w0, w0 = W.alloc (.cells #[.int .i64 m, .int .i64 s.size, .func (.func 102) #[] #[pt p3, pt p9], .func (.func 104) #[] #[pt p3, pt p9]] 124) := ⟨_, rfl⟩
  have hb2 : Blk w0 W.heap.size 124 [.int .i64 m, .int .i64 s.size, .func (.func 102) #[] #[pt p3, pt p9], .func (.func 104) #[] #[pt p3, pt p9]] := by rw [hw0]; exact Blk.new _ _ _
  have k0 : Kept W w0 [] := by rw [hw0]; exact (Kept.refl W []).alloc _
  have H0 := Lib.hid (h.kept k0 (by simp))
  have HX := Lib.hid (hx.kept2 k0 (by simp) (by simp))
  have HB2 := Lib.hid hb2
  have K0 := Lib.hid k0
  have HNE := Lib.hid (And.intro hp3 hp9)
  have HBW := Lib.hid hbF
  have c0 := hb2.cell 0 rfl
  have m0 : (0 : Int) ≤ m := by omega
  have m1 : (m : Int) ≤ 200 := by omega
  have HI := Lib.hid (And.intro hi ho)
  have HMM := Lib.hid hmany
  have HS12 := Lib.hid (And.intro s1 s2)
  clear h hx hok hb2 k0 hp3 hp9 hbF hi ho hmany s1 s2 hm
  go_enter Tryz.func86, Tryz.ntmps86
  go_upto_region 1 with fail
  rw [← hw0]
  clear hw0
  go_wp2_with fail
  go_loopg [6, 12] m (fun gg vv i wr => ∃ (k : Nat) (sk : DiskS) (L : List Value) (xs : List (List Int)), k + gg = m ∧ i = .int .i64 k ∧ readsM s (first + 1) m = ((readsM sk (first + 1 + k) gg).1, xs ++ (readsM sk (first + 1 + k) gg).2.1, (readsM sk (first + 1 + k) gg).2.2) ∧ DiskAt wr b F sk ∧ SRow wr w0.heap.size vv L ∧ PartsO wr w0.heap.size L xs ∧ (∀ x, x ∈ xs → Sec s.size x) ∧ xs.length = k ∧ Kept w0 wr [b] ∧ sk.ops = s.ops + k ∧ sk.size = s.size)
  case atStart => exact ⟨0, s, [], [], by omega, rfl, by simp, H0.out, World.ownsRow_nil _ _ _ _, ⟨rfl, fun i u x h => by simp at h⟩, by simp, rfl, Kept.refl _ _, rfl, rfl⟩
  case round =>
    obtain ⟨k, sk, L, xs, hk, rfl, heq, hd, hrow, hparts, hsec, hxl, hkept, hops, hskz⟩ := hrel
    have HK := Lib.hid hk
    have HEQ := Lib.hid (And.intro heq trivial)
    have HD := Lib.hid hd
    have HRO := Lib.hid hrow
    have HPA := Lib.hid hparts
    have HSE := Lib.hid hsec
    have HXL := Lib.hid hxl
    have HKE := Lib.hid hkept
    have HOP := Lib.hid (And.intro hops hskz)
    obtain ⟨Aw, cw, ew, hf1, hf2⟩ := hrow.form
    subst ew
    have hbp := HB2.out.kept hkept (by have := HBW.out; simp; omega)
    have d2 := hbp.cell 2 rfl
    have hplc := HX.out.kept2 hkept (by simpa using HNE.out.1) (by simpa using HNE.out.2)
    have HPL := Lib.hid hplc
    clear hk heq hd hrow hparts hsec hxl hkept hops hskz hf1 hf2 hbp hplc
    by_cases hlt : k < m
    · have k0 : (0 : Int) ≤ k := by omega
      have k1 : (k : Int) < m := by omega
      obtain ⟨gg, rfl⟩ : ∃ gg, gk = gg + 1 := ⟨gk - 1, by have := HK.out; omega⟩
      have hRD := rd_any wr _ b first p3 p9 F sk HD.out HPL.out (1 + k) (by have := HI.out.1; omega) (by have := HI.out.2; have := HOP.out.1; omega)
      rw [show first + (1 + k) = first + 1 + k by omega, show (((1 + k : Nat)) : Int) = 1 + (k : Int) by simp] at hRD
      have heq := HEQ.out.1
      rw [readsM] at heq
      have hsc := read_sec HD.out.ok ((first + 1 + k : Nat) : Int)
      rw [HOP.out.2] at hsc
      generalize sk.read ((first + 1 + k : Nat) : Int) = R at *
      have HRD := Lib.hid hRD
      have HEQ2 := Lib.hid (And.intro heq trivial)
      have HSC := Lib.hid hsc
      have ei : (1 : Int) + k ≤ 100001 := by omega
      clear hRD heq HEQ hsc
      by_cases he : R.2 = 0
      · have te : (R.2 != 0) = false := by simpa using he
        have HE := Lib.hid (And.intro he trivial)
        clear he
        go_wp2_with fail
        refine HRD.out.mono ?_
        rintro _ wv ⟨_, rfl, ⟨rv, rfl, hrv, hdv⟩, kv⟩
        have hll : L.length ≤ 100000 := by have := HPA.out.1; have := HXL.out; omega
        obtain ⟨brv, hsrv, _⟩ := hrv.sl
        obtain ⟨Arv, crv, erv⟩ := hsrv.form
        subst erv
        have hbw0 : b < w0.heap.size := by have := HBW.out; have := K0.out.size; omega
        have hrow2 : SRow wv w0.heap.size (.slice Aw L.length cw) L := HRO.out.kept kv (fun g hg hm => by have := (HRO.out.lt g hg).1; simp at hm; omega)
        have hb3 := Blk.new wv 27 [.slice Arv R.1.length crv]
        have hrow3 : SRow (wv.alloc (.cells #[.slice Arv R.1.length crv] 27)) w0.heap.size (.slice Aw L.length cw) L := World.ownsRow.alloc hrow2 _
        obtain ⟨v7, w7, hap, ho7, k7, _⟩ := srow_append hrow3 hb3 rfl (by omega) (by have := HKE.out.size; have := kv.size; simp; omega)
        have kva : Kept wv w7 ((Value.slice Aw L.length cw).ownBlock.toList) := ((Kept.refl wv _).alloc _).trans k7 (fun g hg => .inl hg)
        have hpa2 : PartsO wv w0.heap.size L xs := HPA.out.kept kv (fun i u x hu hx g hg hm => by have := ((HPA.out.2 i u x hu hx).lt g hg).1; simp at hm; omega)
        have hpa3 : PartsO w7 w0.heap.size L xs := hpa2.kept kva (fun i u x hu hx g hg hm => by
          simp only [Option.mem_toList] at hm
          exact SRow.ne_own hrow2 (hpa2.2 i u x hu hx) (by decide) g hm hg)
        have hrv2 : Own 5 .u8 w7 w0.heap.size (.slice Arv R.1.length crv) R.1 := (hrv.kept kva (fun g hg hm => by
          simp only [Option.mem_toList] at hm
          exact SRow.ne_own hrow2 hrv (by decide) g hm hg)).mono HKE.out.size
        have hd7 : DiskAt w7 b F sk.tick := hdv.kept kva (fun g hg hm => by
          simp only [Option.mem_toList] at hg
          have h1 := (hrow2.lt g hg).1
          have h2 := H0.out.lt g hm
          omega)
        have HAP := Lib.hid hap
        have HN := Lib.hid (And.intro ho7 (And.intro (hpa3.snoc hrv2) hd7))
        have K7 : Hid (Kept w0 w7 [b]) := Lib.hid ((HKE.out.trans kv (fun g hg => .inl hg)).trans kva (fun g hg => .inr (by simp only [Option.mem_toList] at hg; exact (hrow2.lt g hg).1)))
        clear hb3 hrow3 hap ho7 k7 kva hpa2 hpa3 hrv2 hd7 hrow2 hsrv hrv hdv kv HRD hll hbw0
        go_wp2_with (first | (at_builtin; refine wpList_append_run rfl _ _ _ rfl rfl rfl HAP.out ?_))
        go_roundg gg
        case measure => omega
        case rel =>
          refine ⟨k + 1, sk.tick, L ++ [.slice Arv R.1.length crv], xs ++ [R.1], by have := HK.out; omega, by go_num, ?_, HN.out.2.2, HN.out.1, HN.out.2.1, ?_, by rw [List.length_append, HXL.out]; rfl, K7.out, by show sk.ops + 1 = _; rw [HOP.out.1]; omega, HOP.out.2⟩
          · have := HEQ2.out.1
            rw [if_neg (by simpa using HE.out.1)] at this
            rw [this, List.append_assoc]
            rfl
          · intro x hx
            rcases List.mem_append.1 hx with h | h
            · exact HSE.out x h
            · simp at h; subst h; exact HSC.out HE.out.1
      · have te : (R.2 != 0) = true := by simpa using he
        have HE := Lib.hid (And.intro he trivial)
        clear he
        go_wp2_with fail
        refine HRD.out.mono ?_
        rintro _ wv ⟨_, rfl, ⟨rv, rfl, hrv, hdv⟩, kv⟩
        have HDV := Lib.hid (And.intro hdv kv)
        clear hrv hdv kv HRD
        go_wp2_with fail
        go_ret2
        have heqf := HEQ2.out.1
        rw [if_pos HE.out.1] at heqf
        rw [heqf]
        exact ⟨_, rfl, ⟨_, rfl, HDV.out.1, fun h => absurd h HE.out.1⟩, ((K0.out.mono (S2 := [b]) (by simp)).trans HKE.out (fun g hg => .inl hg)).trans HDV.out.2 (fun g hg => .inl hg)⟩
    · have hkn : k = m := by have := HK.out; omega
      have hg0 : gk = 0 := by have := HK.out; omega
      subst hg0
      have heqf := HEQ.out.1
      rw [readsM] at heqf
      simp only [List.append_nil] at heqf
      have hfl := flat_len xs s.size (fun x hx => (HSE.out x hx).1)
      rw [HXL.out, hkn] at hfl
      have hml : m * s.size ≤ 200 * 4096 := Nat.mul_le_mul (by omega) HS12.out.2
      have HG := Lib.hid (glue_any wr w0.heap.size (.slice Aw L.length cw) L xs HRO.out HPA.out.parts (fun x hx => ⟨(HSE.out x hx).2, by intro e; have h1 := (HSE.out x hx).1; rw [e] at h1; simp at h1; have := HS12.out.1; omega⟩) (by rw [hfl]; omega) (by rw [HXL.out]; omega) many (by rw [hfl]; exact HMM.out))
      have HQ := Lib.hid (And.intro heqf trivial)
      clear heqf hfl hml hlt HEQ
      subst hkn
      go_wp2_with fail
      refine HG.out.mono ?_
      rintro _ V ⟨_, rfl, ⟨v, g, rfl, hs, hgg⟩, kv⟩
      have HV := Lib.hid (And.intro hs (And.intro hgg kv))
      clear hs hgg kv HG
      go_wp2_with fail
      go_ret2
      rw [HQ.out.1]
      exact ⟨_, rfl, ⟨_, rfl, HD.out.kept HV.out.2.2 (by simp), fun _ => ⟨g, HV.out.1, by have := K0.out.size; have := HKE.out.size; have := HV.out.2.1; omega⟩⟩, ((K0.out.mono (S2 := [b]) (by simp)).trans HKE.out (fun g hg => .inl hg)).trans HV.out.2.2 (by simp)⟩
end Go.Proofs.YtcikhnkehglkgaaGreatDoor
