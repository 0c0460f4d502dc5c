/- PROVED: the walk of DiskTears. No conditions beyond those that each theorem states. -/
import Derived.Test.YtihfbceafehcjaaDkCp
import Derived.Test.YtihfbceafehcjaaDkLf
namespace Go.Proofs.Ytihfbceafehcjaa
open Go.RowKit Go.Proofs.YtihfbceafehcjaaLib Go.WideElems Go.Maps
set_option linter.unusedSimpArgs false
set_option linter.unusedVariables false

theorem crash_get (s : DiskS) (ts : List (Int × List Int)) (k : Nat) (X : List Int) (hx : s.last[k]? = some X) : (s.crash ts).last[k]? = some (match s.cach[k]?.join with | some y => left X y (ts[idx s.cach k]?.getD oldT) | none => X) := by
  have e : (s.crash ts).last = partLast s.last s.cach (fun k => ts[k]?.getD oldT) s.last.length := rfl
  rw [e, partLast_get, hx]
  simp only [Option.map_some, if_pos (List.getElem?_eq_some_iff.1 hx).1]
  cases s.cach[k]?.join <;> rfl
theorem unsynced_at (s : DiskS) (k : Nat) (hk : k < s.cach.length) (h : (s.cach[k]?.join).isSome = true) : s.unsynced[idx s.cach k]? = some (k : Int) := by
  have hlen : ∀ n, n ≤ s.cach.length → ((List.range n).filter fun i => (s.cach[i]?.join).isSome).length = idx s.cach n := by
    intro n
    induction n with
    | zero => intro _; simp [idx]
    | succ n ih =>
      intro hn
      rw [List.range_succ, List.filter_append, List.length_append, ih (by omega), idx_succ _ _ (by omega)]
      congr 1
      rw [List.filter_cons, List.filter_nil]
      split <;> simp
  have key : ∀ n, n ≤ s.cach.length → k < n → ((List.range n).filter fun i => (s.cach[i]?.join).isSome)[idx s.cach k]? = some k := by
    intro n
    induction n with
    | zero => intro _ h; omega
    | succ n ih =>
      intro hn hkn
      rw [List.range_succ, List.filter_append]
      by_cases e : k = n
      · subst e
        rw [List.getElem?_append_right (by rw [hlen k (by omega)]; exact Nat.le_refl _), hlen k (by omega), Nat.sub_self, List.filter_cons, h]
        rfl
      · have h1 := ih (by omega) (by omega)
        have := (List.getElem?_eq_some_iff.1 h1).1
        rw [List.getElem?_append_left this]
        exact h1
  unfold DiskS.unsynced
  rw [List.getElem?_map, key _ (Nat.le_refl _) hk]
  rfl
set_option maxRecDepth 100000 in
set_option maxHeartbeats 8000000 in
theorem DiskTears_walk (w : World) (v tv : Value) (l : List DkOp) (ts : List (Int × List Int)) (h : SliceAt (OpK w.heap.size) 4 w w.heap.size v l) (ht : SliceAt (TearK w.heap.size) 2 w w.heap.size tv ts) (hl : l.length * 64 ≤ 140737488351232) :
    Calls Try.prog 8 #[v, tv] w (fun e W => e = .returned (.bool true) ∧ Below w.heap.size w W) := by
  obtain ⟨A, c, rfl, hc1, hc2⟩ := SliceAt.form h
  obtain ⟨At, ct, rfl, ht1, ht2⟩ := SliceAt.form ht
  have H := Lib.hid h
  have HT := Lib.hid ht
  unfold maxLen at hc2 ht2
  have l0 : (0 : Int) ≤ l.length := by omega
  have l1 : (l.length : Int) ≤ 9223372036854775807 := by omega
  clear h hc2 ht ht2
  go_enter Try.func8, Try.ntmps8
  go_wp2_with fail
  (with_reducible refine (awake_any _).mono ?_)
  rintro _ w1 ⟨_, rfl, rfl, k1⟩
  have K1 := Lib.hid k1
  obtain ⟨v2, w2, cells, hr1, ho2, hro2, k2⟩ := ops_append1 w1 w.heap.size w.heap.size _ l (K_ops H.out k1 (Nat.le_refl _)) k1.size k1.size hl
  have k12 := k1.trans k2 (by simp)
  have hop : OpK w.heap.size w2 [.int .u8 0, .int .i64 0, .slice none 0 0, .slice At ts.length ct] ⟨0, 0, [], ts⟩ :=
    ⟨_, _, rfl, ⟨none, 0, rfl, Nat.le_refl _, Nat.zero_le _, .inl rfl⟩, HT.out.kept k12 (Nat.le_refl _) (by simp) (fun cs x h => h.kept k12 (Nat.le_refl _) (by simp)), ⟨by dsimp only; decide, by dsimp only; decide⟩, by dsimp only; decide, by dsimp only; decide⟩
  obtain ⟨v3, w3, hr2, hs3, k3⟩ := ops_append2 w2 w.heap.size w1.heap.size v2 l cells ho2 hro2 k12.size k1.size k2.size (by omega) _ _ hop rfl
  have k13 : Kept w w3 [] := k12.trans k3 (fun g hg => by
    simp only [Option.mem_toList] at hg
    exact .inr (Nat.le_trans k1.size (ho2.lt g hg).1))
  have HS3 := Lib.hid hs3
  have K3 := Lib.hid k13
  have HR1 := Lib.hid hr1
  have HR2 := Lib.hid hr2
  clear k1 k2 k3 k12 k13 hs3 ho2 hro2 hop hr1 hr2
  go_wp2_with (first | (at_builtin; refine wpList_append_run rfl _ _ _ rfl rfl rfl HR1.out ?_) | (at_builtin; refine wpList_append_run rfl _ _ _ rfl rfl rfl HR2.out ?_))
  (with_reducible refine (few_any _ _ _ _ _ HS3.out).mono ?_)
  rintro _ w4 ⟨_, rfl, ⟨x, rfl, hx⟩, k4⟩
  have K4 := Lib.hid (K3.out.trans k4 (by simp))
  clear k4 HR1 HR2
  cases x with
  | false =>
    clear hx
    go_wp2_with fail
    go_ret
    exact ⟨rfl, K4.out.below _ (Nat.le_refl _) (by simp)⟩
  | true =>
  have hl40 : l.length ≤ 40 := by have := hx rfl; simp at this; omega
  have HL40 := Lib.hid hl40
  clear hx hl40
  go_wp2_with fail
  (with_reducible refine (made_any _ w.heap.size _ l (K_ops H.out K4.out (Nat.le_refl _)) K4.out.size HL40.out).mono ?_)
  rintro _ w5 ⟨_, rfl, ⟨b, F, rfl, hd, hF⟩, k5⟩
  have HF : Hid (∀ g, g ∈ F → w.heap.size ≤ g) := Lib.hid (fun g hg => Nat.le_trans K4.out.size (hF g hg))
  have K5 := Lib.hid (K4.out.trans k5 (by simp))
  have hsh := DiskS.run_shape (DiskS.new 8 4) l rfl
  have hle := DiskS.run_le (DiskS.new 8 4) l
  generalize (DiskS.new 8 4).run l = s at *
  have hl8 : s.last.length = 8 := hsh.1
  have hs4 : s.size = 4 := hsh.2.1
  have hop : s.ops ≤ 40 := by have h1 := hle.1; have h2 : (DiskS.new 8 4).ops = 0 := rfl; have := HL40.out; omega
  have HD := Lib.hid hd
  have HL8 := Lib.hid hl8
  have HS4 := Lib.hid hs4
  have HOP := Lib.hid hop
  have HOK := Lib.hid hd.ok
  clear hsh hle hd hF hl8 hs4 hop k5
  have HD5 := Lib.hid HD.out
  go_wp2_with fail
  (with_reducible refine (bytes_any _ b F s HD5.out).mono ?_)
  rintro _ w6 ⟨v6, rfl, hva, k6⟩
  have K6 := Lib.hid (K5.out.trans k6 (by simp))
  have HD6 := Lib.hid (HD5.out.kept k6 (by simp [Apart]))
  have RA6 := Lib.hid hva
  clear hva k6
  go_wp2_with fail
  (with_reducible refine (unsynced_any _ b F s HD6.out).mono ?_)
  rintro _ w7 ⟨v7, rfl, hvu, k7⟩
  have K7 := Lib.hid (K6.out.trans k7 (by simp))
  have HD7 := Lib.hid (HD6.out.kept k7 (by simp [Apart]))
  have RA7 := Lib.hid (RA6.out.kept k7 (by simp [Apart]))
  have RU7 := Lib.hid hvu
  have K67 : Hid (w6.heap.size ≤ w7.heap.size) := Lib.hid k7.size
  clear hvu k7
  go_wp2_with fail
  (with_reducible refine (copy_any _ b F s HD7.out).mono ?_)
  rintro _ w8 ⟨_, rfl, ⟨bc, Fc, rfl, hdc, hFc⟩, k8⟩
  have K8 := Lib.hid (K7.out.trans k8 (by simp))
  have HD8 := Lib.hid (HD7.out.kept k8 (by simp [Apart]))
  have RA8 := Lib.hid (RA7.out.kept k8 (by simp [Apart]))
  have RU8 := Lib.hid (RU7.out.kept k8 (by simp [Apart]))
  have HC8 := Lib.hid hdc
  have HFC := Lib.hid hFc
  have HAF : Hid (Apart v6 F) := Lib.hid (apart_of (fun g hg => (RA6.out.lt g hg).1) (fun g hg => HD5.out.lt g hg))
  have HUF : Hid (Apart v7 F) := Lib.hid (apart_of (fun g hg => (RU7.out.lt g hg).1) (fun g hg => HD6.out.lt g hg))
  have HFFC : Hid (∀ g, g ∈ F → g ∉ Fc) := Lib.hid (fun g hg hm => by have h1 := hFc g hm; have h2 := HD7.out.lt g hg; omega)
  clear hdc hFc k8
  go_wp2_with fail
  have hta : TearsAt w8 F (.slice At ts.length ct) ts := TearsAt.of (HT.out.kept K8.out (Nat.le_refl _) (by simp) (fun cs x h => h.kept K8.out (Nat.le_refl _) (by simp))) HF.out
  (with_reducible refine (crash_any _ b F s HD8.out _ ts hta).mono ?_)
  rintro _ w9 ⟨_, rfl, ⟨rfl, hd9⟩, k9⟩
  have HD9 := Lib.hid hd9
  have HC9 := Lib.hid (HC8.out.kept k9 HFFC.out)
  have RA9 := Lib.hid (RA8.out.kept k9 HAF.out)
  have RU9 := Lib.hid (RU8.out.kept k9 HUF.out)
  have K9 := Lib.hid (K8.out.trans k9 (fun g hg => .inr (HF.out g hg)))
  clear hta hd9 k9
  go_wp2_with fail
  (with_reducible refine (bytes_any _ b F _ HD9.out).mono ?_)
  rintro _ w10 ⟨v10, rfl, hvn, k10⟩
  have K10 := Lib.hid (K9.out.trans k10 (by simp))
  have HD10 := Lib.hid (HD9.out.kept k10 (by simp [Apart]))
  have HC10 := Lib.hid (HC9.out.kept k10 (by simp [Apart]))
  have RA10 := Lib.hid (RA9.out.kept k10 (by simp [Apart]))
  have RU10 := Lib.hid (RU9.out.kept k10 (by simp [Apart]))
  have RN10 := Lib.hid hvn
  clear hvn k10
  have hcs : (s.crash ts).last.length = 8 ∧ (s.crash ts).size = 4 := ⟨(s.swept_shape _).1.trans HL8.out, (s.swept_shape _).2.1.trans HS4.out⟩
  have hby : s.bytes.length = 32 := by rw [HOK.out.bytes_len, HL8.out, HS4.out]
  have hbn : (s.crash ts).bytes.length = 32 := by rw [(HD10.out.ok).bytes_len, hcs.1, hcs.2]
  obtain ⟨bwa, hsa, _⟩ := RA10.out.sl
  obtain ⟨ca, rfl⟩ := hsa.at (by intro e; rw [e] at hby; simp at hby)
  obtain ⟨bwn, hsn, _⟩ := RN10.out.sl
  obtain ⟨cn, rfl⟩ := hsn.at (by intro e; rw [e] at hbn; simp at hbn)
  obtain ⟨bwu, hsu, _⟩ := RU10.out.sl
  obtain ⟨Au, cu, rfl⟩ := hsu.form
  have hca : 32 ≤ ca ∧ ca ≤ maxLen := by obtain ⟨_, _, e, q1, q2, _⟩ := hsa; simp at e; rw [e.2]; omega
  have hcn : 32 ≤ cn ∧ cn ≤ maxLen := by obtain ⟨_, _, e, q1, q2, _⟩ := hsn; simp at e; rw [e.2]; omega
  rw [hby] at *
  rw [hbn] at *
  have hnn := DiskS.unsynced_nil (s.crash ts) (DiskS.swept_cach s HOK.out.nc _)
  have HNN := Lib.hid hnn
  have HBY := Lib.hid (show s.bytes.length = 32 by rw [HOK.out.bytes_len, HL8.out, HS4.out])
  have HBN2 := Lib.hid (show (s.crash ts).bytes.length = 32 by rw [(HD10.out.ok).bytes_len, hcs.1, hcs.2])
  have HSA := Lib.hid hsa
  have HSN := Lib.hid hsn
  have HSU := Lib.hid hsu
  have HNA : Hid (bwa ≠ bc) := Lib.hid (fun e => by have h1 := (RA6.out.lt bwa (by simp [Value.ownBlock])).2; have h2 := HFC.out bc HC8.out.fb; have h3 := K67.out; omega)
  have HNN2 : Hid (bwn ≠ bc) := Lib.hid (fun e => by have h1 := (RN10.out.lt bwn (by simp [Value.ownBlock])).1; have h2 := HC9.out.lt bc HC9.out.fb; omega)
  have HNU : Hid (s.unsynced = [] ∨ bwu ≠ bc) := Lib.hid (by rcases ‹s.unsynced = [] ∨ _› with h | h; exact .inl h; exact .inr (fun e => by have h1 := (RU7.out.lt bwu h.1).2; have h2 := HFC.out bc HC8.out.fb; omega))
  clear hnn hsa hsn hsu hcs
  have hcn8 : s.cach.length = 8 := HOK.out.nc.trans HL8.out
  have HCN := Lib.hid hcn8
  have hul := unsynced_length s
  rw [hcn8] at hul
  generalize hn : s.unsynced.length = n at *
  have hn8 : n ≤ 8 := by rw [hul]; unfold idx; exact Nat.le_trans (List.countP_le_length) (by rw [List.length_take]; omega)
  have HNI := Lib.hid hn
  have HUL := Lib.hid hul
  clear hn hul hcn8 hby hbn
  go_wp2_with fail
  (with_reducible refine (unsynced_any _ b F _ HD10.out).mono ?_)
  rintro _ w11 ⟨v11, rfl, hv11, k11⟩
  rw [HNN.out] at hv11
  have K11 := Lib.hid (K10.out.trans k11 (by simp))
  have HC11 := Lib.hid (HC10.out.kept k11 (by simp [Apart]))
  obtain ⟨A11, c11, rfl⟩ := hv11.sl.choose_spec.1.form
  have hs11 : ∀ {v : Value} {bb o : Nat} {m : List Int} {k : IntKind}, Sl k w10 v bb o m → Sl k w11 v bb o m := fun h => h.kept k11 (.inr (by simp))
  have HSA11 := Lib.hid (hs11 HSA.out)
  have HSN11 := Lib.hid (hs11 HSN.out)
  have HSU11 := Lib.hid (hs11 HSU.out)
  clear hv11 k11 hs11
  have HFCW : Hid (∀ g, g ∈ Fc → w.heap.size ≤ g) := Lib.hid (fun g hg => Nat.le_trans K7.out.size (HFC.out g hg))
  go_wp2_with fail
  go_loopg [12, 13] 8 (fun g nx i wr => ∃ k j : Nat, k + g = 8 ∧ i = .int .i64 k ∧ nx = .int .i64 (idx s.cach k) ∧ j ≤ k ∧ DiskAt wr bc Fc (s.ticks j) ∧ Kept w11 wr [bc])
  case atStart => exact ⟨0, 0, rfl, rfl, by simp [idx], Nat.le_refl _, HC11.out, Kept.refl _ _⟩
  case round =>
    obtain ⟨k, j, hk, rfl, rfl, hjk, hd, hkept⟩ := hrel
    have HK := Lib.hid hk
    have HJK := Lib.hid hjk
    have HKE := Lib.hid hkept
    have HDC := Lib.hid hd
    clear hk hjk hkept hd
    have hkw : Kept w wr [] := K11.out.trans HKE.out (fun g hg => .inr (by simp at hg; subst hg; exact HFCW.out _ HC8.out.fb))
    have HKW := Lib.hid hkw
    clear hkw
    have hbcb := HFC.out bc HC8.out.fb
    by_cases hlt : k < 8
    · have k0 : (0 : Int) ≤ k := by omega
      have k1 : (k : Int) < 8 := by omega
      have hkl : k < s.last.length := by have := HL8.out; omega
      have hx := List.getElem?_eq_getElem hkl
      have hxs : Sec 4 s.last[k] := by have := HOK.out.ls _ (List.getElem_mem hkl); rw [HS4.out] at this; exact this
      generalize s.last[k] = X at hx hxs
      have hnap : bwa ∉ [bc] ∧ bwn ∉ [bc] := ⟨by intro hm; simp at hm; exact HNA.out hm, by intro hm; simp at hm; exact HNN2.out hm⟩
      have hsa := HSA11.out.kept HKE.out (.inr hnap.1)
      have hsn := HSN11.out.kept HKE.out (.inr hnap.2)
      have hmul : k * 4 + 4 ≤ 32 := by omega
      have hpa := hsa.part (k * 4) 4 (ca - k * 4) (by rw [HBY.out]; exact hmul) (by omega) (by have := hca.2; omega) (by omega)
      have hpn := hsn.part (k * 4) 4 (cn - k * 4) (by rw [HBN2.out]; exact hmul) (by omega) (by have := hcn.2; omega) (by omega)
      have hfa : (s.bytes.drop (k * 4)).take 4 = X := by have h1 := flatten_part (size := 4) (l := s.last) (fun y hy => by have := HOK.out.ls y hy; rw [HS4.out] at this; exact this) k hkl; rw [List.getElem?_eq_getElem hkl] at hx; simp only [Option.some.injEq] at hx; rw [← hx]; exact h1
      rw [hfa] at hpa
      rw [Nat.zero_add] at hpa hpn
      have hcg := crash_get s ts k X hx
      have hfn : ((s.crash ts).bytes.drop (k * 4)).take 4 = (match s.cach[k]?.join with | some y => left X y (ts[idx s.cach k]?.getD oldT) | none => X) := by
        have hl8 : k < (s.crash ts).last.length := (List.getElem?_eq_some_iff.1 hcg).1
        have h1 := flatten_part (size := 4) (l := (s.crash ts).last) (fun y hy => by have := HD10.out.ok.ls y hy; rw [show (s.crash ts).size = 4 from (s.swept_shape _).2.1.trans HS4.out] at this; exact this) k hl8
        have h2 : (s.crash ts).last[k] = _ := (List.getElem?_eq_some_iff.1 hcg).2
        rw [← h2]; exact h1
      rw [hfn] at hpn
      have huat := unsynced_at s k (by have := HCN.out; omega)
      have hix := idx_succ s.cach k (by have := HCN.out; omega)
      have hnl : n = s.unsynced.length := HNI.out.symm
      have e4k : (4 : Int) * (k : Int) = ((k * 4 : Nat) : Int) := by simp; omega
      have hUget : ∀ (q : Nat) (x : Int), s.unsynced[q]? = some x → ∃ i : Nat, x = i ∧ (s.cach[i]?.join).isSome = true := fun q x h => let ⟨i, a, _, c, _⟩ := unsynced_get s q x h; ⟨i, a, c⟩
      have hsu := HSU11.out.kept HKE.out (by rcases HNU.out with h | h; exact .inl h; exact .inr (by intro hm; simp at hm; exact h hm))
      generalize hm4 : k * 4 = m at *
      have m0 : (0 : Int) ≤ m := by omega
      have m1 : (m : Int) + 4 ≤ 32 := by omega
      have ma : m + 4 ≤ ca := by omega
      have mn : m + 4 ≤ cn := by omega
      have mla : m < ca := by omega
      have mln : m < cn := by omega
      have mai : (m : Int) + 4 ≤ ca := by omega
      have mni : (m : Int) + 4 ≤ cn := by omega
      generalize hq : idx s.cach k = q at *
      have HQ := Lib.hid hq
      have HUAT := Lib.hid huat
      have HXS := Lib.hid hxs
      have HX := Lib.hid hx
      have HU := Lib.hid hUget
      have HSU' := Lib.hid hsu
      have HIX := Lib.hid hix
      have HNL := Lib.hid hnl
      have q0 : (0 : Int) ≤ q := by omega
      have n0 : (0 : Int) ≤ n := by omega
      have n1 : (n : Int) ≤ 8 := by omega
      have HNAP := Lib.hid hnap
      clear huat hq hxs hx hUget hsu hix hnl hfa hfn hcg hsa hsn hnap hm4 hmul
      cases hc : s.cach[k]?.join with
      | none =>
        rw [hc] at hpn
        have hix' := HIX.out
        rw [hc] at hix'
        simp only [Option.isSome_none, Bool.false_eq_true, if_false, Nat.add_zero] at hix'
        have HIX' := Lib.hid hix'
        have HPA := Lib.hid hpa
        have HPN := Lib.hid hpn
        have HC := Lib.hid hc
        clear hpa hpn hix' hc
        by_cases hqn : q < n
        · have hux := List.getElem?_eq_getElem (l := s.unsynced) (i := q) (by have := HNL.out; omega)
          obtain ⟨i', hi1, hi2⟩ := HU.out q _ hux
          rw [hi1] at hux
          have hik : i' ≠ k := fun e => by rw [e, HC.out] at hi2; simp at hi2
          have hcu := HSU'.out.cell hux
          rw [Nat.zero_add] at hcu
          obtain ⟨cu', gu⟩ := HSU'.out.at (by intro e; rw [e] at hux; simp at hux)
          simp only [Value.slice.injEq] at gu
          obtain ⟨rfl, hgn, rfl⟩ := gu
          clear hgn
          have tq : ((i' : Int) == (k : Int)) = false := by simp; omega
          have q1 : (q : Int) < n := by omega
          clear hux hi1 hi2 hik
          go_wp2_with fail
          (with_reducible refine (same_any _ _ _ bwn m bwa m _ _ HPN.out HPA.out).mono ?_)
          rintro _ wz ⟨_, rfl, rfl, kz⟩
          have HDz := Lib.hid (HDC.out.kept kz (by simp))
          have HKz := Lib.hid (HKE.out.trans kz (by simp))
          clear kz
          rw [decide_eq_true rfl]
          go_wp2_with fail
          go_roundg (gk - 1)
          case measure => have := HK.out; omega
          case rel => exact ⟨k + 1, j, by have := HK.out; omega, by go_num, by rw [HIX'.out] <;> go_num, by have := HJK.out; omega, HDz.out, HKz.out⟩
        · go_wp2_with fail
          (with_reducible refine (same_any _ _ _ bwn m bwa m _ _ HPN.out HPA.out).mono ?_)
          rintro _ wz ⟨_, rfl, rfl, kz⟩
          have HDz := Lib.hid (HDC.out.kept kz (by simp))
          have HKz := Lib.hid (HKE.out.trans kz (by simp))
          clear kz
          rw [decide_eq_true rfl]
          go_wp2_with fail
          go_roundg (gk - 1)
          case measure => have := HK.out; omega
          case rel => exact ⟨k + 1, j, by have := HK.out; omega, by go_num, by rw [HIX'.out] <;> go_num, by have := HJK.out; omega, HDz.out, HKz.out⟩
      | some cc =>
        rw [hc] at hpn
        have hix' := HIX.out
        rw [hc] at hix'
        simp only [Option.isSome_some, if_true] at hix'
        have hux := HUAT.out (by rw [hc]; rfl)
        have hqn : q < n := by have := (List.getElem?_eq_some_iff.1 hux).1; have := HNL.out; omega
        have hcu := HSU'.out.cell hux
        rw [Nat.zero_add] at hcu
        obtain ⟨cu', gu⟩ := HSU'.out.at (by intro e; rw [e] at hux; simp at hux)
        simp only [Value.slice.injEq] at gu
        obtain ⟨rfl, hgn, rfl⟩ := gu
        clear hgn
        have q1 : (q : Int) < n := by omega
        have HIX' := Lib.hid hix'
        have HPA := Lib.hid hpa
        have HPN := Lib.hid hpn
        have HC := Lib.hid hc
        clear hpa hpn hix' hc hux
        by_cases hqt : q < ts.length
        · have q2 : (q : Int) < ts.length := by omega
          go_wp2_with fail
          (with_reducible refine (read_any _ bc Fc (s.ticks j) HDC.out ?hro (k : Int)).mono ?_)
          case hro => have e : (s.ticks j).ops = s.ops + j := rfl; have := HOP.out; have := HJK.out; omega
          rintro _ w12 ⟨_, rfl, ⟨rv, rfl, hrv, hd12⟩, k12⟩
          have hkl8 : k < (s.ticks j).last.length := by have := HL8.out; show k < s.last.length; omega
          rcases (s.ticks j).read_view k hkl8 with hrd | ⟨y, hy, hrd⟩
          · rw [hrd] at hrv ⊢
            dsimp only at hrv ⊢
            clear hrd
            go_wp2_with fail
            go_ret
            exact ⟨rfl, (HKW.out.trans k12 (fun g hg => .inr (by simp at hg; subst hg; exact HFCW.out _ HC8.out.fb))).below _ (Nat.le_refl _) (by simp)⟩
          · rw [hrd] at hrv ⊢
            dsimp only at hrv ⊢
            have hycc : y = cc := by
              rw [DiskS.view_get] at hy
              have e1 : (s.ticks j).last = s.last := rfl
              have e2 : (s.ticks j).cach = s.cach := rfl
              rw [e1, e2, HX.out, HC.out] at hy
              simpa using hy.symm
            subst hycc
            clear hrd hy hkl8
            have hk12 := HKE.out.trans k12 (fun g hg => .inl hg)
            have hkw12 : Kept w w12 [] := HKW.out.trans k12 (fun g hg => .inr (by simp at hg; subst hg; exact HFCW.out _ HC8.out.fb))
            have htw := HT.out.kept hkw12 (Nat.le_refl _) (by simp) (fun cs x h => h.kept hkw12 (Nat.le_refl _) (by simp))
            obtain ⟨tb, toff, tc, Ab, cb, et, p0, p1, hbt⟩ := tears_cells htw hqt
            simp only [Value.slice.injEq] at et
            obtain ⟨rfl, _, rfl⟩ := et
            have hn2 := HPN.out
            rw [List.getElem?_eq_getElem hqt, Option.getD_some] at hn2
            have hpa12 := HPA.out.kept k12 (.inr HNAP.out.1)
            have hpn12 := hn2.kept k12 (.inr HNAP.out.2)
            obtain ⟨b3, o3, h3, hB3, _⟩ := Sl.of_at hbt
            obtain ⟨brv, hsrv, _⟩ := hrv.sl
            obtain ⟨Arv, crv, rfl⟩ := hsrv.form
            generalize ts[q] = t at *
            have HPA12 := Lib.hid hpa12
            have HPN12 := Lib.hid hpn12
            have HS3 := Lib.hid h3
            have HBB3 := Lib.hid hB3
            have HSRV := Lib.hid hsrv
            have HD12 := Lib.hid hd12
            have HK12 := Lib.hid hk12
            have HXL : Hid (X.length ≤ 4096) := Lib.hid (by have := HXS.out.1; omega)
            clear hn2 hpa12 hpn12 h3 hB3 hsrv hrv hd12 hk12 hkw12 htw hbt k12
            go_wp2_with fail
            (with_reducible refine (left_any _ _ _ _ bwa m brv 0 b3 o3 _ _ t HPA12.out HSRV.out HS3.out HBB3.out HXL.out).mono ?_)
            rintro _ w13 ⟨r, rfl, ⟨br, or', hr⟩, k13⟩
            obtain ⟨Ar, cr, rfl⟩ := hr.form
            have HPN13 := Lib.hid (HPN12.out.kept k13 (.inr (by simp)))
            have HD13 : Hid (DiskAt w13 bc Fc (s.ticks (j + 1))) := Lib.hid (HD12.out.kept k13 (by simp))
            have HK13 := Lib.hid (HK12.out.trans k13 (by simp))
            have HR13 := Lib.hid hr
            clear hr k13
            go_wp2_with fail
            (with_reducible refine (same_any _ _ _ bwn m br or' _ _ HPN13.out HR13.out).mono ?_)
            rintro _ wz ⟨_, rfl, rfl, kz⟩
            have HDz := Lib.hid (HD13.out.kept kz (by simp))
            have HKz := Lib.hid (HK13.out.trans kz (by simp))
            clear kz
            rw [decide_eq_true rfl]
            go_wp2_with fail
            go_roundg (gk - 1)
            case measure => have := HK.out; omega
            case rel => exact ⟨k + 1, j + 1, by have := HK.out; omega, by go_num, by rw [HIX'.out] <;> go_num, by have := HJK.out; omega, HDz.out, HKz.out⟩
        · have hn2 := HPN.out
          rw [List.getElem?_eq_none (by omega), Option.getD_none] at hn2
          dsimp only at hn2
          rw [show left X cc oldT = X from by simp [left, oldT]] at hn2
          have HPN2 := Lib.hid hn2
          clear hn2
          go_wp2_with fail
          (with_reducible refine (same_any _ _ _ bwn m bwa m _ _ HPN2.out HPA.out).mono ?_)
          rintro _ wz ⟨_, rfl, rfl, kz⟩
          have HDz := Lib.hid (HDC.out.kept kz (by simp))
          have HKz := Lib.hid (HKE.out.trans kz (by simp))
          clear kz
          rw [decide_eq_true rfl]
          go_wp2_with fail
          go_roundg (gk - 1)
          case measure => have := HK.out; omega
          case rel => exact ⟨k + 1, j, by have := HK.out; omega, by go_num, by rw [HIX'.out] <;> go_num, by have := HJK.out; omega, HDz.out, HKz.out⟩
    · have hk8 : k = 8 := by have := HK.out; omega
      clear hlt
      subst hk8
      have hul := HUL.out
      rw [← hul]
      have tn : ((n : Int) == (n : Int)) = true := by simp
      clear hul
      go_wp2_with fail
      go_ret
      exact ⟨rfl, HKW.out.below _ (Nat.le_refl _) (by simp)⟩
end Go.Proofs.Ytihfbceafehcjaa
