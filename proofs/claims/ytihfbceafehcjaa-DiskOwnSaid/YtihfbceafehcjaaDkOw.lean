/- PROVED: the walk of DiskOwn. No conditions beyond those that each theorem states. -/
import Derived.Test.YtihfbceafehcjaaDkCp
import Derived.Test.YtihfbceafehcjaaDkCo
namespace Go.Proofs.Ytihfbceafehcjaa
open Go.RowKit Go.Proofs.YtihfbceafehcjaaLib Go.WideElems Go.Maps
set_option linter.unusedSimpArgs false
set_option linter.unusedVariables false

theorem write_view (s : DiskS) (k : Nat) (bL : List Int) (hk : k < s.last.length) (hl : bL.length = s.size) : (s.write k bL).2 = 3 ∨ ((s.write k bL).2 = 0 ∧ (s.write k bL).1 = { s.tick with cach := s.cach.set k (some bL), writes := s.writes + 1 }) := by
  unfold DiskS.write
  split
  · exact .inl rfl
  · rw [if_neg (by omega), if_neg (by omega), if_neg (by omega)]
    exact .inr ⟨rfl, rfl⟩
set_option maxRecDepth 100000 in
set_option maxHeartbeats 8000000 in
theorem DiskOwn_walk (w : World) (v : Value) (l : List DkOp) (b0 b1 b2 b3 i x : Int) (h : SliceAt (OpK w.heap.size) 4 w w.heap.size v l) (hB : Bts [b0, b1, b2, b3]) (i0 : 0 ≤ i) (i1 : i ≤ 255) (x0 : 0 ≤ x) (x1 : x ≤ 255) :
    Calls Try.prog 6 #[v, .agg #[.int .u8 b0, .int .u8 b1, .int .u8 b2, .int .u8 b3], .int .u8 i, .int .u8 x] w (fun e W => e = .returned (.bool true) ∧ Below w.heap.size w W) := by
  obtain ⟨A, c, rfl, hc1, hc2⟩ := SliceAt.form h
  have H := Lib.hid h
  have HBT := Lib.hid hB
  unfold maxLen at hc2
  have l0 : (0 : Int) ≤ l.length := by omega
  have l1 : (l.length : Int) ≤ 9223372036854775807 := by omega
  clear h hc2 hB
  obtain ⟨j0, hi, hz0, hz1, hz2⟩ := info_parts info8
  have HI := Lib.hid hi
  have HZ0 := Lib.hid hz0
  have HZ1 := Lib.hid hz1
  have HZ2 := Lib.hid hz2
  clear hi hz0 hz1 hz2
  go_enter Try.func6, Try.ntmps6
  go_wp2_with fail
  generalize hwb : w.alloc (.cells #[.int .u8 b0, .int .u8 b1, .int .u8 b2, .int .u8 b3] 56) = wb
  have kb : Kept w wb [] := by rw [← hwb]; exact (Kept.refl _ _).alloc _
  have hbx : Blk wb w.heap.size 56 [.int .u8 b0, .int .u8 b1, .int .u8 b2, .int .u8 b3] := by rw [← hwb]; exact Blk.new _ _ _
  have HBX := Lib.hid hbx
  have KB := Lib.hid kb
  clear hwb hbx kb
  (with_reducible refine (awake_any _).mono ?_)
  rintro _ w1 ⟨_, rfl, rfl, k1⟩
  have K1 := Lib.hid (KB.out.trans k1 (by simp))
  have HB1 := Lib.hid (HBX.out.kept k1 (by simp))
  clear k1
  go_wp2_with fail
  (with_reducible refine (few_any _ _ _ _ _ (K_ops H.out K1.out (Nat.le_refl _))).mono ?_)
  rintro _ w2 ⟨_, rfl, ⟨y, rfl, hy⟩, k2⟩
  have K2 := Lib.hid (K1.out.trans k2 (by simp))
  have HB2 := Lib.hid (HB1.out.kept k2 (by simp))
  have HY := Lib.hid hy
  clear k2 hy
  cases y with
  | false =>
    go_wp2_with fail
    go_ret
    exact ⟨rfl, K2.out.below _ (Nat.le_refl _) (by simp)⟩
  | true =>
  have HL40 := Lib.hid (HY.out rfl)
  clear HY
  go_wp2_with fail
  (with_reducible refine (made_any _ w.heap.size _ l (K_ops H.out K2.out (Nat.le_refl _)) K2.out.size HL40.out).mono ?_)
  rintro _ w3 ⟨_, rfl, ⟨b, F, rfl, hd, hF⟩, k3⟩
  have K3 := Lib.hid (K2.out.trans k3 (by simp))
  have K23 : Hid (w2.heap.size ≤ w3.heap.size) := Lib.hid k3.size
  have HB3 := Lib.hid (HB2.out.kept k3 (by simp))
  have HF : Hid (∀ g, g ∈ F → w2.heap.size ≤ g) := Lib.hid hF
  have hsh := DiskS.run_shape (DiskS.new 8 4) l rfl
  have hle := DiskS.run_le (DiskS.new 8 4) l
  generalize (DiskS.new 8 4).run l = s at *
  have hl8 : s.last.length = 8 := hsh.1
  have hs4 : s.size = 4 := hsh.2.1
  have hop : s.ops ≤ 40 := by have h1 := hle.1; have h2 : (DiskS.new 8 4).ops = 0 := rfl; have := HL40.out; omega
  have HD := Lib.hid hd
  have HL8 := Lib.hid hl8
  have HS4 := Lib.hid hs4
  have HOP := Lib.hid hop
  have HNC := Lib.hid hd.ok.nc
  clear hsh hle hd hF hl8 hs4 hop k3
  obtain ⟨k, hkk⟩ : ∃ k : Nat, (k : Int) = i % 8 := ⟨(i % 8).toNat, by omega⟩
  have hk8 : k < 8 := by omega
  have ek : i % 8 = (k : Int) := hkk.symm
  have k0 : (0 : Int) ≤ k := by omega
  have k7 : (k : Int) < 8 := by omega
  clear hkk
  have hbox := HB3.out
  have hbsl := Sl.of_blk (k := .u8) [b0, b1, b2, b3] hbox rfl 4 (Nat.le_refl _) (by unfold maxLen; omega)
  have hE := World.ownsRow_made (base := w3.heap.size) (e := 5) (size := 1) w3 #[] 0 (Nat.le_refl _) (Nat.zero_le _) rfl
  have hE' : Own 5 .u8 (w3.alloc (.cells #[] 5)) w3.heap.size (.slice (some ⟨w3.heap.size, 0, none⟩) 0 0) [] := hE
  obtain ⟨v4, w4, hap, ho4, k4⟩ := own_append (P := Try.prog) Try.underlying22 HI.out HZ0.out HZ1.out HZ2.out hE' (hbsl.kept ((Kept.refl w3 []).alloc _) (.inr (by simp))) (by simp) (by unfold maxLen; simp) (by simp) 22
  have k34 : Kept w3 w4 [] := ((Kept.refl w3 []).alloc _).trans k4 (by simp [Value.ownBlock])
  rw [List.nil_append] at ho4
  have HAP := Lib.hid hap
  have HO4 := Lib.hid ho4
  have HD4 := Lib.hid (HD.out.kept k34 (by simp))
  have HB4 := Lib.hid (HB3.out.kept k34 (by simp))
  have K4 := Lib.hid (K3.out.trans k34 (by simp))
  obtain ⟨c4, hv4⟩ : ∃ c4, v4 = .slice (some ⟨(v4.ownBlock.getD 0), 0, none⟩) 4 c4 := by
    obtain ⟨bb, hs, h5⟩ := ho4.sl
    obtain ⟨cc, e⟩ := hs.at (by simp)
    exact ⟨cc, by rw [e]; rfl⟩
  generalize v4.ownBlock.getD 0 = g4 at hv4
  subst hv4
  have HA4 : Hid (∀ g, g ∈ F → g < g4 ∧ g ≠ g4) := Lib.hid (fun g hg => by have h1 := HD.out.lt g hg; have h2 := (ho4.lt g4 (by simp [Value.ownBlock])).1; omega)
  have HG4 : Hid (w3.heap.size ≤ g4) := Lib.hid (ho4.lt g4 (by simp [Value.ownBlock])).1
  clear hbox hbsl hE hE' hap ho4 k4 k34
  go_wp2_with (first | (at_builtin; refine wpList_append_run rfl _ _ _ rfl rfl rfl HAP.out ?_))
  (with_reducible refine (write_any _ b F s HD4.out ?hwo (k : Int) _ g4 0 [b0, b1, b2, b3] ?hwsl ?hwq HBT.out).mono ?_)
  case hwo => have := HOP.out; omega
  case hwsl =>
    obtain ⟨bb, hs, h5⟩ := HO4.out.sl
    obtain rfl : g4 = bb := by rcases h5 with h5 | h5; simp at h5; simpa [Value.ownBlock] using h5.1
    exact hs
  case hwq => exact .inr (fun hm => (HA4.out _ hm).2 rfl)
  rintro _ w5 ⟨_, rfl, ⟨rfl, F5, hF5, hd5⟩, k5⟩
  have HO5 := Lib.hid (HO4.out.kept k5 (by intro g hg hm; simp [Value.ownBlock] at hg; subst hg; exact (HA4.out _ hm).2 rfl))
  have HB5 := Lib.hid (HB4.out.kept k5 (fun hm => by have h1 := HF.out _ hm; have h2 := HB2.out.lt; omega))
  have K5 := Lib.hid (K4.out.trans k5 (fun g hg => .inr (Nat.le_trans K2.out.size (HF.out g hg))))
  have HD5 := Lib.hid hd5
  have HF5 : Hid (∀ g, g ∈ F5 → w2.heap.size ≤ g) := Lib.hid (fun g hg => (hF5 g hg).elim (HF.out g) (fun h => by have h1 := HB2.out.lt; have h2 := HD.out.lt; have h3 := HG4.out; have h4 := (HO4.out.lt g4 (by simp [Value.ownBlock])).2; have h5 := K23.out; omega))
  have HG5 : Hid (∀ g, g ∈ [g4] → g ∉ F5) := Lib.hid (fun g hg hm => by
    simp at hg; subst hg
    rcases hF5 _ hm with h | h
    · exact (HA4.out _ h).2 rfl
    · have := (HO4.out.lt g (by simp [Value.ownBlock])).2; omega)
  have HWB : Hid (w.heap.size < w2.heap.size) := Lib.hid HB2.out.lt
  have hwv := write_view s k [b0, b1, b2, b3] (by have := HL8.out; omega) (by rw [HS4.out]; rfl)
  have HWV := Lib.hid hwv
  have HOWN : Hid (Own 5 .u8 w5 w3.heap.size (.slice (some ⟨g4, 0, none⟩) 4 c4) [b0, b1, b2, b3] ∧ [b0, b1, b2, b3].length = 4) := Lib.hid ⟨HO5.out, rfl⟩
  generalize he : (s.write (k : Int) [b0, b1, b2, b3]).2 = er at *
  generalize hs5 : (s.write (k : Int) [b0, b1, b2, b3]).1 = s5 at *
  have ho5 : s5.ops ≤ 41 := by rw [← hs5, DiskS.write_ops]; have := HOP.out; omega
  have HO5' := Lib.hid ho5
  clear hwv he hs5 hF5 hd5 k5 ho5
  go_wp2_with fail
  go_loopg [15] 4 (fun g i wr => ∃ (n : Nat) (L : List Int), n + g = 4 ∧ i = .int .i64 n ∧ L.length = 4 ∧ Own 5 .u8 wr w3.heap.size (.slice (some ⟨g4, 0, none⟩) 4 c4) L ∧ Kept w5 wr [g4])
  case atStart => exact ⟨0, _, by omega, rfl, HOWN.out.2, HOWN.out.1, Kept.refl _ _⟩
  case round =>
    obtain ⟨n, L, hn, rfl, hL, hro, hkr⟩ := hrel
    have HN := Lib.hid hn
    have HLL := Lib.hid hL
    have HRO := Lib.hid hro
    have HKR := Lib.hid hkr
    clear hn hL hro hkr
    by_cases hlt : n < 4
    · have n0 : (0 : Int) ≤ n := by omega
      have n1 : (n : Int) < 4 := by omega
      have hcell : wr.cell? ⟨g4, n, none⟩ = some (.int .u8 (L[n]'(by rw [HLL.out]; exact hlt))) := by
        obtain ⟨bb, hs, h5⟩ := HRO.out.sl
        rcases h5 with h5 | h5
        · have := HLL.out; rw [h5] at this; simp at this
        · obtain rfl : g4 = bb := by simpa [Value.ownBlock] using h5.1
          have := hs.cell (List.getElem?_eq_getElem (show n < L.length by rw [HLL.out]; exact hlt))
          rwa [Nat.zero_add] at this
      have hfree := HRO.out.free (b := g4) (by simp [Value.ownBlock]) n
      go_wp2_with fail
      go_roundg (gk - 1)
      case measure => have := HN.out; omega
      case rel => exact ⟨n + 1, L.set n x, by have := HN.out; omega, by go_num, by rw [List.length_set]; exact HLL.out, HRO.out.set (by simp [Value.ownBlock]) n x (by rw [HLL.out]; exact hlt), HKR.out.setCell (by simp) _⟩
    · have en : n = 4 := by have := HN.out; omega
      clear hlt HN
      subst en
      have HD6 := Lib.hid (HD5.out.kept HKR.out HG5.out)
      have K6 := Lib.hid (K5.out.trans HKR.out (fun g hg => .inr (by simp at hg; subst hg; have h1 := HG4.out; have h2 := K3.out.size; omega)))
      have HB6 := Lib.hid (HB5.out.kept HKR.out (by have h1 := HG4.out; have h2 := HB3.out.lt; simp; omega))
      clear HRO HKR HLL
      go_wp2_with fail
      (with_reducible refine (read_any _ b F5 s5 HD6.out ?hro (k : Int)).mono ?_)
      case hro => have := HO5'.out; omega
      rintro _ w7 ⟨_, rfl, ⟨rv, rfl, hrv, hd7⟩, k7⟩
      have hnb7 : w.heap.size ∉ [b] := by have h1 := HF5.out b HD6.out.fb; have h2 := HWB.out; simp; omega
      have HB7 := Lib.hid (HB6.out.kept k7 hnb7)
      have K7 := Lib.hid (K6.out.trans k7 (fun g hg => .inr (by simp at hg; subst hg; exact Nat.le_trans K2.out.size (HF5.out _ HD6.out.fb))))
      have HD7 := Lib.hid hd7
      have HK67 := Lib.hid k7
      clear hnb7 k7 hd7
      rcases HWV.out with q3 | ⟨q0, qs⟩
      · subst q3
        generalize (s5.read (k : Int)).2 = f at *
        obtain ⟨Ar, cr, rfl⟩ := hrv.sl.choose_spec.1.form
        generalize (s5.read (k : Int)).1.length = nn at *
        go_wp2_with fail
        go_ret
        exact ⟨rfl, K7.out.below _ (Nat.le_refl _) (by simp)⟩
      subst q0
      have hls : s5.last = s.last := by rw [qs]; rfl
      have hkl : k < s5.last.length := by rw [hls]; have := HL8.out; omega
      have hck : s5.cach[k]?.join = some [b0, b1, b2, b3] := by rw [qs]; show (s.cach.set k (some [b0, b1, b2, b3]))[k]?.join = _; rw [List.getElem?_set, if_pos rfl, if_pos (by rw [HNC.out]; have := HL8.out; omega)]; rfl
      have hvw : s5.view[k]? = some [b0, b1, b2, b3] := by rw [DiskS.view_get, List.getElem?_eq_getElem hkl, hck]; rfl
      have hrr : ∀ s' : DiskS, s'.last = s5.last → s'.cach = s5.cach → s'.read (k : Int) = ([], 3) ∨ s'.read (k : Int) = ([b0, b1, b2, b3], 0) := fun s' e1 e2 => by
        rcases s'.read_view k (by rw [e1]; exact hkl) with h | ⟨y, hy, h⟩
        · exact .inl h
        · rw [DiskS.view_get, e1, e2, ← DiskS.view_get, hvw] at hy
          simp only [Option.some.injEq] at hy
          exact .inr (by rw [h, ← hy])
      have hb32 : s5.tick.bytes.length = 32 := by
        have h1 := HD7.out.ok.bytes_len
        have h2 : s5.tick.last.length = 8 := by show s5.last.length = 8; rw [hls]; exact HL8.out
        have h3 : s5.tick.size = 4 := by show s5.size = 4; rw [qs]; exact HS4.out
        rw [h1, h2, h3]
      have HB32 := Lib.hid hb32
      have HV7 := Lib.hid (hrr s5.tick rfl rfl)
      have hr5 := hrr s5 rfl rfl
      have HO7 : Hid (s5.tick.ops < 1000000000) := Lib.hid (by have e : s5.tick.ops = s5.ops + 1 := rfl; have := HO5'.out; omega)
      clear qs hls hkl hck hvw hrr hb32
      rcases hr5 with hrd | hrd
      · rw [hrd] at hrv ⊢
        dsimp only at hrv ⊢
        clear hrd
        obtain ⟨Ar, cr, rfl⟩ := hrv.sl.choose_spec.1.form
        go_wp2_with fail
        go_ret
        exact ⟨rfl, K7.out.below _ (Nat.le_refl _) (by simp)⟩
      rw [hrd] at hrv ⊢
      dsimp only at hrv ⊢
      clear hrd
      have HRVB : Hid (∀ g, rv.ownBlock = some g → wr.heap.size ≤ g) := Lib.hid (fun g hg => (hrv.lt g hg).1)
      obtain ⟨gr, hsrv, h5r⟩ := hrv.sl
      obtain ⟨cr, rfl⟩ := hsrv.at (by simp)
      have HSRV := Lib.hid hsrv
      have HRV := Lib.hid hrv
      have hbs := Sl.of_blk (k := .u8) [b0, b1, b2, b3] HB7.out rfl 4 (Nat.le_refl _) (by unfold maxLen; omega)
      have HBS := Lib.hid hbs
      have HGR : Hid (wr.heap.size ≤ gr) := Lib.hid (HRVB.out gr (by simp [Value.ownBlock]))
      clear hbs hsrv hrv h5r HRVB
      simp only [List.length_cons, List.length_nil, Nat.zero_add, Nat.reduceAdd] at *
      go_wp2_with fail
      (with_reducible refine (same_any _ _ _ gr 0 w.heap.size 0 _ _ HSRV.out HBS.out).mono ?_)
      rintro _ w8 ⟨_, rfl, rfl, k8⟩
      have HD8 := Lib.hid (HD7.out.kept k8 (by simp))
      have HB8 := Lib.hid (HB7.out.kept k8 (by simp))
      have HRV8 := Lib.hid (HRV.out.kept k8 (by simp [Apart]))
      have K8 := Lib.hid (K7.out.trans k8 (by simp))
      have HGF : Hid (∀ g, g ∈ [gr] → g ∉ F5) := Lib.hid (fun g hg hm => by simp at hg; subst hg; have h1 := HGR.out; have h2 := HD6.out.lt g hm; omega)
      clear k8
      rw [decide_eq_true rfl]
      have HOWN2 : Hid (Own 5 .u8 w8 w.heap.size (.slice (some ⟨gr, 0, none⟩) 4 cr) [b0, b1, b2, b3] ∧ [b0, b1, b2, b3].length = 4) := Lib.hid ⟨Own.mono HRV8.out K6.out.size, rfl⟩
      have hgw : w.heap.size < gr := by have h1 := HGR.out; have h2 := HB6.out.lt; omega
      have HGW := Lib.hid hgw
      clear hgw
      go_wp2_with fail
      go_loopg [18] 4 (fun g i wr => ∃ (n : Nat) (L : List Int), n + g = 4 ∧ i = .int .i64 n ∧ L.length = 4 ∧ Own 5 .u8 wr w.heap.size (.slice (some ⟨gr, 0, none⟩) 4 cr) L ∧ Kept w8 wr [gr])
      case atStart => exact ⟨0, _, by omega, rfl, HOWN2.out.2, HOWN2.out.1, Kept.refl _ _⟩
      case round =>
        obtain ⟨n, L, hn, rfl, hL, hro, hkr⟩ := hrel
        have HN := Lib.hid hn
        have HLL := Lib.hid hL
        have HRO := Lib.hid hro
        have HKR := Lib.hid hkr
        clear hn hL hro hkr
        by_cases hlt : n < 4
        · have n0 : (0 : Int) ≤ n := by omega
          have n1 : (n : Int) < 4 := by omega
          have hcell : wr.cell? ⟨gr, n, none⟩ = some (.int .u8 (L[n]'(by rw [HLL.out]; exact hlt))) := by
            obtain ⟨bb, hs, h5⟩ := HRO.out.sl
            rcases h5 with h5 | h5
            · have := HLL.out; rw [h5] at this; simp at this
            · obtain rfl : gr = bb := by simpa [Value.ownBlock] using h5.1
              have := hs.cell (List.getElem?_eq_getElem (show n < L.length by rw [HLL.out]; exact hlt))
              rwa [Nat.zero_add] at this
          have hfree := HRO.out.free (b := gr) (by simp [Value.ownBlock]) n
          go_wp2_with fail
          go_roundg (gk - 1)
          case measure => have := HN.out; omega
          case rel => exact ⟨n + 1, L.set n x, by have := HN.out; omega, by go_num, by rw [List.length_set]; exact HLL.out, HRO.out.set (by simp [Value.ownBlock]) n x (by rw [HLL.out]; exact hlt), HKR.out.setCell (by simp) _⟩
        · have en : n = 4 := by have := HN.out; omega
          clear hlt HN
          subst en
          have HD9 := Lib.hid (HD8.out.kept HKR.out HGF.out)
          have K9 := Lib.hid (K8.out.trans HKR.out (fun g hg => .inr (by simp at hg; subst hg; exact Nat.le_of_lt HGW.out)))
          have HB9 := Lib.hid (HB8.out.kept HKR.out (by have := HGW.out; simp; omega))
          clear HRO HKR HLL
          have HBB : Hid (s5.tick.bytes.length = 32) := HB32
          generalize s5.tick = s7 at *
          go_wp2_with fail
          (with_reducible refine (bytes_any _ b F5 s7 HD9.out).mono ?_)
          rintro _ w10 ⟨va, rfl, hva, k10⟩
          have HGAL : Hid (∀ g, va.ownBlock = some g → wr.heap.size ≤ g) := Lib.hid (fun g hg => (hva.lt g hg).1)
          obtain ⟨ga, hsa, h5a⟩ := hva.sl
          obtain ⟨ca, rfl⟩ := hsa.at (by intro e; have := HBB.out; rw [e] at this; simp at this)
          have hga1 : wr.heap.size ≤ ga := HGAL.out ga (by simp [Value.ownBlock])
          have hga2 := (hva.lt ga (by simp [Value.ownBlock])).2
          have HVA := Lib.hid hva
          have HD10 := Lib.hid (HD9.out.kept k10 (by simp))
          have HB10 := Lib.hid (HB9.out.kept k10 (by simp))
          have K10 := Lib.hid (K9.out.trans k10 (by simp))
          have HGA : Hid (∀ g, g ∈ [ga] → g ∉ F5) := Lib.hid (fun g hg hm => by simp at hg; subst hg; have h2 := HD9.out.lt g hm; omega)
          have HGAB : Hid (w.heap.size < ga) := Lib.hid (by have := HB9.out.lt; omega)
          have HGAW : Hid (w.heap.size ≤ ga) := Lib.hid (by have := HB9.out.lt; omega)
          have HGA2 := Lib.hid hga2
          clear hva k10 hsa h5a hga1 hga2 HGAL
          go_wp2_with fail
          (with_reducible refine (bytes_any _ b F5 s7 HD10.out).mono ?_)
          rintro _ w11 ⟨vw, rfl, hvw, k11⟩
          have HD11 := Lib.hid (HD10.out.kept k11 (by simp))
          have HB11 := Lib.hid (HB10.out.kept k11 (by simp))
          have K11 := Lib.hid (K10.out.trans k11 (by simp))
          have HW11L : Hid (∀ g, vw.ownBlock = some g → ga < g) := Lib.hid (fun g hg => by have h1 := (hvw.lt g hg).1; have h2 := HGA2.out; omega)
          have HWF : Hid (∀ g, vw.ownBlock = some g → g ∉ F5) := Lib.hid (fun g hg hm => by have h1 := (hvw.lt g hg).1; have h2 := HD10.out.lt g hm; omega)
          have HW11 := Lib.hid hvw
          have HVA11 := HVA.out.kept k11 (by simp [Apart])
          obtain ⟨Aw, cw, rfl⟩ := hvw.sl.choose_spec.1.form
          have hown3 := Own.mono (base' := w.heap.size) HVA11 (by have h1 := K9.out.size; exact h1)
          rw [HBB.out] at hown3
          have HOWN3 : Hid (Own 5 .u8 w11 w.heap.size (.slice (some ⟨ga, 0, none⟩) 32 ca) s7.bytes ∧ s7.bytes.length = 32) := Lib.hid ⟨hown3, HBB.out⟩
          rw [HBB.out]
          clear hvw k11 HVA11 hown3
          go_wp2_with fail
          go_loopg [21] 32 (fun g i wr => ∃ (n : Nat) (L : List Int), n + g = 32 ∧ i = .int .i64 n ∧ L.length = 32 ∧ Own 5 .u8 wr w.heap.size (.slice (some ⟨ga, 0, none⟩) 32 ca) L ∧ Kept w11 wr [ga])
          case atStart => exact ⟨0, _, by omega, rfl, HOWN3.out.2, HOWN3.out.1, Kept.refl _ _⟩
          case round =>
            obtain ⟨n, L, hn, rfl, hL, hro, hkr⟩ := hrel
            have HN := Lib.hid hn
            have HLL := Lib.hid hL
            have HRO := Lib.hid hro
            have HKR := Lib.hid hkr
            clear hn hL hro hkr
            by_cases hlt : n < 32
            · have n0 : (0 : Int) ≤ n := by omega
              have n1 : (n : Int) < 32 := by omega
              have hcell : wr.cell? ⟨ga, n, none⟩ = some (.int .u8 (L[n]'(by rw [HLL.out]; exact hlt))) := by
                obtain ⟨bb, hs, h5⟩ := HRO.out.sl
                rcases h5 with h5 | h5
                · have := HLL.out; rw [h5] at this; simp at this
                · obtain rfl : ga = bb := by simpa [Value.ownBlock] using h5.1
                  have := hs.cell (List.getElem?_eq_getElem (show n < L.length by rw [HLL.out]; exact hlt))
                  rwa [Nat.zero_add] at this
              have hfree := HRO.out.free (b := ga) (by simp [Value.ownBlock]) n
              go_wp2_with fail
              go_roundg (gk - 1)
              case measure => have := HN.out; omega
              case rel => exact ⟨n + 1, L.set n x, by have := HN.out; omega, by go_num, by rw [List.length_set]; exact HLL.out, HRO.out.set (by simp [Value.ownBlock]) n x (by rw [HLL.out]; exact hlt), HKR.out.setCell (by simp) _⟩
            · have en : n = 32 := by have := HN.out; omega
              clear hlt HN
              subst en
              have HD12 := Lib.hid (HD11.out.kept HKR.out HGA.out)
              have K12 := Lib.hid (K11.out.trans HKR.out (fun g hg => .inr (by simp at hg; subst hg; exact HGAW.out)))
              have HB12 := Lib.hid (HB11.out.kept HKR.out (by have := HGAB.out; simp; omega))
              have HW12 := Lib.hid (HW11.out.kept HKR.out (by intro g hg hm; simp at hm; subst hm; have := (HW11L.out _ hg); omega))
              clear HRO HKR HLL
              go_wp2_with fail
              (with_reducible refine (read_any _ b F5 s7 HD12.out HO7.out (k : Int)).mono ?_)
              rintro _ w13 ⟨_, rfl, ⟨rv, rfl, hrv, hd13⟩, k13⟩
              have hnb13 : w.heap.size ∉ [b] := by have h1 := HF5.out b HD12.out.fb; have h2 := HWB.out; simp; omega
              have HB13 := Lib.hid (HB12.out.kept k13 hnb13)
              have HW13 := Lib.hid (HW12.out.kept k13 (by intro g hg hm; simp at hm; subst hm; exact HWF.out _ hg HD12.out.fb))
              have K13 := Lib.hid (K12.out.trans k13 (fun g hg => .inr (by simp at hg; subst hg; exact Nat.le_trans K2.out.size (HF5.out _ HD12.out.fb))))
              have HD13 := Lib.hid hd13
              clear hnb13 k13 hd13
              rcases HV7.out with hrd | hrd
              · rw [hrd] at hrv ⊢
                dsimp only at hrv ⊢
                clear hrd hrv
                go_wp2_with fail
                (with_reducible refine (bytes_any _ b F5 _ HD13.out).mono ?_)
                rintro _ w14 ⟨v14, rfl, hv14, k14⟩
                obtain ⟨b14, hs14, _⟩ := hv14.sl
                obtain ⟨bw14, hsw14, _⟩ := (HW13.out.kept k14 (by simp [Apart])).sl
                have e14 : s7.tick.bytes = s7.bytes := rfl
                rw [e14] at hs14
                rw [HBB.out] at hsw14
                have HS14 := Lib.hid hs14
                have HSW14 := Lib.hid hsw14
                have K14 := Lib.hid (K13.out.trans k14 (by simp))
                clear hv14 k14 hs14 hsw14 e14
                go_wp2_with fail
                (with_reducible refine (same_any _ _ _ b14 0 bw14 0 _ _ HS14.out HSW14.out).mono ?_)
                rintro _ w15 ⟨_, rfl, rfl, k15⟩
                have K15 := Lib.hid (K14.out.trans k15 (by simp))
                clear k15
                rw [decide_eq_true rfl]
                go_wp2_with fail
                go_ret
                exact ⟨rfl, K15.out.below _ (Nat.le_refl _) (by simp)⟩
              · rw [hrd] at hrv ⊢
                dsimp only at hrv ⊢
                clear hrd
                obtain ⟨brv, hsrv, _⟩ := hrv.sl
                have HSRV := Lib.hid hsrv
                have hbs : Sl .u8 w13 (.slice (some ⟨w.heap.size, 0, none⟩) 4 4) w.heap.size 0 [b0, b1, b2, b3] := Sl.of_blk (k := .u8) [b0, b1, b2, b3] HB13.out rfl 4 (Nat.le_refl _) (by unfold maxLen; omega)
                have HBS := Lib.hid hbs
                clear hbs hsrv
                go_wp2_with fail
                (with_reducible refine (same_any _ _ _ brv 0 w.heap.size 0 _ _ HSRV.out HBS.out).mono ?_)
                rintro _ w14 ⟨_, rfl, rfl, k14⟩
                have HD14 := Lib.hid (HD13.out.kept k14 (by simp))
                have HW14 := Lib.hid (HW13.out.kept k14 (by simp [Apart]))
                have K14 := Lib.hid (K13.out.trans k14 (by simp))
                clear k14 hrv
                rw [decide_eq_true rfl]
                go_wp2_with fail
                (with_reducible refine (bytes_any _ b F5 _ HD14.out).mono ?_)
                rintro _ w15 ⟨v15, rfl, hv15, k15⟩
                obtain ⟨b15, hs15, _⟩ := hv15.sl
                obtain ⟨bw15, hsw15, _⟩ := (HW14.out.kept k15 (by simp [Apart])).sl
                have e15 : s7.tick.bytes = s7.bytes := rfl
                rw [e15] at hs15
                rw [HBB.out] at hsw15
                have HS15 := Lib.hid hs15
                have HSW15 := Lib.hid hsw15
                have K15 := Lib.hid (K14.out.trans k15 (by simp))
                clear hv15 k15 hs15 hsw15 e15
                go_wp2_with fail
                (with_reducible refine (same_any _ _ _ b15 0 bw15 0 _ _ HS15.out HSW15.out).mono ?_)
                rintro _ w16 ⟨_, rfl, rfl, k16⟩
                have K16 := Lib.hid (K15.out.trans k16 (by simp))
                clear k16
                rw [decide_eq_true rfl]
                go_wp2_with fail
                go_ret
                exact ⟨rfl, K16.out.below _ (Nat.le_refl _) (by simp)⟩
end Go.Proofs.Ytihfbceafehcjaa
