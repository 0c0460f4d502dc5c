/- PROVED: the contracts of the chip's methods that judge an address's bytes, and a data byte. No conditions beyond those that each theorem states. -/
import Derived.Test.YtdpiaibjpaalhaaDoorEpD
namespace Go.Proofs.YtdpiaibjpaalhaaDoor
open Go.RowKit Go.Proofs.YtdpiaibjpaalhaaDoorLib Go.WideElems Go.Maps Go.ChangeMaps
set_option linter.unusedSimpArgs false
set_option linter.unusedVariables false

/-- the chip's block has turned, a variable with the chip is new, and next is something else -/
theorem ChipX.boxed {w W : World} {b : Nat} {F : List Nat} {s : EpS} {bw : Nat} {vd vn vc vw : Value} (h : ChipX w b F s bw vd vn vc vw) (s' : EpS) (vn' v : Value) (hok : s'.Ok) (hk : Kept w W [b]) (hb : Blk W b 71 (EpS.cells s' b bw vd vn' vc vw))
    (e1 : s'.data = s.data) (e2 : s'.scl = s.scl) (e3 : s'.sda = s.sda) (e4 : s'.coll = s.coll) (e5 : s'.waits = s.waits) (e6 : s.clock ≤ s'.clock) (e7 : s'.hasMap = s.hasMap) (hx : Blk W w.heap.size 27 [pt b]) (hn : Box W (w.heap.size :: F) b w.heap.size → NxOf W (w.heap.size :: F) b vn' s'.nx) :
    Post w F (fun r W => r = v ∧ Leaves w b F s' W) (.returned v) W := by
  refine ⟨_, rfl, ⟨rfl, w.heap.size :: F, Grows.cons (Nat.le_refl _), bw, vd, vn', vc, vw, h.turn hk hok hb e1 e2 e3 e4 e5 e6 e7 (hn ⟨hx, List.mem_cons_self ..⟩) (fun g hg => List.mem_cons_of_mem _ hg) ?_ ?_⟩, h.one hk⟩
  · intro g hg
    rcases List.mem_cons.1 hg with rfl | hg
    · exact hx.lt
    · exact Nat.lt_of_lt_of_le (h.lt g hg) hk.size
  · intro g hg
    rcases List.mem_cons.1 hg with rfl | hg
    · exact Nat.le_of_lt (Nat.lt_of_le_of_lt (h.lo b h.fb) (h.lt b h.fb))
    · exact h.lo g hg
theorem ChipX.remap {w W : World} {b : Nat} {F : List Nat} {s : EpS} {bw : Nat} {vd vn vc vw : Value} (h : ChipX w b F s bw vd vn vc vw) (s' : EpS) (F' : List Nat) (vn' vc' v : Value) (hok : s'.Ok) (hk : Kept w W [b]) (hb : Blk W b 71 (EpS.cells s' b bw vd vn' vc' vw))
    (e1 : s'.data = s.data) (e2 : s'.scl = s.scl) (e3 : s'.sda = s.sda) (e5 : s'.waits = s.waits) (e6 : s.clock ≤ s'.clock) (hcol : MapV W F' vc' s'.coll) (hcm : s'.hasMap = true → vc' ≠ .map none) (hne : ∀ m, vc' = .map (some m) → vw ≠ .map (some m)) (hn : NxOf W F' b vn' s'.nx)
    (hF : ∀ g, g ∈ F → g ∈ F') (hgr : Grows w F F') (hlt : ∀ g, g ∈ F' → g < W.heap.size) : Post w F (fun r W => r = v ∧ Leaves w b F s' W) (.returned v) W := by
  have hd := Own.ne_cells h.dat h.blk (by decide)
  have hw := Blk.ne h.wir h.blk (by decide)
  refine ⟨_, rfl, ⟨rfl, F', hgr, bw, vd, vn', vc', vw, ⟨hok, hb, ?_, ?_, hn, hcol, hcm, ?_, hne, hF b h.fb, fun g hg => hF g (h.fd g hg), hF bw h.fw, hlt, ?_⟩⟩, h.one hk⟩
  · rw [e1]; exact h.dat.kept hk (fun g hg hm => by simp at hm; subst hm; exact hd hg)
  · rw [e2, e3]; exact h.wir.kept hk (by simpa using hw)
  · rw [e5]; exact h.wai.kept hk (fun g hg => by simp at hg; subst hg; exact h.wai.ne_blk h.blk) hF
  · intro g hg
    rcases hgr g hg with h1 | h1
    · exact h.lo g h1
    · exact Nat.le_trans (Nat.le_of_lt (Nat.lt_of_le_of_lt (h.lo b h.fb) (h.lt b h.fb))) h1
theorem MapsTo.nil : MapsTo (.map []) [] := ⟨fun i => (by simp [Maps.has]), fun i v h => (by cases h), fun kl h => (by simp [Maps.has] at h)⟩
theorem MapV.made (w W : World) (F : List Nat) (m : Nat) (h : W = w.alloc (.map #[] 0)) (hs : w.heap.size = m) (hm : m ∈ F) : MapV W F (.map (some m)) [] := by
  subst h; subst hs
  exact .inr ⟨_, 0, .map [], rfl, World.ownsMap_made _ _ _ _, Nat.zero_le _, MapsTo.nil, hm⟩
/-- the maps lie in old blocks -/
theorem ChipX.wai_old {w : World} {b : Nat} {F : List Nat} {s : EpS} {bw : Nat} {vd vn vc vw : Value} (h : ChipX w b F s bw vd vn vc vw) (m : Nat) (hm : w.heap.size ≤ m) : vw ≠ .map (some m) := by
  intro e
  rcases h.wai with ⟨h1, _⟩ | ⟨m1, n, D, h1, h2, h3, h4, h5⟩
  · rw [h1] at e; cases e
  · rw [h1] at e; cases e
    have := h.lt _ h5
    omega
theorem or_shift8 (h y : Nat) (hh : h ≤ 255) (hy : y ≤ 255) : bits .or .i64 ((h : Int) * 256) (y : Int) = (h : Int) * 256 + y := by
  have e : ((h : Int) * 256) = ((h * 256 : Nat) : Int) := by simp
  have ha' : (h * 256) % 2 ^ IntKind.i64.bits = h * 256 := Nat.mod_eq_of_lt (show h * 256 < 2 ^ 64 by omega)
  have hb' : y % 2 ^ IntKind.i64.bits = y := Nat.mod_eq_of_lt (show y < 2 ^ 64 by omega)
  have e2 : h * 256 ||| y = h * 256 + y := by
    have := Nat.shiftLeft_add_eq_or_of_lt (b := y) (i := 8) (by omega) h
    rw [Nat.shiftLeft_eq] at this
    exact this.symm
  rw [e]
  simp only [bits, BitVec.ofInt_natCast, BitVec.toNat_or, BitVec.toNat_ofNat, ha', hb', e2]
  rw [IntKind.wrap_i64]
  omega
theorem higher_any (w : World) (b : Nat) (F : List Nat) (s : EpS) (y : Int) (h : ChipAt w b F s) (hy : 0 ≤ y ∧ y ≤ 255) (hj : s.jd = some .higher) :
    Calls Tryd.prog 75 #[.pointer (some ⟨b, 0, none⟩), .int .u8 y] w (Post w F fun r W => r = .bool (s.higher y).2 ∧ Leaves w b F (s.higher y).1 W) := by
  have hok := h.ok.higher y hy hj
  obtain ⟨bw, vd, vn, vc, vw, hx⟩ := h
  have c10 := hx.blk.cell 10 rfl
  have c6 := hx.blk.cell 6 rfl
  have f10 := hx.blk.free 10
  have f6 := hx.blk.free 6
  have lt := hx.blk.lt
  have H := Lib.hid hx
  have HOK := Lib.hid hok
  obtain ⟨y0, y1⟩ := hy
  clear hx hok hj
  have hmf := mkf
  go_enter Tryd.func75, Tryd.ntmps75
  go_wp2_with fail
  go_ret
  refine H.out.boxed _ _ _ HOK.out ((((Kept.refl w [b]).setCell (by simp) _).setCell (by simp) _).alloc _) ((((H.out.blk.set 10 _).set 6 _).alloc _).to ?_) rfl rfl rfl rfl rfl (Nat.le_refl _) rfl (Blk.top _ _ (by simp) _ _) (fun hb => ⟨_, .inr rfl, hb⟩)
  have e : ((y.toNat : Nat) : Int) = y := by omega
  simp [EpS.cells, EpS.higher, e]
set_option maxHeartbeats 1000000 in
theorem lower_any (w : World) (b : Nat) (F : List Nat) (s : EpS) (y : Int) (h : ChipAt w b F s) (hy : 0 ≤ y ∧ y ≤ 255) :
    Calls Tryd.prog 77 #[.pointer (some ⟨b, 0, none⟩), .int .u8 y] w (Post w F fun r W => r = .bool (s.lower y).2 ∧ Leaves w b F (s.lower y).1 W) := by
  have hok := h.ok.lower y
  obtain ⟨bw, vd, vn, vc, vw, hx⟩ := h
  have hp := hx.ok.po
  have hl := hx.ok.len
  have hhi := hx.ok.hi
  have hg := geo_bd hx.ok.k1 hx.ok.k2
  obtain ⟨bd, hsl, _⟩ := hx.dat.sl
  have hne : s.data ≠ [] := by intro e; rw [e] at hp; simp at hp
  obtain ⟨c, rfl⟩ := hsl.at hne
  have c1 := hx.blk.cell 1 rfl
  have c10 := hx.blk.cell 10 rfl
  have c11 := hx.blk.cell 11 rfl
  have c12 := hx.blk.cell 12 rfl
  have c6 := hx.blk.cell 6 rfl
  have f10 := hx.blk.free 10
  have f11 := hx.blk.free 11
  have f12 := hx.blk.free 12
  have f6 := hx.blk.free 6
  have lt := hx.blk.lt
  have l2 : (s.data.length : Int) ≤ 65536 := by omega
  have l0 : (0 : Int) < s.data.length := by omega
  have h0 : (0 : Int) ≤ s.high := by omega
  have h1 : (s.high : Int) ≤ 255 := by omega
  have H := Lib.hid hx
  have HOK := Lib.hid hok
  obtain ⟨y0, y1⟩ := hy
  obtain ⟨z, rfl⟩ := Int.eq_ofNat_of_zero_le y0
  have hor := or_shift8 s.high z (by omega) (by omega)
  have s0 : (0 : Int) ≤ (s.high : Int) * 256 + z := by omega
  have s1 : (s.high : Int) * 256 + z ≤ 65535 := by omega
  clear hx hok hl hg hsl hne hp hhi
  have hmf := mkf
  have hmm := @run_makeMap Tryd.prog
  go_enter Tryd.func77, Tryd.ntmps77
  go_wp2_with fail
  go_region
  all_goals (
    go_wp2_with fail
    go_ret
    refine H.out.remap _ (w.heap.size :: (w.heap.size + 1) :: F) (.func (.func 87) #[] #[pt w.heap.size]) (.map (some (w.heap.size + 1))) _ HOK.out (((((((Kept.refl w [b]).setCell (by simp) _).setCell (by simp) _).setCell (by simp) _).alloc _).alloc _).drew) (((((((H.out.blk.set 11 _).set 12 _).set 6 _).alloc _).alloc _).drew).to ?_) rfl rfl rfl rfl (Nat.le_refl _) ?_ (fun _ e => by cases e) (fun m hm => ?_) ?_ (fun g hg => List.mem_cons_of_mem _ (List.mem_cons_of_mem _ hg)) ?_ ?_
    · simp [EpS.cells, EpS.lower, Int.mul_comm]
    · exact (MapV.made _ _ _ _ rfl (by simp) (by simp)).kept (S := []) ((Kept.refl _ []).drew) (by simp) (fun _ h => h)
    · cases hm
      exact H.out.wai_old _ (by omega)
    · exact ⟨w.heap.size, rfl, ⟨((Blk.top _ _ (by simp) _ _).alloc _).drew, by simp⟩⟩
    · exact fun g hg => (List.mem_cons.1 hg).elim (fun e => .inr (by omega)) (fun hg => (List.mem_cons.1 hg).elim (fun e => .inr (by omega)) .inl)
    · intro g hg
      have hlt := H.out.lt g
      simp at hg ⊢
      rcases hg with rfl | rfl | hg
      · omega
      · omega
      · have := hlt hg; omega)
theorem MapsTo.put {D : DataW Value} {L : List (Nat × Int)} (h : MapsTo D L) (hI : IsMap D) (p : Nat) (y : Int) : MapsTo (D.put (.int .i64 p) (.lit (.int .u8 y))) ((p, y) :: L) := by
  have hne : ∀ j : Nat, j ≠ p → (Lit.int .i64 (j : Int)) ≠ .int .i64 (p : Int) := fun j hj e => hj (by injection e with _ e; omega)
  have hb : ∀ j : Nat, j ≠ p → (j == p) = false := fun j hj => by rw [beq_eq_false_iff_ne]; exact hj
  refine ⟨fun i => ?_, fun i v hi z => ?_, fun kl hk => ?_⟩
  · by_cases e : i = p
    · subst e; rw [has_put_same hI (keyi_is _)]; simp [List.lookup_cons]
    · rw [has_put_other (hne i e), List.lookup_cons, hb i e]; exact h.has i
  · by_cases e : i = p
    · subst e
      simp [List.lookup_cons] at hi
      subst hi
      exact atKey_put_same hI (keyi_is _) _ _
    · rw [List.lookup_cons, hb i e] at hi
      rw [atKey_put_other (hne i e)]; exact h.at' i v hi z
  · by_cases e : kl = .int .i64 (p : Int)
    · exact ⟨p, e⟩
    · rw [has_put_other e] at hk; exact h.key kl hk
theorem ChipX.stored {w W : World} {b : Nat} {F : List Nat} {s : EpS} {bw m : Nat} {vd vn vw : Value} (h : ChipX w b F s bw vd vn (.map (some m)) vw) (s' : EpS) (v : Value) (hok : s'.Ok) (hk : Kept w W [b, m]) (hb : Blk W b 71 (EpS.cells s' b bw vd vn (.map (some m)) vw))
    (e1 : s'.data = s.data) (e2 : s'.scl = s.scl) (e3 : s'.sda = s.sda) (e5 : s'.waits = s.waits) (e6 : s.clock ≤ s'.clock) (e8 : s'.nx = s.nx) (hcol : MapV W F (.map (some m)) s'.coll) : Post w F (fun r W => r = v ∧ ChipAt W b F s') (.returned v) W := by
  have hd := Own.ne_cells h.dat h.blk (by decide)
  have hw := Blk.ne h.wir h.blk (by decide)
  rcases h.col with ⟨e, _⟩ | ⟨m', n, D, e, hm, _, _, hmF⟩
  · cases e
  cases e
  have hd2 := Own.ne_map h.dat hm
  have hw2 := Blk.ne_map h.wir hm
  refine ⟨_, rfl, ⟨rfl, bw, vd, vn, _, vw, ⟨hok, hb, ?_, ?_, ?_, hcol, (fun _ e => by cases e), ?_, h.ne, h.fb, h.fd, h.fw, fun g hg => Nat.lt_of_lt_of_le (h.lt g hg) hk.size, h.lo⟩⟩, hk.mono (fun g hg => ?_)⟩
  · rw [e1]; exact h.dat.kept hk (fun g hg hm => by simp at hm; rcases hm with rfl | rfl; exact hd hg; exact hd2 hg)
  · rw [e2, e3]; exact h.wir.kept hk (by simp; exact ⟨hw, hw2⟩)
  · rw [e8]; exact h.nxt.kept hk (fun x hx => by simp; exact ⟨hx.ne h.blk (by decide), Blk.ne_map hx.1 hm⟩) (fun _ h => h)
  · rw [e5]; exact h.wai.kept hk (fun g hg => by simp at hg; rcases hg with rfl | rfl; exact h.wai.ne_blk h.blk; exact h.ne _ rfl) (fun _ h => h)
  · simp at hg
    rcases hg with rfl | rfl
    · exact .inl h.fb
    · exact .inl hmF
theorem nextIn_cast (P p : Nat) : ((nextIn P p : Nat) : Int) = (p : Int) / P * P + ((p : Int) + 1 - (p : Int) / P * P) % P := by
  have h : p / P * P ≤ p + 1 := Nat.le_trans (Nat.div_mul_le_self p P) (Nat.le_succ p)
  unfold nextIn
  rw [Int.natCast_add, Int.natCast_emod, Int.natCast_sub h]
  simp
set_option maxHeartbeats 2000000 in
theorem store_any (w : World) (b : Nat) (F : List Nat) (s : EpS) (y : Int) (hg : GeoLaid w) (h : ChipAt w b F s) (hy : 0 ≤ y ∧ y ≤ 255) (hm : s.hasMap = true) (hgo : s.Go) :
    Calls Tryd.prog 88 #[.pointer (some ⟨b, 0, none⟩), .int .u8 y] w (Post w F fun r W => r = .bool (s.store y).2 ∧ ChipAt W b F (s.store y).1) := by
  have hok := h.ok.store y hy hm hgo.1
  obtain ⟨bw, vd, vn, vc, vw, hx⟩ := h
  have hp := hx.ok.po
  have hl := hx.ok.len
  have hgb := geo_bd hx.ok.k1 hx.ok.k2
  rcases hx.col with ⟨e, _⟩ | ⟨m, n, D, rfl, hm1, hn1, hmt, hmF⟩
  · exact absurd e (hx.cm hm)
  have hck := hx.ok.ck
  have hcl := hx.ok.cl
  obtain ⟨w5, hst, hm5, ht5⟩ := hm1.drew.store keyedI Tryd.underlying69 (by unfold maxLen; omega) (keyi (x := s.pointer) (by omega) (by omega)) (plainElem_int Tryd.underlying5 (wf8 hy.1 hy.2))
  have hbm := Blk.ne_map hx.blk hm1
  have k5 := kept_turned (Kept.refl w [m]).drew ht5 (.inl (by simp))
  have hb5 := hx.blk.kept k5 (by simpa using hbm)
  have c0 := hb5.cell 0 rfl
  have c11 := hb5.cell 11 rfl
  have f11 := hb5.free 11
  have d11 := hx.blk.cell 11 rfl
  have d12 := hx.blk.cell 12 rfl
  have hg5 := hg.kept k5 (by simp; exact hx.lo m hmF)
  have hpage := geoPage_any w5 hg5 s.kind hx.ok.k1 hx.ok.k2
  have p0 : (0 : Int) ≤ s.pointer := by omega
  have p1 : (s.pointer : Int) ≤ 65536 := by omega
  have g0 : (8 : Int) ≤ geoPage s.kind := by omega
  have g1 : (geoPage s.kind : Int) ≤ 128 := by omega
  have q0 : (0 : Int) ≤ (s.pointer : Int) / (geoPage s.kind : Int) := Int.ediv_nonneg p0 (by omega)
  have q1 : (s.pointer : Int) / (geoPage s.kind : Int) * (geoPage s.kind : Int) ≤ s.pointer := Int.ediv_mul_le _ (by omega)
  have q2 : (0 : Int) ≤ (s.pointer : Int) / (geoPage s.kind : Int) * (geoPage s.kind : Int) := Int.mul_nonneg q0 (by omega)
  have q3 : (s.pointer : Int) / (geoPage s.kind : Int) ≤ s.pointer := Int.ediv_le_self _ p0
  have q4 : (0 : Int) ≤ ((s.pointer : Int) + 1 - (s.pointer : Int) / (geoPage s.kind : Int) * (geoPage s.kind : Int)) % (geoPage s.kind : Int) := Int.emod_nonneg _ (by omega)
  have q5 : ((s.pointer : Int) + 1 - (s.pointer : Int) / (geoPage s.kind : Int) * (geoPage s.kind : Int)) % (geoPage s.kind : Int) < geoPage s.kind := Int.emod_lt_of_pos _ (by omega)
  have q6 : (0 : Int) ≤ ((s.pointer : Int) + 1) % (geoPage s.kind : Int) := Int.emod_nonneg _ (by omega)
  have q7 : ((s.pointer : Int) + 1) % (geoPage s.kind : Int) < geoPage s.kind := Int.emod_lt_of_pos _ (by omega)
  have H := Lib.hid hx
  have HOK := Lib.hid hok
  have HP := Lib.hid hpage
  have HB5 := Lib.hid hb5
  have K5 := Lib.hid k5
  have HM5 := Lib.hid hm5
  have lt := hx.blk.lt
  have HMT := Lib.hid hmt
  have HM1 := Lib.hid hm1
  have HMF := Lib.hid hmF
  have HBM := Lib.hid hbm
  have HGO := Lib.hid hgo
  have HN := Lib.hid hn1
  clear hcl hx hok hpage hb5 k5 hm5 hl hp hgb hm1 hn1 hmt hmF hck ht5 hbm hg5 hg hm hy hgo
  have hmf := mkf
  go_enter Tryd.func88, Tryd.ntmps88
  go_wp2_with fail
  go_region
  all_goals (
    go_wp2_with fail
    refine HP.out.mono ?_
    rintro _ w6 ⟨_, rfl, rfl, k6⟩
    have hb6 := HB5.out.kept k6 (by simp)
    have K6 := Lib.hid k6
    clear c0 c11 f11 d11 d12 hst k6
    have c11 := hb6.cell 11 rfl
    have f11 := hb6.free 11
    have HB6 := Lib.hid hb6
    have lt6 := hb6.lt
    clear hb6
    go_wp2_with fail
    go_ret
    refine H.out.stored _ _ HOK.out (((K5.out.mono (S2 := [b, m]) (fun g hg => by simp at hg; simp [hg])).trans (K6.out.mono (S2 := [b, m]) (by simp)) (fun g hg => .inl hg)).setCell (.inl (by simp)) _) ((HB6.out.set 11 _).to ?_) rfl rfl rfl rfl (Nat.le_refl _) rfl (.inr ⟨m, n + 1, _, rfl, map_kept (map_kept HM5.out K6.out (by simp)) ((Kept.refl w6 [b]).setCell (by simp) _) ?_, ?_, HMT.out.put HM1.out.isMap _ _, HMF.out⟩)
    · have e := nextIn_cast (geoPage s.kind) s.pointer
      simp [EpS.cells, EpS.store, e]
    · simpa using (fun e => HBM.out e.symm)
    · have h2 := HN.out
      show n + 1 ≤ s.coll.length + 1
      omega)
end Go.Proofs.YtdpiaibjpaalhaaDoor
