/- PROVED: the contracts of what the chip does at an event, at a Start, and at a Stop. No conditions beyond those that each theorem states. -/
import Derived.Test.YtdpiaibjpaalhaaDoorEpI
namespace Go.Proofs.YtdpiaibjpaalhaaDoor
open Go.RowKit Go.Proofs.YtdpiaibjpaalhaaDoorLib Go.WideElems Go.Maps Go.ChangeMaps
set_option linter.unusedSimpArgs false
set_option linter.unusedVariables false

theorem post_leaves {w : World} {F : List Nat} {b : Nat} {s : EpS} {e : Ending} {W : World} (h : Post w F (fun r W => r = .tuple #[] ∧ ChipAt W b F s) e W) : Post w F (fun r W => r = .tuple #[] ∧ Leaves w b F s W) e W :=
  let ⟨v, e1, ⟨e2, h2⟩, k⟩ := h; ⟨v, e1, ⟨e2, h2.leaves⟩, k⟩
theorem hears_any (w : World) (b : Nat) (F : List Nat) (s : EpS) (e : Int) (l : Bool) (hg : GeoLaid w) (h : ChipAt w b F s) (hgo : s.Go) (hev : s.ev = .hears) :
    Calls Tryd.prog 70 #[.pointer (some ⟨b, 0, none⟩), .int .i64 e, .bool l] w (Post w F fun r W => r = .tuple #[] ∧ Leaves w b F (s.hears e l) W) := by
  by_cases h3 : e = 3
  · subst h3; exact (hears_rise w b F s l h hgo hev).mono fun _ _ => post_leaves
  by_cases h4 : e = 4
  · subst h4
    by_cases h8 : s.bits = 8
    · match hj : s.jd with
      | none => exact absurd hj (h.ok.hj hev)
      | some .device => exact hears_device w b F s l hg h hgo hj h8
      | some .higher => exact hears_higher w b F s l hg h hgo hj h8
      | some .lower => exact hears_lower w b F s l hg h hgo hj h8
      | some .store => exact hears_store w b F s l hg h hgo hj h8
    · exact (hears_few w b F s l h h8).mono fun _ _ => post_leaves
  · exact (hears_no w b F s e l h h3 h4).mono fun _ _ => post_leaves
theorem event_any (w : World) (b : Nat) (F : List Nat) (s : EpS) (e : Int) (l : Bool) (hg : GeoLaid w) (h : ChipAt w b F s) (hgo : s.Go) (f : FuncId) (hf : evV b s.ev = .func (.func f) #[.pointer (some ⟨b, 0, none⟩)] #[]) :
    Calls Tryd.prog f #[.pointer (some ⟨b, 0, none⟩), .int .i64 e, .bool l] w (Post w F fun r W => r = .tuple #[] ∧ Leaves w b F (s.event e l) W) := by
  unfold EpS.event
  cases hv : s.ev with
  | idle =>
    rw [hv] at hf; injection hf with q; injection q with q; subst q
    exact (idle_any w b e l).mono fun e W ⟨h1, h2⟩ => by subst h2; subst h1; exact ⟨_, rfl, ⟨rfl, h.leaves⟩, Kept.refl _ _⟩
  | hears =>
    rw [hv] at hf; injection hf with q; injection q with q; subst q
    exact hears_any w b F s e l hg h hgo hv
  | thanks =>
    rw [hv] at hf; injection hf with q; injection q with q; subst q
    exact (thanks_any w b F s e l h (h.ok.tn hv)).mono fun _ _ => post_leaves
  | tells =>
    rw [hv] at hf; injection hf with q; injection q with q; subst q
    exact (tells_any w b F s e l h hgo hv).mono fun _ _ => post_leaves
  | asks =>
    rw [hv] at hf; injection hf with q; injection q with q; subst q
    exact (asks_any w b F s e l h).mono fun _ _ => post_leaves
/-- clear of a map -/
theorem clear_map {w : World} {m n : Nat} {D : DataW Value} (h : w.ownsMap Tryd.prog 3 elem8 m n D) : ∃ w', (∀ ty, (Builtin.clear_ #[69] ty #[.map (some m)]).run Tryd.prog w = .ok (.tuple #[]) w') ∧ w'.ownsMap Tryd.prog 3 elem8 m 0 (.map []) ∧ w.mapTurned w' m := by
  obtain ⟨es, clock, hb, F, hs, rfl⟩ := h
  refine ⟨setBlock w m (.map #[] clock), fun ty => ?_, ⟨#[], clock, heap_setBlock_same hb _, ⟨by simp, MapKept.stamped_empty clock, by simp⟩, Nat.le_refl _, rfl⟩, ⟨es, clock, #[], clock, hb, rfl⟩⟩
  simp [Builtin.clear_, run_underlying Tryd.underlying69, MapKept.run_getObj_map hb, MapKept.run_setObj_map _ hb, Result.andThen, setBlock]
theorem clear_nil (w : World) (ty : TypeId) : (Builtin.clear_ #[69] ty #[.map none]).run Tryd.prog w = .ok (.tuple #[]) w := by
  simp [Builtin.clear_, run_underlying Tryd.underlying69]
theorem len_nil (w : World) (ty : TypeId) : (Builtin.len_ #[69] ty #[.map none]).run Tryd.prog w = .ok (.int .i64 0) w := Maps.len_nil Tryd.underlying69 ty
theorem MapsTo.size {D : DataW Value} {L : List (Nat × Int)} (h : MapsTo D L) (hC : Maps.Canon D) : 0 < Maps.size D ↔ L ≠ [] := by
  obtain ⟨es, rfl, hs, hk⟩ := hC
  constructor
  · intro hp e
    subst e
    match es, hp with
    | p :: es, _ =>
      have h1 : Maps.has (.map (p :: es)) p.1 = true := List.any_eq_true.2 ⟨p, List.mem_cons_self .., WideAt.sameKey_self (hk p (List.mem_cons_self ..))⟩
      obtain ⟨i, hi⟩ := h.key _ h1
      rw [hi, h.has i] at h1
      simp at h1
  · intro hL
    match L, hL with
    | (i, v) :: L, _ =>
      have h1 := h.has i
      simp at h1
      match es, h1 with
      | p :: es, _ => simp [Maps.size]
set_option maxHeartbeats 1000000 in
theorem start_any (w : World) (b : Nat) (F : List Nat) (s : EpS) (h : ChipAt w b F s) :
    Calls Tryd.prog 44 #[.pointer (some ⟨b, 0, none⟩)] w (Post w F fun r W => r = .tuple #[] ∧ ChipAt W b F s.start) := by
  obtain ⟨bw, vd, vn, vc, vw, hx⟩ := h
  have c12 := hx.blk.cell 12 rfl
  have lt := hx.blk.lt
  have H := Lib.hid hx
  have hmf := mkf
  rcases hx.col with ⟨rfl, hcn⟩ | ⟨m, n, D, rfl, hm1, hn1, hmt, hmF⟩
  · have hcl := clear_nil
    have hq : ChipAt w b F { s with coll := [] } := ⟨bw, vd, vn, _, vw, hx.ok.cleared, hx.blk, hx.dat, hx.wir, hx.nxt, .inl ⟨rfl, rfl⟩, hx.cm, hx.wai, hx.ne, hx.fb, hx.fd, hx.fw, hx.lt, hx.lo⟩
    have HQ := Lib.hid hq
    clear hx hq hcn
    go_enter Tryd.func44, Tryd.ntmps44
    go_wp2_with fail
    refine (listen_any _ b F { s with coll := [] } .device (fun e => by cases e) HQ.out).mono ?_
    rintro _ w1 ⟨_, rfl, ⟨rfl, h1⟩, k1⟩
    have H1 := Lib.hid h1
    have K1 := Lib.hid k1
    clear h1 k1
    go_wp2_with fail
    go_end0
    exact post_id H1.out K1.out
  · obtain ⟨w5, hcl, hm5, ht5⟩ := clear_map hm1
    have k5 := kept_turned (Kept.refl w [m]) ht5 (.inl (by simp))
    have hd2 := Own.ne_map hx.dat hm1
    have hw2 := Blk.ne_map hx.wir hm1
    have hbm := Blk.ne_map hx.blk hm1
    have hq : ChipAt w5 b F { s with coll := [] } := ⟨bw, vd, vn, _, vw, hx.ok.cleared, hx.blk.kept k5 (by simpa using hbm), hx.dat.kept k5 (fun g hg hm => by simp at hm; subst hm; exact hd2 hg), hx.wir.kept k5 (by simpa using hw2), hx.nxt.kept k5 (fun x hx => by simpa using Blk.ne_map hx.1 hm1) (fun _ h => h),
      .inr ⟨m, 0, _, rfl, hm5, Nat.le_refl _, MapsTo.nil, hmF⟩, hx.cm, hx.wai.kept k5 (fun g hg => by simp at hg; subst hg; exact hx.ne _ rfl) (fun _ h => h), hx.ne, hx.fb, hx.fd, hx.fw, fun g hg => Nat.lt_of_lt_of_le (hx.lt g hg) k5.size, hx.lo⟩
    have HQ := Lib.hid hq
    have K5 := Lib.hid (k5.mono (S2 := F) (fun g hg => by simp at hg; subst hg; exact .inl hmF))
    clear hx hq hm1 hn1 hmt hmF hm5 ht5 k5 hd2 hw2 hbm
    go_enter Tryd.func44, Tryd.ntmps44
    go_wp2_with fail
    refine (listen_any _ b F { s with coll := [] } .device (fun e => by cases e) HQ.out).mono ?_
    rintro _ w1 ⟨_, rfl, ⟨rfl, h1⟩, k1⟩
    have H1 := Lib.hid h1
    have K1 := Lib.hid k1
    clear h1 k1
    go_wp2_with fail
    go_end0
    exact post_id H1.out (K5.out.trans K1.out (fun g hg => .inl hg))
/-- only the chip's block has turned, and new blocks have come -/
theorem ChipX.gen {w W : World} {b : Nat} {F : List Nat} {s : EpS} {bw : Nat} {vd vn vc vw : Value} (h : ChipX w b F s bw vd vn vc vw) (s' : EpS) (F' : List Nat) (vc' vw' : Value) (hok : s'.Ok) (hk : Kept w W [b]) (hb : Blk W b 71 (EpS.cells s' b bw vd vn vc' vw'))
    (e1 : s'.data = s.data) (e2 : s'.scl = s.scl) (e3 : s'.sda = s.sda) (e8 : s'.nx = s.nx) (hcol : MapV W F' vc' s'.coll) (hcm : s'.hasMap = true → vc' ≠ .map none) (hwai : MapV W F' vw' s'.waits) (hne : ∀ m, vc' = .map (some m) → vw' ≠ .map (some m))
    (hF : ∀ g, g ∈ F → g ∈ F') (hgr : Grows w F F') (hlt : ∀ g, g ∈ F' → g < W.heap.size) : ChipAt W b F' s' := by
  have hd := Own.ne_cells h.dat h.blk (by decide)
  have hw := Blk.ne h.wir h.blk (by decide)
  refine ⟨bw, vd, vn, vc', vw', ⟨hok, hb, ?_, ?_, ?_, hcol, hcm, hwai, hne, hF b h.fb, fun g hg => hF g (h.fd g hg), hF bw h.fw, hlt, ?_⟩⟩
  · rw [e1]; exact h.dat.kept hk (fun g hg hm => by simp at hm; subst hm; exact hd hg)
  · rw [e2, e3]; exact h.wir.kept hk (by simpa using hw)
  · rw [e8]; exact h.nxt.kept hk (fun x hx => by simpa using hx.ne h.blk (by decide)) hF
  · intro g hg
    rcases hgr g hg with h1 | h1
    · exact h.lo g h1
    · exact Nat.le_trans (Nat.le_of_lt (Nat.lt_of_le_of_lt (h.lo b h.fb) (h.lt b h.fb))) h1
end Go.Proofs.YtdpiaibjpaalhaaDoor
