/- PROVED: the contracts of geo's Right and Total, image's Sectors, slot's Span and Room, and of the document's. No conditions beyond those that each theorem states. -/
import Derived.Test.YtcikhnkehglkgaaGreatDoorEpG0
import Derived.Deep.RegionHeld3
import Derived.IntWalk
namespace Go.Proofs.YtcikhnkehglkgaaGreatDoor
open Go.RowKit Go.Proofs.YtcikhnkehglkgaaGreatDoorLib
set_option linter.unusedSimpArgs false
set_option linter.unusedVariables false

def in3 (n m : Int) : Bool := decide (0 ≤ n) && decide (n ≤ m)
theorem in3_iff (n m : Int) : in3 n m = true ↔ 0 ≤ n ∧ n ≤ m := by simp [in3]
def gRight (e f s : Int) : Bool := in3 e 10 && in3 f 64 && in3 s 128
theorem gRight_iff (e f s : Int) : gRight e f s = true ↔ (0 ≤ e ∧ e ≤ 10) ∧ (0 ≤ f ∧ f ≤ 64) ∧ (0 ≤ s ∧ s ≤ 128) := by
  simp [gRight, in3_iff, and_assoc]
def gE (e : Int) : Nat := if 1 ≤ e ∧ e ≤ 10 then geoBytes e.toNat else 0
def gTotal (e f s : Int) : Nat := if gRight e f s = true then gE e + 256 * f.toNat + 64 * s.toNat else 0
theorem gE_le (e : Int) : gE e ≤ 65536 := by
  unfold gE
  split
  · rename_i h
    exact (geo_bd (k := e.toNat) (by omega) (by omega)).2.1
  · omega
theorem gTotal_le (e f s : Int) : gTotal e f s ≤ 100000 := by
  unfold gTotal
  split
  · rename_i h
    rw [gRight_iff] at h
    have := gE_le e
    omega
  · omega
def secs (many size : Nat) : Nat := (many + size - 1) / size
def spanN (size : Int) (e f s : Int) : Nat := if gRight e f s = true ∧ 32 ≤ size ∧ size ≤ 4096 then 1 + secs (gTotal e f s) size.toNat else 0

theorem geoE_any (w : World) (hg : GeoLaid w) (e : Int) (h0 : 0 ≤ e) (h1 : e ≤ 10) :
    Calls Tryz.prog 107 #[.int .i64 e] w (Post w [] fun v W => v = .int .i64 (gE e : Nat)) := by
  by_cases h : 1 ≤ e
  · obtain ⟨k, rfl⟩ := Int.eq_ofNat_of_zero_le h0
    have hk : gE (k : Int) = geoBytes k := by unfold gE; rw [if_pos ⟨h, h1⟩]; rfl
    rw [hk]
    exact geoEeprom_any w hg k (by omega) (by omega)
  · have hk : gE e = 0 := by unfold gE; rw [if_neg (by omega)]
    rw [hk]
    exact geoEeprom_no w e (by omega)
theorem rE_any (w : World) (e : Int) (h0 : 0 ≤ e) (h1 : e ≤ 10) :
    Calls Tryz.prog 59 #[.int .i64 e] w (Post w [] fun v W => v = .int .i64 (gE e : Nat)) := by
  by_cases h : 1 ≤ e
  · obtain ⟨k, rfl⟩ := Int.eq_ofNat_of_zero_le h0
    have hk : gE (k : Int) = geoBytes k := by unfold gE; rw [if_pos ⟨h, h1⟩]; rfl
    rw [hk]
    exact rEeprom_any w k (by omega) (by omega)
  · have hk : gE e = 0 := by unfold gE; rw [if_neg (by omega)]
    rw [hk]
    exact rEeprom_no w e (by omega)
theorem right_any (w : World) (e f s : Int) :
    Calls Tryz.prog 77 #[.agg #[.int .i64 e, .int .i64 f, .int .i64 s]] w (Post w [] fun v W => v = .bool (gRight e f s)) := by
  unfold gRight
  go_enter Tryz.func77, Tryz.ntmps77
  go_wp2_with fail
  refine (within_any _ _ _).mono ?_
  rintro _ _ ⟨rfl, rfl⟩
  rw [show (decide (0 ≤ e) && decide (e ≤ 10)) = in3 e 10 from rfl]
  cases h1 : in3 e 10
  · go_wp2_with fail
    go_ret
    exact ⟨_, rfl, by show Value.bool _ = Value.bool _; simp_all, (Kept.refl w []).alloc _⟩
  go_wp2_with fail
  refine (within_any _ _ _).mono ?_
  rintro _ _ ⟨rfl, rfl⟩
  rw [show (decide (0 ≤ f) && decide (f ≤ 64)) = in3 f 64 from rfl]
  cases h2 : in3 f 64
  · go_wp2_with fail
    go_ret
    exact ⟨_, rfl, by show Value.bool _ = Value.bool _; simp_all, (Kept.refl w []).alloc _⟩
  go_wp2_with fail
  refine (within_any _ _ _).mono ?_
  rintro _ _ ⟨rfl, rfl⟩
  rw [show (decide (0 ≤ s) && decide (s ≤ 128)) = in3 s 128 from rfl]
  go_wp2_with fail
  go_ret
  exact ⟨_, rfl, by show Value.bool _ = Value.bool _; simp_all, (Kept.refl w []).alloc _⟩
theorem flash_any (w : World) (f : Int) (h0 : 0 ≤ f) (h1 : f ≤ 64) :
    Calls Tryz.prog 108 #[.int .i64 f] w (fun e W => e = .returned (.int .i64 (f * 256)) ∧ w = W) := by
  go_enter Tryz.func108, Tryz.ntmps108
  go_wp2_with fail
  refine (within_any _ _ _).mono ?_
  rintro _ _ ⟨rfl, rfl⟩
  have h : (decide (0 ≤ f) && decide (f ≤ 64)) = true := by simp [h0, h1]
  rw [h]
  go_wp2_with fail
  go_ret
  exact ⟨rfl, rfl⟩
theorem sram_any (w : World) (s : Int) (h0 : 0 ≤ s) (h1 : s ≤ 128) :
    Calls Tryz.prog 109 #[.int .i64 s] w (fun e W => e = .returned (.int .i64 (s * 64)) ∧ w = W) := by
  go_enter Tryz.func109, Tryz.ntmps109
  go_wp2_with fail
  refine (within_any _ _ _).mono ?_
  rintro _ _ ⟨rfl, rfl⟩
  have h : (decide (0 ≤ s) && decide (s ≤ 128)) = true := by simp [h0, h1]
  rw [h]
  go_wp2_with fail
  go_ret
  exact ⟨rfl, rfl⟩
theorem rflash_any (w : World) (f : Int) (h0 : 0 ≤ f) (h1 : f ≤ 64) :
    Calls Tryz.prog 60 #[.int .i64 f] w (fun e W => e = .returned (.int .i64 (256 * f)) ∧ w = W) := by
  go_enter Tryz.func60, Tryz.ntmps60
  go_wp2
  go_ret
  exact ⟨rfl, rfl⟩
theorem rsram_any (w : World) (s : Int) (h0 : 0 ≤ s) (h1 : s ≤ 128) :
    Calls Tryz.prog 61 #[.int .i64 s] w (fun e W => e = .returned (.int .i64 (64 * s)) ∧ w = W) := by
  go_enter Tryz.func61, Tryz.ntmps61
  go_wp2
  go_ret
  exact ⟨rfl, rfl⟩
set_option maxHeartbeats 1000000 in
theorem rright_any (w : World) (e f s : Int) :
    Calls Tryz.prog 12 #[.agg #[.int .i64 e, .int .i64 f, .int .i64 s]] w (Post w [] fun v W => v = .bool (gRight e f s)) := by
  by_cases a1 : e < 0
  · have h := Lib.hid (And.intro (show gRight e f s = false by rw [Bool.eq_false_iff]; intro h; rw [gRight_iff] at h; omega) trivial)
    go_enter Tryz.func12, Tryz.ntmps12
    go_wp2
    go_ret
    exact ⟨_, rfl, congrArg Value.bool h.out.1.symm, (Kept.refl w []).alloc _⟩
  by_cases a2 : 10 < e
  · have h := Lib.hid (And.intro (show gRight e f s = false by rw [Bool.eq_false_iff]; intro h; rw [gRight_iff] at h; omega) trivial)
    go_enter Tryz.func12, Tryz.ntmps12
    go_wp2
    go_ret
    exact ⟨_, rfl, congrArg Value.bool h.out.1.symm, (Kept.refl w []).alloc _⟩
  by_cases a3 : f < 0
  · have h := Lib.hid (And.intro (show gRight e f s = false by rw [Bool.eq_false_iff]; intro h; rw [gRight_iff] at h; omega) trivial)
    go_enter Tryz.func12, Tryz.ntmps12
    go_wp2
    go_ret
    exact ⟨_, rfl, congrArg Value.bool h.out.1.symm, (Kept.refl w []).alloc _⟩
  by_cases a4 : 64 < f
  · have h := Lib.hid (And.intro (show gRight e f s = false by rw [Bool.eq_false_iff]; intro h; rw [gRight_iff] at h; omega) trivial)
    go_enter Tryz.func12, Tryz.ntmps12
    go_wp2
    go_ret
    exact ⟨_, rfl, congrArg Value.bool h.out.1.symm, (Kept.refl w []).alloc _⟩
  by_cases a5 : s < 0
  · have h := Lib.hid (And.intro (show gRight e f s = false by rw [Bool.eq_false_iff]; intro h; rw [gRight_iff] at h; omega) trivial)
    go_enter Tryz.func12, Tryz.ntmps12
    go_wp2
    go_ret
    exact ⟨_, rfl, congrArg Value.bool h.out.1.symm, (Kept.refl w []).alloc _⟩
  by_cases a6 : 128 < s
  · have h := Lib.hid (And.intro (show gRight e f s = false by rw [Bool.eq_false_iff]; intro h; rw [gRight_iff] at h; omega) trivial)
    go_enter Tryz.func12, Tryz.ntmps12
    go_wp2
    go_ret
    exact ⟨_, rfl, by show Value.bool _ = Value.bool _; rw [h.out.1]; simp; omega, (Kept.refl w []).alloc _⟩
  have h := Lib.hid (And.intro (show gRight e f s = true by rw [gRight_iff]; omega) trivial)
  go_enter Tryz.func12, Tryz.ntmps12
  go_wp2
  go_ret
  exact ⟨_, rfl, congrArg Value.bool h.out.1.symm, (Kept.refl w []).alloc _⟩
set_option maxHeartbeats 4000000 in
theorem total_any (w : World) (hg : GeoLaid w) (e f s : Int) :
    Calls Tryz.prog 112 #[.agg #[.int .i64 e, .int .i64 f, .int .i64 s]] w (Post w [] fun v W => v = .int .i64 (gTotal e f s : Nat)) := by
  go_enter Tryz.func112, Tryz.ntmps112
  go_wp2_with fail
  have hb0 := Blk.new w 23 [.int .i64 e, .int .i64 f, .int .i64 s]
  refine (right_any _ e f s).mono ?_
  rintro _ w1 ⟨_, rfl, rfl, k1⟩
  have K1 := Lib.hid (((Kept.refl w []).alloc _).trans k1 (by simp))
  cases hr : gRight e f s
  · have e0 : gTotal e f s = 0 := by unfold gTotal; rw [hr]; simp
    have E0 := Lib.hid (And.intro e0 trivial)
    clear e0
    go_wp2_with fail
    go_ret
    exact ⟨_, rfl, by show Value.int .i64 _ = _; rw [E0.out.1]; rfl, K1.out⟩
  have e0 : gTotal e f s = gE e + 256 * f.toNat + 64 * s.toNat := by unfold gTotal; rw [if_pos hr]
  have hr' := (gRight_iff e f s).1 hr
  have hb1 := hb0.kept k1 (by simp)
  obtain ⟨⟨e1, e2⟩, ⟨f1, f2⟩, s1, s2⟩ := hr'
  have hl := gE_le e
  obtain ⟨E, hE⟩ : ∃ E, gE e = E := ⟨_, rfl⟩
  have hE0 : ((E : Nat) : Int) ≤ 65536 := by omega
  have hE1 : (0 : Int) ≤ ((E : Nat) : Int) := by omega
  have HC := Lib.hid (fun w' (h : GeoLaid w') => hE ▸ geoE_any w' h e e1 e2)
  have HG := Lib.hid (hg.kept K1.out (by simp))
  have t1 : IntKind.i64.wrap (((E : Nat) : Int) + f * 256) = ((E : Nat) : Int) + f * 256 := by rw [IntKind.wrap_i64]; omega
  have t2 : IntKind.i64.wrap (((E : Nat) : Int) + f * 256 + s * 64) = ((E : Nat) : Int) + f * 256 + s * 64 := by rw [IntKind.wrap_i64]; omega
  rw [hE] at e0
  have E0 := Lib.hid (And.intro e0 trivial)
  clear e0 hl hr hE
  have q0 := hb1.cell 0 rfl
  have q1 := hb1.cell 1 rfl
  have q2 := hb1.cell 2 rfl
  have q0d : w1.drew.cell? ⟨w.heap.size, 0, none⟩ = some (.int .i64 e) := q0
  have q1d : w1.drew.cell? ⟨w.heap.size, 1, none⟩ = some (.int .i64 f) := q1
  have q2d : w1.drew.cell? ⟨w.heap.size, 2, none⟩ = some (.int .i64 s) := q2
  have HG1 := Lib.hid HG.out.drew
  clear hb0 hb1 k1 hg
  go_wp2_with fail
  go_region_held3 (fun W => W.cell? ⟨w.heap.size, 0, none⟩ = some (.int .i64 e) ∧ W.cell? ⟨w.heap.size, 1, none⟩ = some (.int .i64 f) ∧ W.cell? ⟨w.heap.size, 2, none⟩ = some (.int .i64 s)) (first | (with_reducible exact ⟨q0d, q1d, q2d⟩) | (with_reducible exact ⟨r0, r1, r2⟩) | go_keep) (first
    | (go_at_call 107
       refine (HC.out _ HG1.out).mono ?_
       rintro _ w2 ⟨_, rfl, rfl, k2⟩
       have r0 := k2.cell q0d (by simp)
       have r1 := k2.cell q1d (by simp)
       have r2 := k2.cell q2d (by simp)
       have K2 := Lib.hid k2
       clear k2)
    | (go_at_call 108
       refine (flash_any _ f f1 f2).mono ?_
       rintro _ _ ⟨rfl, rfl⟩)
    | (go_at_call 109
       refine (sram_any _ s s1 s2).mono ?_
       rintro _ _ ⟨rfl, rfl⟩))
  all_goals (
    go_wp2_with fail
    go_ret
    exact ⟨_, rfl, by show Value.int .i64 _ = _; rw [E0.out.1]; congr 1; omega, K1.out.drew.trans K2.out (by simp)⟩)
set_option maxHeartbeats 4000000 in
theorem rtotal_any (w : World) (e f s : Int) :
    Calls Tryz.prog 22 #[.agg #[.int .i64 e, .int .i64 f, .int .i64 s]] w (Post w [] fun v W => v = .int .i64 (gTotal e f s : Nat)) := by
  go_enter Tryz.func22, Tryz.ntmps22
  go_wp2_with fail
  have hb0 := Blk.new w 23 [.int .i64 e, .int .i64 f, .int .i64 s]
  refine (rright_any _ e f s).mono ?_
  rintro _ w1 ⟨_, rfl, rfl, k1⟩
  have K1 := Lib.hid (((Kept.refl w []).alloc _).trans k1 (by simp))
  cases hr : gRight e f s
  · have e0 : gTotal e f s = 0 := by unfold gTotal; rw [hr]; simp
    have E0 := Lib.hid (And.intro e0 trivial)
    clear e0
    go_wp2_with fail
    go_ret
    exact ⟨_, rfl, by show Value.int .i64 _ = _; rw [E0.out.1]; rfl, K1.out⟩
  have e0 : gTotal e f s = gE e + 256 * f.toNat + 64 * s.toNat := by unfold gTotal; rw [if_pos hr]
  have hr' := (gRight_iff e f s).1 hr
  have hb1 := hb0.kept k1 (by simp)
  obtain ⟨⟨e1, e2⟩, ⟨f1, f2⟩, s1, s2⟩ := hr'
  have hl := gE_le e
  obtain ⟨E, hE⟩ : ∃ E, gE e = E := ⟨_, rfl⟩
  have hE0 : ((E : Nat) : Int) ≤ 65536 := by omega
  have hE1 : (0 : Int) ≤ ((E : Nat) : Int) := by omega
  have HC := Lib.hid (fun w' => hE ▸ rE_any w' e e1 e2)
  have t1 : IntKind.i64.wrap (((E : Nat) : Int) + 256 * f) = ((E : Nat) : Int) + 256 * f := by rw [IntKind.wrap_i64]; omega
  have t2 : IntKind.i64.wrap (((E : Nat) : Int) + 256 * f + 64 * s) = ((E : Nat) : Int) + 256 * f + 64 * s := by rw [IntKind.wrap_i64]; omega
  rw [hE] at e0
  have E0 := Lib.hid (And.intro e0 trivial)
  clear e0 hl hr hE
  have q0 := hb1.cell 0 rfl
  have q1 := hb1.cell 1 rfl
  have q2 := hb1.cell 2 rfl
  have q0d : w1.drew.cell? ⟨w.heap.size, 0, none⟩ = some (.int .i64 e) := q0
  have q1d : w1.drew.cell? ⟨w.heap.size, 1, none⟩ = some (.int .i64 f) := q1
  have q2d : w1.drew.cell? ⟨w.heap.size, 2, none⟩ = some (.int .i64 s) := q2
  clear hb0 hb1 k1
  go_wp2_with fail
  go_region_held3 (fun W => W.cell? ⟨w.heap.size, 0, none⟩ = some (.int .i64 e) ∧ W.cell? ⟨w.heap.size, 1, none⟩ = some (.int .i64 f) ∧ W.cell? ⟨w.heap.size, 2, none⟩ = some (.int .i64 s)) (first | (with_reducible exact ⟨q0d, q1d, q2d⟩) | (with_reducible exact ⟨r0, r1, r2⟩) | go_keep) (first
    | (go_at_call 59
       refine (HC.out _).mono ?_
       rintro _ w2 ⟨_, rfl, rfl, k2⟩
       have r0 := k2.cell q0d (by simp)
       have r1 := k2.cell q1d (by simp)
       have r2 := k2.cell q2d (by simp)
       have K2 := Lib.hid k2
       clear k2)
    | (go_at_call 60
       refine (rflash_any _ f f1 f2).mono ?_
       rintro _ _ ⟨rfl, rfl⟩)
    | (go_at_call 61
       refine (rsram_any _ s s1 s2).mono ?_
       rintro _ _ ⟨rfl, rfl⟩))
  all_goals (
    go_wp2_with fail
    go_ret
    exact ⟨_, rfl, by show Value.int .i64 _ = _; rw [E0.out.1]; congr 1; omega, K1.out.drew.trans K2.out (by simp)⟩)
theorem iright_any (w : World) (n : Int) : Calls Tryz.prog 133 #[.int .i64 n] w (fun e W => e = .returned (.bool (decide (1 ≤ n) && decide (n ≤ 4096))) ∧ w = W) := by
  by_cases h0 : n < 1
  · go_enter Tryz.func133, Tryz.ntmps133
    go_wp2
    go_ret
    exact ⟨by simp <;> omega, rfl⟩
  · have h1 : 1 ≤ n := by omega
    go_enter Tryz.func133, Tryz.ntmps133
    go_wp2
    go_ret
    exact ⟨by simp <;> omega, rfl⟩
theorem secs_zero (size : Nat) (h : 1 ≤ size) : secs 0 size = 0 := by
  unfold secs; rw [Nat.zero_add]; exact Nat.div_eq_of_lt (by omega)
theorem secs_pos (many size : Nat) (h : 1 ≤ size) (hm : 1 ≤ many) : secs many size = (many - 1) / size + 1 := by
  unfold secs
  rw [show many + size - 1 = (many - 1) + size by omega, Nat.add_div_right _ (by omega)]
theorem secs_le (many size : Nat) (h : 1 ≤ size) : secs many size ≤ many := by
  by_cases hm : 1 ≤ many
  · rw [secs_pos many size h hm]
    have := Nat.div_le_self (many - 1) size
    omega
  · obtain rfl : many = 0 := by omega
    rw [secs_zero size h]; omega
set_option maxRecDepth 100000 in
set_option maxHeartbeats 1000000 in
theorem sects_any (w : World) (many size : Nat) (hm : many ≤ 1000000000) (h1 : 1 ≤ size) (h2 : size ≤ 4096) :
    Calls Tryz.prog 129 #[.int .i64 many, .int .i64 size] w (fun e W => e = .returned (.int .i64 (secs many size : Nat)) ∧ w = W) := by
  by_cases h0 : many = 0
  · subst h0
    rw [secs_zero size h1]
    clear h1 h2
    go_enter Tryz.func129, Tryz.ntmps129
    go_wp2
    go_ret
    exact ⟨rfl, rfl⟩
  · obtain ⟨j, rfl⟩ : ∃ j, many = j + 1 := ⟨many - 1, by omega⟩
    rw [secs_pos _ size h1 (by omega), Nat.add_sub_cancel]
    have d1 : (1 : Int) ≤ size := by omega
    have d2 : (size : Int) ≤ 4096 := by omega
    have d3 : (0 : Int) ≤ j := by omega
    have d4 : (j : Int) < 1000000000 := by omega
    have hs : (decide ((1 : Int) ≤ size) && decide ((size : Int) ≤ 4096)) = true := by simp; omega
    have t3 : ((size : Int) == 0) = false := by rw [beq_eq_false_iff_ne]; omega
    obtain ⟨q, hq⟩ : ∃ q : Nat, j / size = q := ⟨_, rfl⟩
    have hql : q ≤ j := hq ▸ Nat.div_le_self _ _
    have hqi : (j : Int) / (size : Int) = (q : Int) := by rw [← hq]; rfl
    have q1 : (q : Int) < 1000000000 := by omega
    have q0 : (0 : Int) ≤ (q : Int) := by omega
    rw [hq]
    have HQ := Lib.hid (And.intro hqi trivial)
    clear hq hql h0 hm h1 h2 hqi
    rw [show (((j + 1 : Nat)) : Int) = (j : Int) + 1 by omega]
    replace hs := Lib.hid (And.intro hs trivial)
    have t4 : decide ((j : Int) + 1 < 1) = false := by simp; omega
    have d5 : (j : Int) + 1 ≤ 1000000000 := by omega
    go_enter Tryz.func129, Tryz.ntmps129
    go_wp2_with fail
    refine (iright_any _ _).mono ?_
    rintro _ _ ⟨rfl, rfl⟩
    rw [hs.out.1]
    go_wp2_with fail
    go_ret
    refine ⟨?_, rfl⟩
    have := HQ.out.1
    simp
    rw [this]
    unfold wrap64
    omega
theorem secs_bd (e f s : Int) (n : Nat) (h : 1 ≤ n) : secs (gTotal e f s) n ≤ 100000 := Nat.le_trans (secs_le _ _ h) (gTotal_le e f s)
theorem spanN_le (size e f s : Int) : spanN size e f s ≤ 100001 := by
  unfold spanN
  split
  · have := secs_bd e f s size.toNat (by omega); omega
  · omega
set_option maxRecDepth 100000 in
set_option maxHeartbeats 2000000 in
theorem span_any (w : World) (hg : GeoLaid w) (size e f s : Int) :
    Calls Tryz.prog 101 #[.int .i64 size, .agg #[.int .i64 e, .int .i64 f, .int .i64 s]] w (Post w [] fun v W => v = .int .i64 (spanN size e f s : Nat)) := by
  go_enter Tryz.func101, Tryz.ntmps101
  go_wp2_with fail
  have hb0 := Blk.new w 23 [.int .i64 e, .int .i64 f, .int .i64 s]
  refine (right_any _ e f s).mono ?_
  rintro _ w1 ⟨_, rfl, rfl, k1⟩
  have K1 := Lib.hid (((Kept.refl w []).alloc _).trans k1 (by simp))
  have hb1 := hb0.kept k1 (by simp)
  have HG := Lib.hid (hg.kept K1.out (by simp))
  have q0 := hb1.cell 0 rfl
  have q1 := hb1.cell 1 rfl
  have q2 := hb1.cell 2 rfl
  clear hb0 hb1 k1 hg
  cases hr : gRight e f s
  · have e0 : spanN size e f s = 0 := by unfold spanN; rw [hr]; simp
    have E0 := Lib.hid (And.intro e0 trivial)
    clear e0
    go_wp2_with fail
    go_ret
    exact ⟨_, rfl, by show Value.int .i64 _ = _; rw [E0.out.1]; rfl, K1.out⟩
  by_cases h1 : size < 32
  · have e0 : spanN size e f s = 0 := by unfold spanN; rw [if_neg (by omega)]
    have E0 := Lib.hid (And.intro e0 trivial)
    clear e0
    go_wp2_with fail
    go_ret
    exact ⟨_, rfl, by show Value.int .i64 _ = _; rw [E0.out.1]; rfl, K1.out⟩
  by_cases h2 : 4096 < size
  · have e0 : spanN size e f s = 0 := by unfold spanN; rw [if_neg (by omega)]
    have E0 := Lib.hid (And.intro e0 trivial)
    clear e0
    go_wp2_with fail
    go_ret
    exact ⟨_, rfl, by show Value.int .i64 _ = _; rw [E0.out.1]; rfl, K1.out⟩
  obtain ⟨n, rfl⟩ := Int.eq_ofNat_of_zero_le (show 0 ≤ size by omega)
  have e0 : spanN (n : Int) e f s = 1 + secs (gTotal e f s) n := by unfold spanN; rw [if_pos ⟨hr, by omega, by omega⟩]; rfl
  have E0 := Lib.hid (And.intro e0 trivial)
  have HT := Lib.hid (total_any w1 HG.out e f s)
  have HB := Lib.hid (secs_bd e f s n (by omega))
  have HL := Lib.hid (gTotal_le e f s)
  have HS := Lib.hid (fun w' => sects_any w' (gTotal e f s) n (by have := HL.out; omega) (by omega) (by omega))
  clear e0 hr
  go_wp2_with fail
  refine HT.out.mono ?_
  rintro _ w2 ⟨_, rfl, rfl, k2⟩
  have K2 := Lib.hid (K1.out.trans k2 (by simp))
  clear k2
  go_wp2_with fail
  refine (HS.out _).mono ?_
  rintro _ _ ⟨rfl, rfl⟩
  replace HB := HB.out
  generalize secs (gTotal e f s) n = q at *
  have d0 : (0 : Int) ≤ q := by omega
  have d1 : (q : Int) ≤ 100000 := by omega
  go_wp2_with fail
  go_ret
  exact ⟨_, rfl, by show Value.int .i64 _ = _; rw [E0.out.1]; simp, K2.out⟩
set_option maxHeartbeats 1000000 in
theorem room_any (w : World) (hg : GeoLaid w) (size e f s : Int) :
    Calls Tryz.prog 84 #[.int .i64 size, .agg #[.int .i64 e, .int .i64 f, .int .i64 s]] w (Post w [] fun v W => v = .int .i64 (2 * spanN size e f s : Nat)) := by
  have H := Lib.hid (fun w' h => span_any w' h size e f s)
  have B := spanN_le size e f s
  generalize spanN size e f s = q at *
  have d0 : (0 : Int) ≤ q := by omega
  have d1 : (q : Int) ≤ 100001 := by omega
  have HG := Lib.hid (hg.alloc (.cells #[.int .i64 e, .int .i64 f, .int .i64 s] 23))
  clear hg B
  go_enter Tryz.func84, Tryz.ntmps84
  go_wp2_with fail
  refine (H.out _ HG.out).mono ?_
  rintro _ w1 ⟨_, rfl, rfl, k1⟩
  have K1 := Lib.hid (((Kept.refl w []).alloc _).trans k1 (by simp))
  clear k1
  go_wp2_with fail
  go_ret
  exact ⟨_, rfl, by show Value.int .i64 _ = Value.int .i64 _; simp, K1.out⟩
end Go.Proofs.YtcikhnkehglkgaaGreatDoor
