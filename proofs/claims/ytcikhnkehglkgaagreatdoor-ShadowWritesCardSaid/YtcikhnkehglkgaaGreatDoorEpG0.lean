/- PROVED: the contracts of package geo; the contracts of keepsakeref03.at and Eeprom. No conditions beyond those that each theorem states. -/
import Derived.Test.YtcikhnkehglkgaaGreatDoorProg
import Derived.Test.YtcikhnkehglkgaaGreatDoorEpP
import Derived.Laws.Rows
import Derived.Laws.EntriesVeiled
import Derived.Lib.SliceRun
namespace Go.Proofs.YtcikhnkehglkgaaGreatDoor
open Go.RowKit Go.Proofs.YtcikhnkehglkgaaGreatDoorLib
set_option linter.unusedSimpArgs false
set_option linter.unusedVariables false

/-- the blocks from here on are none of the listed variables -/
def nGlobals : Nat := 1 + 1
def geoTab : List Int := [0, 0, 0, 0, 7, 3, 1, 0, 8, 3, 1, 0, 9, 4, 1, 1, 10, 4, 1, 2, 11, 4, 1, 3, 12, 5, 2, 0, 13, 5, 2, 0, 14, 6, 2, 0, 15, 6, 2, 0, 16, 7, 2, 0]
/-- the table of package geo lies where it was laid -/
structure GeoLaid (w : World) : Prop where
  sz : nGlobals ≤ w.heap.size
  cell : ∀ (i : Nat) (x : Int), geoTab[i]? = some x → w.cell? ⟨1, i, none⟩ = some (.int .i64 x)
theorem GeoLaid.kept {w w1 : World} {S : List Nat} (h : GeoLaid w) (hk : Kept w w1 S) (hS : ∀ g, g ∈ S → nGlobals ≤ g) : GeoLaid w1 :=
  ⟨Nat.le_trans h.sz hk.size, fun i x hx => hk.cell (h.cell i x hx) (fun hm => absurd (hS _ hm) (by decide))⟩
theorem GeoLaid.alloc {w : World} (h : GeoLaid w) (o : Obj) : GeoLaid (w.alloc o) := h.kept (S := []) ((Kept.refl w []).alloc o) (by simp)
theorem GeoLaid.drew {w : World} (h : GeoLaid w) : GeoLaid w.drew := ⟨h.sz, h.cell⟩
theorem GeoLaid.drewN {w : World} (h : GeoLaid w) (n : Nat) : GeoLaid (w.drewN n) := ⟨h.sz, h.cell⟩

theorem within_any (w : World) (n m : Int) : Calls Tryz.prog 106 #[.int .i64 n, .int .i64 m] w (fun e W => e = .returned (.bool (decide (0 ≤ n) && decide (n ≤ m))) ∧ w = W) := by
  by_cases h0 : 0 ≤ n
  · by_cases h1 : n ≤ m
    · have e : (decide (0 ≤ n) && decide (n ≤ m)) = true := by simp [h0, h1]
      rw [e]
      go_enter Tryz.func106, Tryz.ntmps106
      go_wp2
      go_ret
      exact ⟨rfl, rfl⟩
    · have e : (decide (0 ≤ n) && decide (n ≤ m)) = false := by simp [h0, h1]
      rw [e]
      have h2 : m < n := by omega
      go_enter Tryz.func106, Tryz.ntmps106
      go_wp2
      go_ret
      exact ⟨rfl, rfl⟩
  · have e : (decide (0 ≤ n) && decide (n ≤ m)) = false := by simp [h0]
    rw [e]
    go_enter Tryz.func106, Tryz.ntmps106
    go_wp2
    go_ret
    exact ⟨rfl, rfl⟩
def geoCol (k : Nat) (c : Nat) : Nat := match c with | 0 => (geoRow k).1 | 1 => (geoRow k).2.1 | 2 => (geoRow k).2.2.1 | _ => (geoRow k).2.2.2
theorem geoTab_at {k c : Nat} (h2 : k ≤ 10) (hc : c ≤ 3) : geoTab[k * 4 + c]? = some ((geoCol k c : Nat) : Int) := by
  have h : ∀ (k : Fin 11) (c : Fin 4), geoTab[k.val * 4 + c.val]? = some ((geoCol k.val c.val : Nat) : Int) := by decide
  exact h ⟨k, by omega⟩ ⟨c, by omega⟩
set_option maxHeartbeats 1000000 in
theorem georow_any (w : World) (hg : GeoLaid w) (k : Nat) (h1 : 1 ≤ k) (h2 : k ≤ 10) :
    Calls Tryz.prog 151 #[.int .i64 k] w (Post w [] fun v W => v = .tuple #[.agg #[.int .i64 (geoCol k 0), .int .i64 (geoCol k 1), .int .i64 (geoCol k 2), .int .i64 (geoCol k 3)], .bool true]) := by
  have c0 := hg.cell (k * 4) _ (geoTab_at h2 (c := 0) (by omega))
  have c1 := hg.cell _ _ (geoTab_at h2 (c := 1) (by omega))
  have c2 := hg.cell _ _ (geoTab_at h2 (c := 2) (by omega))
  have c3 := hg.cell _ _ (geoTab_at h2 (c := 3) (by omega))
  have sz := hg.sz
  unfold nGlobals at sz
  have k0 : ((k : Int) == 0) = false := by rw [beq_eq_false_iff_ne]; omega
  have k1 : (1 : Int) ≤ k := by omega
  have k2 : (k : Int) ≤ 10 := by omega
  generalize geoCol k 0 = x0 at *
  generalize geoCol k 1 = x1 at *
  generalize geoCol k 2 = x2 at *
  generalize geoCol k 3 = x3 at *
  clear hg h1 h2
  replace c0 := fun o => Lib.cell?_alloc_some (W := w) o c0
  replace c1 := fun o => Lib.cell?_alloc_some (W := w) o c1
  replace c2 := fun o => Lib.cell?_alloc_some (W := w) o c2
  replace c3 := fun o => Lib.cell?_alloc_some (W := w) o c3
  go_enter Tryz.func151, Tryz.ntmps151
  go_wp2_with fail
  refine (within_any _ _ _).mono ?_
  rintro _ _ ⟨rfl, rfl⟩
  have e : (decide ((0 : Int) ≤ (k : Int)) && decide ((k : Int) ≤ 10)) = true := by simp; omega
  rw [e]
  go_wp2_with fail
  refine bodyPost_ret (v := .tuple #[.agg #[.int .i64 x0, .int .i64 x1, .int .i64 x2, .int .i64 x3], .bool true]) (by simp [results, Tryz.results151, go_sem]) rfl ⟨_, rfl, rfl, ?_⟩
  exact (Kept.refl w []).alloc _
theorem georow_no (w : World) (k : Int) (h : ¬ (1 ≤ k ∧ k ≤ 10)) :
    Calls Tryz.prog 151 #[.int .i64 k] w (Post w [] fun v W => v = .tuple #[.agg #[.int .i64 0, .int .i64 0, .int .i64 0, .int .i64 0], .bool false]) := by
  by_cases k0 : k = 0
  · have k1 : (k == 0) = true := by rw [beq_iff_eq]; exact k0
    clear h k0
    go_enter Tryz.func151, Tryz.ntmps151
    go_wp2_with fail
    refine bodyPost_ret (v := .tuple #[.agg #[.int .i64 0, .int .i64 0, .int .i64 0, .int .i64 0], .bool false]) (by simp [results, Tryz.results151, go_sem]) rfl ⟨_, rfl, rfl, ?_⟩
    exact (Kept.refl w []).alloc _
  · have k1 : (k == 0) = false := by rw [beq_eq_false_iff_ne]; exact k0
    have e : (decide ((0 : Int) ≤ k) && decide (k ≤ 10)) = false := by
      rw [Bool.and_eq_false_iff, decide_eq_false_iff_not, decide_eq_false_iff_not]; omega
    clear h k0
    go_enter Tryz.func151, Tryz.ntmps151
    go_wp2_with fail
    refine (within_any _ _ _).mono ?_
    rintro _ _ ⟨rfl, rfl⟩
    rw [e]
    go_wp2_with fail
    refine bodyPost_ret (v := .tuple #[.agg #[.int .i64 0, .int .i64 0, .int .i64 0, .int .i64 0], .bool false]) (by simp [results, Tryz.results151, go_sem]) rfl ⟨_, rfl, rfl, ?_⟩
    exact (Kept.refl w []).alloc _
theorem geoCol_le {k c : Nat} (h2 : k ≤ 10) (hc : c ≤ 3) : geoCol k c ≤ 16 := by
  have h : ∀ (k : Fin 11) (c : Fin 4), geoCol k.val c.val ≤ 16 := by decide
  exact h ⟨k, by omega⟩ ⟨c, by omega⟩
set_option maxHeartbeats 1000000 in
theorem power_any (w : World) (hg : GeoLaid w) (k c : Nat) (h1 : 1 ≤ k) (h2 : k ≤ 10) (hc : c ≤ 1) :
    Calls Tryz.prog 130 #[.int .i64 k, .int .i64 c] w (Post w [] fun v W => v = .int .i64 ((2 ^ geoCol k c : Nat) : Int)) := by
  have hx := geoCol_le h2 (c := c) (by omega)
  have e0 : (0 : Int) ≤ c := by omega
  have e1 : (c : Int) < 4 := by omega
  have ha : ([.int .i64 (geoCol k 0), .int .i64 (geoCol k 1), .int .i64 (geoCol k 2), .int .i64 (geoCol k 3)] : List Value)[c]? = some (.int .i64 (geoCol k c)) := by
    have : c = 0 ∨ c = 1 := by omega
    rcases this with rfl | rfl <;> rfl
  have hp : ∀ x : Nat, x ≤ 16 → IntKind.i64.wrap (2 ^ x) = (2 ^ x : Int) := by decide
  have ex := hp _ hx
  have H := georow_any w hg k h1 h2
  generalize geoCol k 0 = x0 at *
  generalize geoCol k 1 = x1 at *
  generalize geoCol k 2 = x2 at *
  generalize geoCol k 3 = x3 at *
  generalize geoCol k c = x at *
  have x00 : (0 : Int) ≤ x := by omega
  have x16 : (x : Int) ≤ 16 := by omega
  have HA := Lib.hid ha
  clear ha hp
  go_enter Tryz.func130, Tryz.ntmps130
  go_wp2_with fail
  refine H.mono ?_
  rintro _ w1 ⟨_, rfl, rfl, k1⟩
  have hk := Lib.hid k1
  have hcell : (w1.alloc (.cells #[.int .i64 x0, .int .i64 x1, .int .i64 x2, .int .i64 x3] 175)).cell? ⟨w1.heap.size, c, none⟩ = some (.int .i64 x) := (Blk.new w1 175 [.int .i64 x0, .int .i64 x1, .int .i64 x2, .int .i64 x3]).cell c HA.out
  clear k1 H
  go_wp2_with fail
  go_ret
  exact ⟨_, rfl, by simp, hk.out.alloc _⟩
theorem power_no (w : World) (k c : Int) (h : ¬ (1 ≤ k ∧ k ≤ 10)) :
    Calls Tryz.prog 130 #[.int .i64 k, .int .i64 c] w (Post w [] fun v W => v = .int .i64 0) := by
  have H := Lib.hid (georow_no w k h)
  clear h
  go_enter Tryz.func130, Tryz.ntmps130
  go_wp2_with fail
  refine H.out.mono ?_
  rintro _ w1 ⟨_, rfl, rfl, k1⟩
  have hk := Lib.hid k1
  clear k1 H
  go_wp2_with fail
  go_ret
  exact ⟨_, rfl, rfl, hk.out.alloc _⟩
theorem geoEeprom_any (w : World) (hg : GeoLaid w) (k : Nat) (h1 : 1 ≤ k) (h2 : k ≤ 10) :
    Calls Tryz.prog 107 #[.int .i64 k] w (Post w [] fun v W => v = .int .i64 (geoBytes k : Nat)) := by
  have H := Lib.hid (power_any w hg k 0 h1 h2 (by omega))
  go_enter Tryz.func107, Tryz.ntmps107
  go_wp2_with fail
  refine H.out.mono ?_
  rintro _ w1 ⟨_, rfl, rfl, k1⟩
  have hk := Lib.hid k1
  clear k1 H
  go_wp2_with fail
  go_ret
  exact ⟨_, rfl, rfl, hk.out⟩
theorem geoEeprom_no (w : World) (k : Int) (h : ¬ (1 ≤ k ∧ k ≤ 10)) :
    Calls Tryz.prog 107 #[.int .i64 k] w (Post w [] fun v W => v = .int .i64 0) := by
  have H := Lib.hid (power_no w k 0 h)
  clear h
  go_enter Tryz.func107, Tryz.ntmps107
  go_wp2_with fail
  refine H.out.mono ?_
  rintro _ w1 ⟨_, rfl, rfl, k1⟩
  have hk := Lib.hid k1
  clear k1 H
  go_wp2_with fail
  go_ret
  exact ⟨_, rfl, rfl, hk.out⟩
end Go.Proofs.YtcikhnkehglkgaaGreatDoor
namespace Go.Proofs.YtcikhnkehglkgaaGreatDoor
open Go.RowKit Go.Proofs.YtcikhnkehglkgaaGreatDoorLib Go.WideElems Go.Maps Go.ChangeMaps
set_option linter.unusedSimpArgs false
set_option linter.unusedVariables false

theorem rat_any (w : World) (g : Nat) (l : List Int) (h : Blk w g 3 (l.map (Value.int .i64))) (hl : l.length = 10) (k : Nat) (h1 : 1 ≤ k) (h2 : k ≤ 10) (x : Int) (hx : l[k - 1]? = some x) :
    Calls Tryz.prog 88 #[.slice (some ⟨g, 0, none⟩) 10 10, .int .i64 k] w (fun e W => e = .returned (.int .i64 x) ∧ w = W) := by
  have c : w.cell? ⟨g, k - 1, none⟩ = some (.int .i64 x) := h.cell (k - 1) (by rw [List.getElem?_map, hx]; rfl)
  obtain ⟨j, rfl⟩ : ∃ j, k = j + 1 := ⟨k - 1, by omega⟩
  rw [Nat.add_sub_cancel] at c
  have e : (((j + 1 : Nat) : Int)) = (j : Int) + 1 := by omega
  have j0 : (0 : Int) ≤ j := by omega
  have j1 : (j : Int) < 10 := by omega
  have j2 : ¬ ((j : Int) + 1 < 1) := by omega
  clear h hx h1 h2 hl
  rw [e]
  clear e
  go_enter Tryz.func88, Tryz.ntmps88
  go_wp2
  go_ret
  exact ⟨rfl, rfl⟩
theorem rat_no (w : World) (g : Nat) (k : Int) (h : ¬ (1 ≤ k ∧ k ≤ 10)) :
    Calls Tryz.prog 88 #[.slice (some ⟨g, 0, none⟩) 10 10, .int .i64 k] w (fun e W => e = .returned (.int .i64 0) ∧ w = W) := by
  by_cases h1 : k < 1
  · clear h
    go_enter Tryz.func88, Tryz.ntmps88
    go_wp2
    go_ret
    exact ⟨rfl, rfl⟩
  · have h2 : 10 < k := by omega
    clear h
    go_enter Tryz.func88, Tryz.ntmps88
    go_wp2
    go_ret
    exact ⟨rfl, rfl⟩
theorem rEeprom_any (w : World) (k : Nat) (h1 : 1 ≤ k) (h2 : k ≤ 10) :
    Calls Tryz.prog 59 #[.int .i64 k] w (Post w [] fun v W => v = .int .i64 (geoBytes k : Nat)) := by
  have hx : ([128, 256, 512, 1024, 2048, 4096, 8192, 16384, 32768, 65536] : List Int)[k - 1]? = some ((geoBytes k : Nat) : Int) := by
    rcases geo_cases h1 h2 with rfl | rfl | rfl | rfl | rfl | rfl | rfl | rfl | rfl | rfl <;> rfl
  have H := Lib.hid (fun w1 (hb : Blk w1 w.heap.size 3 (([128, 256, 512, 1024, 2048, 4096, 8192, 16384, 32768, 65536] : List Int).map (Value.int .i64))) => rat_any w1 w.heap.size _ hb rfl k h1 h2 _ hx)
  clear hx h1 h2
  go_enter Tryz.func59, Tryz.ntmps59
  go_wp2_with fail
  refine (H.out _ (Blk.new _ _ _)).mono ?_
  rintro _ _ ⟨rfl, rfl⟩
  go_wp2_with fail
  go_ret
  exact ⟨_, rfl, rfl, (Kept.refl w []).alloc _⟩
theorem rEeprom_no (w : World) (k : Int) (h : ¬ (1 ≤ k ∧ k ≤ 10)) :
    Calls Tryz.prog 59 #[.int .i64 k] w (Post w [] fun v W => v = .int .i64 0) := by
  have H := Lib.hid (fun w1 => rat_no w1 w.heap.size k h)
  clear h
  go_enter Tryz.func59, Tryz.ntmps59
  go_wp2_with fail
  refine (H.out _).mono ?_
  rintro _ _ ⟨rfl, rfl⟩
  go_wp2_with fail
  go_ret
  exact ⟨_, rfl, rfl, (Kept.refl w []).alloc _⟩
end Go.Proofs.YtcikhnkehglkgaaGreatDoor
