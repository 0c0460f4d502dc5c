/- PROVED: the contracts of keepsakeref03.at and Eeprom. No conditions beyond those that each theorem states. -/
import Derived.Test.YtlglbgemmljmlaaDoorEpP
import Derived.Test.YtlglbgemmljmlaaDoorProg
import Derived.Laws.Rows
namespace Go.Proofs.YtlglbgemmljmlaaDoor
open Go.RowKit Go.Proofs.YtlglbgemmljmlaaDoorLib Go.WideElems Go.Maps Go.ChangeMaps
set_option linter.unusedSimpArgs false
set_option linter.unusedVariables false

theorem rat_any (w : World) (g : Nat) (l : List Int) (h : Blk w g 3 (l.map (Value.int .i64))) (hl : l.length = 10) (k : Nat) (h1 : 1 ≤ k) (h2 : k ≤ 10) (x : Int) (hx : l[k - 1]? = some x) :
    Calls Tryd.prog 77 #[.slice (some ⟨g, 0, none⟩) 10 10, .int .i64 k] w (fun e W => e = .returned (.int .i64 x) ∧ w = W) := by
  have c : w.cell? ⟨g, k - 1, none⟩ = some (.int .i64 x) := h.cell (k - 1) (by rw [List.getElem?_map, hx]; rfl)
  obtain ⟨j, rfl⟩ : ∃ j, k = j + 1 := ⟨k - 1, by omega⟩
  rw [Nat.add_sub_cancel] at c
  have e : (((j + 1 : Nat) : Int)) = (j : Int) + 1 := by omega
  have j0 : (0 : Int) ≤ j := by omega
  have j1 : (j : Int) < 10 := by omega
  have j2 : ¬ ((j : Int) + 1 < 1) := by omega
  clear h hx h1 h2 hl
  rw [e]
  clear e
  go_enter Tryd.func77, Tryd.ntmps77
  go_wp2
  go_ret
  exact ⟨rfl, rfl⟩
theorem rat_no (w : World) (g : Nat) (k : Int) (h : ¬ (1 ≤ k ∧ k ≤ 10)) :
    Calls Tryd.prog 77 #[.slice (some ⟨g, 0, none⟩) 10 10, .int .i64 k] w (fun e W => e = .returned (.int .i64 0) ∧ w = W) := by
  by_cases h1 : k < 1
  · clear h
    go_enter Tryd.func77, Tryd.ntmps77
    go_wp2
    go_ret
    exact ⟨rfl, rfl⟩
  · have h2 : 10 < k := by omega
    clear h
    go_enter Tryd.func77, Tryd.ntmps77
    go_wp2
    go_ret
    exact ⟨rfl, rfl⟩
theorem rEeprom_any (w : World) (k : Nat) (h1 : 1 ≤ k) (h2 : k ≤ 10) :
    Calls Tryd.prog 46 #[.int .i64 k] w (Post w [] fun v W => v = .int .i64 (geoBytes k : Nat)) := by
  have hx : ([128, 256, 512, 1024, 2048, 4096, 8192, 16384, 32768, 65536] : List Int)[k - 1]? = some ((geoBytes k : Nat) : Int) := by
    rcases geo_cases h1 h2 with rfl | rfl | rfl | rfl | rfl | rfl | rfl | rfl | rfl | rfl <;> rfl
  have H := Lib.hid (fun w1 (hb : Blk w1 w.heap.size 3 (([128, 256, 512, 1024, 2048, 4096, 8192, 16384, 32768, 65536] : List Int).map (Value.int .i64))) => rat_any w1 w.heap.size _ hb rfl k h1 h2 _ hx)
  clear hx h1 h2
  go_enter Tryd.func46, Tryd.ntmps46
  go_wp2_with fail
  refine (H.out _ (Blk.new _ _ _)).mono ?_
  rintro _ _ ⟨rfl, rfl⟩
  go_wp2_with fail
  go_ret
  exact ⟨_, rfl, rfl, (Kept.refl w []).alloc _⟩
theorem rEeprom_no (w : World) (k : Int) (h : ¬ (1 ≤ k ∧ k ≤ 10)) :
    Calls Tryd.prog 46 #[.int .i64 k] w (Post w [] fun v W => v = .int .i64 0) := by
  have H := Lib.hid (fun w1 => rat_no w1 w.heap.size k h)
  clear h
  go_enter Tryd.func46, Tryd.ntmps46
  go_wp2_with fail
  refine (H.out _).mono ?_
  rintro _ _ ⟨rfl, rfl⟩
  go_wp2_with fail
  go_ret
  exact ⟨_, rfl, rfl, (Kept.refl w []).alloc _⟩
end Go.Proofs.YtlglbgemmljmlaaDoor
