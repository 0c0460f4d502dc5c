/- PROVED: the contracts of keepsakeref03's numbers, and of Fill. No conditions beyond those that each theorem states. -/
import Derived.Test.YtdpiaibjpaalhaaDoorCom
import Derived.Test.YtdpiaibjpaalhaaDoorEpR
import Derived.Laws.Rows
namespace Go.Proofs.YtdpiaibjpaalhaaDoor
open Go.RowKit Go.Proofs.YtdpiaibjpaalhaaDoorLib Go.WideElems Go.Maps Go.ChangeMaps
set_option linter.unusedSimpArgs false
set_option linter.unusedVariables false

theorem rat_any (w : World) (g : Nat) (l : List Int) (h : Blk w g 3 (l.map (Value.int .i64))) (hl : l.length = 10) (k : Nat) (h1 : 1 ≤ k) (h2 : k ≤ 10) (x : Int) (hx : l[k - 1]? = some x) :
    Calls Tryd.prog 37 #[.slice (some ⟨g, 0, none⟩) 10 10, .int .i64 k] w (fun e W => e = .returned (.int .i64 x) ∧ w = W) := by
  have c : w.cell? ⟨g, k - 1, none⟩ = some (.int .i64 x) := h.cell (k - 1) (by rw [List.getElem?_map, hx]; rfl)
  obtain ⟨j, rfl⟩ : ∃ j, k = j + 1 := ⟨k - 1, by omega⟩
  rw [Nat.add_sub_cancel] at c
  have e : (((j + 1 : Nat) : Int)) = (j : Int) + 1 := by omega
  have j0 : (0 : Int) ≤ j := by omega
  have j1 : (j : Int) < 10 := by omega
  have j2 : ¬ ((j : Int) + 1 < 1) := by omega
  clear h hx h1 h2 hl
  rw [e]
  clear e
  go_enter Tryd.func37, Tryd.ntmps37
  go_wp2
  go_ret
  exact ⟨rfl, rfl⟩
theorem rat_no (w : World) (g : Nat) (k : Int) (h : ¬ (1 ≤ k ∧ k ≤ 10)) :
    Calls Tryd.prog 37 #[.slice (some ⟨g, 0, none⟩) 10 10, .int .i64 k] w (fun e W => e = .returned (.int .i64 0) ∧ w = W) := by
  by_cases h1 : k < 1
  · clear h
    go_enter Tryd.func37, Tryd.ntmps37
    go_wp2
    go_ret
    exact ⟨rfl, rfl⟩
  · have h2 : 10 < k := by omega
    clear h
    go_enter Tryd.func37, Tryd.ntmps37
    go_wp2
    go_ret
    exact ⟨rfl, rfl⟩
theorem rEeprom_any (w : World) (k : Nat) (h1 : 1 ≤ k) (h2 : k ≤ 10) :
    Calls Tryd.prog 11 #[.int .i64 k] w (Post w [] fun v W => v = .int .i64 (geoBytes k : Nat)) := by
  have hx : ([128, 256, 512, 1024, 2048, 4096, 8192, 16384, 32768, 65536] : List Int)[k - 1]? = some ((geoBytes k : Nat) : Int) := by
    rcases geo_cases h1 h2 with rfl | rfl | rfl | rfl | rfl | rfl | rfl | rfl | rfl | rfl <;> rfl
  have H := Lib.hid (fun w1 (hb : Blk w1 w.heap.size 3 (([128, 256, 512, 1024, 2048, 4096, 8192, 16384, 32768, 65536] : List Int).map (Value.int .i64))) => rat_any w1 w.heap.size _ hb rfl k h1 h2 _ hx)
  clear hx h1 h2
  go_enter Tryd.func11, Tryd.ntmps11
  go_wp2_with fail
  refine (H.out _ (Blk.new _ _ _)).mono ?_
  rintro _ _ ⟨rfl, rfl⟩
  go_wp2_with fail
  go_ret
  exact ⟨_, rfl, rfl, (Kept.refl w []).alloc _⟩
theorem rEeprom_no (w : World) (k : Int) (h : ¬ (1 ≤ k ∧ k ≤ 10)) :
    Calls Tryd.prog 11 #[.int .i64 k] w (Post w [] fun v W => v = .int .i64 0) := by
  have H := Lib.hid (fun w1 => rat_no w1 w.heap.size k h)
  clear h
  go_enter Tryd.func11, Tryd.ntmps11
  go_wp2_with fail
  refine (H.out _).mono ?_
  rintro _ _ ⟨rfl, rfl⟩
  go_wp2_with fail
  go_ret
  exact ⟨_, rfl, rfl, (Kept.refl w []).alloc _⟩
theorem rPage_any (w : World) (k : Nat) (h1 : 1 ≤ k) (h2 : k ≤ 10) :
    Calls Tryd.prog 15 #[.int .i64 k] w (Post w [] fun v W => v = .int .i64 (geoPage k : Nat)) := by
  have hx : ([8, 8, 16, 16, 16, 32, 32, 64, 64, 128] : List Int)[k - 1]? = some ((geoPage k : Nat) : Int) := by
    rcases geo_cases h1 h2 with rfl | rfl | rfl | rfl | rfl | rfl | rfl | rfl | rfl | rfl <;> rfl
  have H := Lib.hid (fun w1 (hb : Blk w1 w.heap.size 3 (([8, 8, 16, 16, 16, 32, 32, 64, 64, 128] : List Int).map (Value.int .i64))) => rat_any w1 w.heap.size _ hb rfl k h1 h2 _ hx)
  clear hx h1 h2
  go_enter Tryd.func15, Tryd.ntmps15
  go_wp2_with fail
  refine (H.out _ (Blk.new _ _ _)).mono ?_
  rintro _ _ ⟨rfl, rfl⟩
  go_wp2_with fail
  go_ret
  exact ⟨_, rfl, rfl, (Kept.refl w []).alloc _⟩
theorem rWide_any (w : World) (k : Nat) (h1 : 1 ≤ k) (h2 : k ≤ 10) :
    Calls Tryd.prog 20 #[.int .i64 k] w (Post w [] fun v W => v = .int .i64 (geoWide k : Nat)) := by
  have hx : ([1, 1, 1, 1, 1, 2, 2, 2, 2, 2] : List Int)[k - 1]? = some ((geoWide k : Nat) : Int) := by
    rcases geo_cases h1 h2 with rfl | rfl | rfl | rfl | rfl | rfl | rfl | rfl | rfl | rfl <;> rfl
  have H := Lib.hid (fun w1 (hb : Blk w1 w.heap.size 3 (([1, 1, 1, 1, 1, 2, 2, 2, 2, 2] : List Int).map (Value.int .i64))) => rat_any w1 w.heap.size _ hb rfl k h1 h2 _ hx)
  clear hx h1 h2
  go_enter Tryd.func20, Tryd.ntmps20
  go_wp2_with fail
  refine (H.out _ (Blk.new _ _ _)).mono ?_
  rintro _ _ ⟨rfl, rfl⟩
  go_wp2_with fail
  go_ret
  exact ⟨_, rfl, rfl, (Kept.refl w []).alloc _⟩
theorem rBlocks_any (w : World) (k : Nat) (h1 : 1 ≤ k) (h2 : k ≤ 10) :
    Calls Tryd.prog 25 #[.int .i64 k] w (Post w [] fun v W => v = .int .i64 (geoBlocks k : Nat)) := by
  have hx : ([0, 0, 1, 2, 3, 0, 0, 0, 0, 0] : List Int)[k - 1]? = some ((geoBlocks k : Nat) : Int) := by
    rcases geo_cases h1 h2 with rfl | rfl | rfl | rfl | rfl | rfl | rfl | rfl | rfl | rfl <;> rfl
  have H := Lib.hid (fun w1 (hb : Blk w1 w.heap.size 3 (([0, 0, 1, 2, 3, 0, 0, 0, 0, 0] : List Int).map (Value.int .i64))) => rat_any w1 w.heap.size _ hb rfl k h1 h2 _ hx)
  clear hx h1 h2
  go_enter Tryd.func25, Tryd.ntmps25
  go_wp2_with fail
  refine (H.out _ (Blk.new _ _ _)).mono ?_
  rintro _ _ ⟨rfl, rfl⟩
  go_wp2_with fail
  go_ret
  exact ⟨_, rfl, rfl, (Kept.refl w []).alloc _⟩
def fillK (b : List Int) (n k : Nat) : List Int := (fillL b n).take k ++ List.replicate (n - k) 0
theorem fillK_len (b : List Int) (n k : Nat) (h : k ≤ n) : (fillK b n k).length = n := by simp [fillK, fillL_len]; omega
theorem fillK_zero (b : List Int) (n : Nat) : fillK b n 0 = List.replicate n 0 := by simp [fillK]
theorem fillK_end (b : List Int) (n : Nat) : fillK b n n = fillL b n := by simp [fillK, List.take_of_length_le, fillL_len]
theorem fillL_nil (n : Nat) : fillL [] n = List.replicate n 0 := by
  apply List.ext_getElem?
  intro i
  simp [fillL, List.getElem?_replicate]
  by_cases h : i < n
  · simp [h]
  · rw [if_neg h, List.getElem?_eq_none (by simpa using h)]; rfl
theorem fillL_at (b : List Int) (n k : Nat) (h : k < n) (y : Int) (hy : b[k % b.length]? = some y) : (fillL b n)[k]? = some y := by
  simp [fillL, List.getElem?_map, List.getElem?_range h, hy]
theorem fillK_step (b : List Int) (n k : Nat) (h : k < n) (y : Int) (hy : b[k % b.length]? = some y) : (fillK b n k).set k y = fillK b n (k + 1) := by
  have e : ((fillL b n).take k).length = k := by rw [List.length_take, fillL_len]; omega
  unfold fillK
  rw [List.set_append_right _ _ (by omega), e, Nat.sub_self, show n - k = (n - (k + 1)) + 1 by omega, List.replicate_succ, List.set_cons_zero, List.take_add_one, fillL_at b n k h y hy]
  simp
set_option maxHeartbeats 2000000 in
theorem fill_any (w : World) (v : Value) (bq off : Nat) (b : List Int) (hs : Sl .u8 w v bq off b) (n : Nat) (hn : n ≤ 65536) (hb : b.length ≤ 1000000) :
    Calls Tryd.prog 12 #[v, .int .i64 n] w (Post w [] fun r W => Own 5 .u8 W w.heap.size r (fillL b n)) := by
  obtain ⟨i0, hi, hz0, hz1, hz2⟩ := info_parts info8
  obtain ⟨w1, hmk, hrow, k1⟩ := make_own (P := Tryd.prog) (k := .u8) Tryd.underlying22 hi hz0 hz1 (by omega) n (by omega) w
  have HROW := Lib.hid hrow
  have K1 := Lib.hid k1
  have HS := Lib.hid hs
  have n0 : (0 : Int) ≤ n := by omega
  have n1 : (n : Int) ≤ 65536 := by omega
  have b1 : (b.length : Int) ≤ 1000000 := by omega
  clear hrow k1 hi hz0 hz1 hz2
  by_cases hne : b = []
  · subst hne
    obtain ⟨A, c, rfl, _, _, _, _⟩ := hs
    go_enter Tryd.func12, Tryd.ntmps12
    go_wp2_with fail
    refine wp_loop_rounds 1 ?_
    rw [rounds_succ]
    by_cases h0 : n = 0
    · subst h0
      go_wp2_with fail
      go_ret
      exact ⟨_, rfl, HROW.out, K1.out⟩
    · have h1 : decide (0 < n) = true := by rw [decide_eq_true_iff]; omega
      have h2 : (0 : Int) < n := by omega
      go_wp2_with fail
      go_ret
      exact ⟨_, rfl, by rw [fillL_nil]; exact HROW.out, K1.out⟩
  obtain ⟨c, rfl⟩ := hs.at hne
  have bl : 0 < b.length := List.length_pos_iff.2 hne
  have bli : (0 : Int) < b.length := by omega
  have bld : decide (0 < b.length) = true := by rw [decide_eq_true_iff]; exact bl
  have HNE := Lib.hid hne
  clear hs hne
  go_enter Tryd.func12, Tryd.ntmps12
  go_wp2_with fail
  go_loopg [6] n (fun g i wr => ∃ k : Nat, k + g = n ∧ i = .int .i64 k ∧ Own 5 .u8 wr w.heap.size (.slice (some ⟨w.heap.size, 0, none⟩) n n) (fillK b n k) ∧ Kept w wr [])
  case atStart => exact ⟨0, by omega, rfl, by rw [fillK_zero]; exact HROW.out, K1.out⟩
  case round =>
    obtain ⟨k, hk, rfl, hown, hkept⟩ := hrel
    have HK := Lib.hid hk
    have HOW := Lib.hid hown
    have HKE := Lib.hid hkept
    clear hkept
    have k0 : (0 : Int) ≤ k := by omega
    by_cases hlt : k < n
    · have hlti : (k : Int) < n := by omega
      have hd : decide (k < n) = true := by simpa using hlt
      have hm : k % b.length < b.length := Nat.mod_lt _ bl
      have hy := List.getElem?_eq_getElem hm
      generalize b[k % b.length] = y at hy
      have cs := (HS.out.kept HKE.out (.inr (by simp))).cell hy
      have kl : k < (fillK b n k).length := by rw [fillK_len _ _ _ (by omega)]; exact hlt
      obtain ⟨bx, hsl, hbx⟩ := hown.sl
      have ebx : bx = w.heap.size := by
        rcases hbx with hbx | hbx
        · rw [hbx] at kl; simp at kl
        · simpa [Value.ownBlock] using hbx.1.symm
      subst ebx
      have co := hsl.cell (List.getElem?_eq_getElem kl)
      rw [Nat.zero_add] at co
      generalize (fillK b n k)[k] = z at co
      have fo := hown.free rfl k
      have ltw : w.heap.size < wr.heap.size := hsl.lt (by intro e; rw [e] at kl; simp at kl)
      have m0 : (0 : Int) ≤ (k : Int) % b.length := Int.emod_nonneg _ (by omega)
      have m1 : (k : Int) % b.length < b.length := Int.emod_lt_of_pos _ bli
      have me : ((k : Int) % b.length).toNat = k % b.length := by rw [← Int.natCast_emod, Int.toNat_natCast]
      have HY := Lib.hid hy
      have HKL := Lib.hid kl
      clear hy hk hown hsl hbx kl hm
      go_wp2_with fail
      go_roundg (gk - 1)
      case measure => have := HK.out; omega
      case rel =>
        refine ⟨k + 1, by have := HK.out; omega, by go_num, ?_, HKE.out.setCell (.inr (Nat.le_refl _)) _⟩
        rw [← fillK_step b n k hlt y HY.out]
        exact HOW.out.set rfl k y HKL.out
    · have hkn : k = n := by omega
      have hd : decide (k < n) = false := by simpa using hlt
      subst hkn
      clear hk hown hlt
      go_wp2_with fail
      go_ret
      exact ⟨_, rfl, by have := HOW.out; rwa [fillK_end] at this, HKE.out⟩
end Go.Proofs.YtdpiaibjpaalhaaDoor
