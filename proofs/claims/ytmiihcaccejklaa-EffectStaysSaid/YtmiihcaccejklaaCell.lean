/- PROVED: the contracts of keepsakeref14.rows and Cell. No conditions beyond those that each theorem states. -/
import Derived.Test.YtmiihcaccejklaaProg
import Derived.Test.YtmiihcaccejklaaCellP
namespace Go.Proofs.Ytmiihcaccejklaa
open Go.RowKit Go.Proofs.YtmiihcaccejklaaLib
set_option linter.unusedSimpArgs false
set_option linter.unusedVariables false

set_option maxRecDepth 100000 in
set_option maxHeartbeats 1000000 in
theorem rows_any (w : World) : Calls Try.prog 52 #[] w (Post w [] fun v W => ∃ b, v = .slice (some ⟨b, 0, none⟩) 16 16 ∧ ∀ j, j < 16 → W.cell? ⟨b, j, none⟩ = some (.string ⟨(rowL j).toArray⟩)) := by
  go_enter Try.func52, Try.ntmps52
  go_wp2_with fail
  go_ret
  refine ⟨_, rfl, ⟨_, rfl, ?_⟩, (Kept.refl _ _).alloc _⟩
  intro j hj
  have hb := Blk.new w 9 ((List.range 16).map fun j => Value.string ⟨(rowL j).toArray⟩)
  have h2 : ((List.range 16).map fun j => Value.string ⟨(rowL j).toArray⟩)[j]? = some (Value.string ⟨(rowL j).toArray⟩) := by simp [hj]
  exact hb.cell j h2

set_option maxHeartbeats 1000000 in
theorem cell_any (w : World) (c : Int) (c0 : 0 ≤ c) (c1 : c ≤ 255) : Calls Try.prog 27 #[.int .u8 c] w (Post w [] fun v W => ∃ m : ByteArray, v = .tuple #[.string ⟨(nameOf c.toNat).toArray⟩, .string m]) := by
  obtain ⟨n, rfl⟩ := Int.eq_ofNat_of_zero_le c0
  have hn : n ≤ 255 := by omega
  have hj : n / 16 < 16 := by omega
  have hk : n % 16 < 16 := by omega
  obtain ⟨f1, f2, f3⟩ := row_facts ⟨n / 16, hj⟩
  simp only at f1 f2 f3
  have e2 : ((n : Int) / 16).toNat = n / 16 := by omega
  have e3 : ((n : Int) % 16) = ((n % 16 : Nat) : Int) := by omega
  unfold nameOf
  rw [Int.toNat_natCast]
  have E2 := Lib.hid e2
  have E3 := Lib.hid e3
  clear e2 e3
  go_enter Try.func27, Try.ntmps27
  go_wp2_with fail
  refine (rows_any _).mono ?_
  rintro _ w1 ⟨_, rfl, ⟨b, rfl, hc⟩, k1⟩
  have hcell := hc (n / 16) hj
  clear hc
  clear E2
  generalize hl : rowL (n / 16) = l at *
  replace hl := Lib.hid hl
  go_wp2_with fail
  go_loopg [5, 6] 16 (fun g at_ i wr => ∃ k : Nat, k + g = 16 ∧ k ≤ n % 16 ∧ i = .int .i64 k ∧ at_ = .int .i64 (entryAt l k) ∧ w1 = wr)
  case atStart => exact ⟨0, by omega, by omega, rfl, rfl, rfl⟩
  case round =>
    obtain ⟨k, hkg, hkn, rfl, rfl, rfl⟩ := hrel
    obtain ⟨G, rfl⟩ : ∃ G : Nat, G = gk := ⟨_, rfl⟩
    replace hkg := Lib.hid hkg
    by_cases hlt : k < n % 16
    · have h15 : k < 15 := by omega
      have hq := f3 ⟨k, h15⟩
      have he := comma_ge l (entryAt l k)
      simp only at hq
      have hlt2 : (k : Int) < (n : Int) % 16 := by omega
      generalize hq' : commaFrom l (entryAt l k) = q at *
      replace hq' := Lib.hid hq'
      have F2 := Lib.hid f2
      have F3 := Lib.hid f3
      clear f2 f3
      go_wp2_with fail
      go_loopg [5] l.length (fun g at_ wr => ∃ i : Nat, i + g = entryAt l k + l.length ∧ entryAt l k ≤ i ∧ i ≤ q ∧ commaFrom l i = q ∧ at_ = .int .i64 i ∧ w1 = wr)
      case atStart => exact ⟨entryAt l k, by omega, by omega, by omega, hq'.out, rfl, rfl⟩
      case round =>
        obtain ⟨i, hig, hi1, hi2, hi3, rfl, rfl⟩ := hrel
        replace hig := Lib.hid hig
        replace hi3 := Lib.hid hi3
        by_cases hiq : i < q
        · obtain ⟨hil, hne, hst⟩ := comma_step l i (by rw [hi3.out]; exact hiq)
          have hil2 : i < l.length := hil
          have hbs : i < (ByteArray.mk l.toArray).size := hil
          have hch := ch_ne l i hil hbs hne
          have HST := Lib.hid hst
          clear hst hne
          go_wp2_with fail
          go_roundg (gk - 1)
          case measure => have := hig.out; omega
          case rel => exact ⟨i + 1, by have := hig.out; omega, by omega, by omega, by rw [HST.out, hi3.out], by go_num, rfl⟩
        · have hiq2 : i = q := by omega
          have hbs : i < (ByteArray.mk l.toArray).size := by show i < l.length; omega
          have hch := ch_eq l i (by omega) hbs (comma_at l i (by rw [hi3.out]; exact hiq2) (by omega))
          clear hiq
          have hil : i < l.length := hbs
          replace hiq2 := Lib.hid hiq2
          go_wp2_with fail
          go_roundg (G - 1)
          case measure => have := hkg.out; omega
          case rel =>
            have := hkg.out
            have e : entryAt l (k + 1) = i + 1 := by rw [entryAt, hq'.out, hiq2.out]
            exact ⟨k + 1, by omega, by omega, by go_num, by rw [e]; go_num, rfl⟩
    · have hk2 : k = n % 16 := by omega
      have hge : (n : Int) % 16 ≤ (k : Int) := by omega
      have hb7 := f2 ⟨k, by omega⟩
      simp only at hb7
      have HP := Lib.hid (show entryAt l (n % 16) = entryAt l k by rw [hk2])
      clear hk2
      generalize entryAt l k = p at *
      clear f2 f3 hlt
      have hbs : p + 7 ≤ (ByteArray.mk l.toArray).size := hb7
      have hs1 := run_slice_string (P := Try.prog) w1 9 (ByteArray.mk l.toArray) .i64 .i64 p (p + 3) Try.underlying9 (by omega) (by omega) (by omega)
      go_wp2_with fail
      go_loopg [8] l.length (fun g en wr => ∃ i : Nat, i + g = p + 4 + l.length ∧ p + 4 ≤ i ∧ i ≤ l.length ∧ en = .int .i64 i ∧ w1 = wr)
      case atStart => exact ⟨p + 4, by omega, by omega, by omega, by go_num, rfl⟩
      case round =>
        obtain ⟨i, hig, hi1, hi2, rfl, rfl⟩ := hrel
        replace hig := Lib.hid hig
        have hs2 := fun w => run_slice_string (P := Try.prog) w 9 (ByteArray.mk l.toArray) .i64 .i64 (p + 4) i Try.underlying9 (by omega) (by omega) (by show (i : Int) ≤ (l.length : Int); omega)
        by_cases hil : i < l.length
        · have hil2 : i < (ByteArray.mk l.toArray).size := hil
          by_cases hch : ((((ByteArray.mk l.toArray)[i]'hil2).toNat : Int) != 44) = true
          · go_wp2_with fail
            go_roundg (gk - 1)
            case measure => have := hig.out; omega
            case rel => exact ⟨i + 1, by have := hig.out; omega, by omega, by omega, by go_num, rfl⟩
          · have hch : ((((ByteArray.mk l.toArray)[i]'hil2).toNat : Int) != 44) = false := by simpa using hch
            go_wp2_with fail
            go_region
            go_wp2_with fail
            go_ret2
            refine ⟨_, rfl, ⟨(ByteArray.mk l.toArray).extract (p + 4) i, ?_⟩, k1.drew⟩
            rw [hl.out, HP.out, ByteArray.extract_mk, show p + 3 - p = 3 by omega]
            rfl
        · go_wp2_with fail
          go_region
          go_wp2_with fail
          go_ret2
          refine ⟨_, rfl, ⟨(ByteArray.mk l.toArray).extract (p + 4) i, ?_⟩, k1.drew⟩
          rw [hl.out, HP.out, ByteArray.extract_mk, show p + 3 - p = 3 by omega]
          rfl
end Go.Proofs.Ytmiihcaccejklaa
