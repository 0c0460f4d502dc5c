/- PROVED: The contracts of the reference for pad. No conditions beyond those that each theorem states. -/
import Derived.Test.YtdcjjcliemleeaaPad
import Derived.Test.YtdcjjcliemleeaaPadPlain
namespace Go.Proofs.Ytdcjjcliemleeaa
open Go.RowKit Go.Proofs.YtdcjjcliemleeaaLib
set_option linter.unusedSimpArgs false
set_option linter.unusedVariables false

set_option maxHeartbeats 400000 in
theorem refHigh_any (w : World) (B : Nat) (v : Value) (l : List (Int × Int)) (hl : SliceAt Bytes2 2 w B v l) :
    Calls Try.prog 16 #[v] w fun e W => e = .returned (.bool (highOf l)) ∧ w = W := by
  have hlen := hl.len
  unfold maxLen at hlen
  obtain ⟨A, c, rfl, h1, h2, h3⟩ := hl
  have H3 := Lib.hid h3
  clear h3 h1 h2
  go_enter Try.func16, Try.ntmps16
  go_wp2
  go_loopg [3] l.length (fun g i wr => ∃ k : Nat, k = g ∧ k ≤ l.length ∧ i = .int .i64 (k - 1) ∧ w = wr ∧ Hid (∀ o, o ∈ l.drop k → (o.1 == 1) = false))
  case atStart => exact ⟨l.length, rfl, Nat.le_refl _, rfl, rfl, Lib.hid (by simp)⟩
  case round =>
    obtain ⟨k, hk, hkl, rfl, rfl, hn⟩ := hrel
    obtain rfl := hk
    by_cases hlt : 0 < k
    · have hx := H3.out
      rcases hx with hx | ⟨ba, off, rfl, hba, hx⟩
      · rw [hx] at hkl; simp at hkl; omega
      obtain ⟨j, rfl⟩ : ∃ j, k = j + 1 := ⟨k - 1, by omega⟩
      obtain ⟨o, ho⟩ : ∃ o, l[j]? = some o := ⟨_, List.getElem?_eq_getElem (by omega)⟩
      obtain ⟨cs, _, ⟨rfl, o1, o2, o3, o4⟩, hc⟩ := hx j o ho
      have d0 : w.cell? ⟨ba, off + (j * 2), none⟩ = some (.int .u8 o.1) := hc 0 _ rfl
      have d1 : w.cell? ⟨ba, off + (j * 2) + 1, none⟩ = some (.int .u8 o.2) := hc 1 _ rfl
      rw [show ((j + 1 : Nat) : Int) - 1 = (j : Int) from by omega]
      have HO := Lib.hid ho
      clear hc hx ho
      by_cases q : o.1 = 1
      · have b0 : (o.1 == 1) = true := by simp [q]
        have HB := Lib.hid b0
        clear q
        go_wp2
        go_ret
        refine ⟨?_, rfl⟩
        rw [highOf, lastOf_at _ _ _ l j o HO.out HB.out hn.out]
        rfl
      · have b0 : (o.1 == 1) = false := by simp [q]
        have HB := Lib.hid b0
        clear q
        go_wp2
        go_roundg j
        case measure => omega
        case rel =>
          refine ⟨j, rfl, by omega, rfl, rfl, Lib.hid ?_⟩
          intro x hx
          rw [List.drop_eq_getElem_cons (by omega), List.mem_cons] at hx
          rcases hx with hx | hx
          · have := HO.out
            rw [List.getElem?_eq_getElem (by omega)] at this
            rw [hx, Option.some.inj this]; exact HB.out
          · exact hn.out x hx
    · have hk0 : k = 0 := by omega
      subst hk0
      go_wp2
      go_ret
      refine ⟨?_, rfl⟩
      rw [highOf, lastOf_none _ _ _ l (by simpa using hn.out)]
      rfl

set_option maxHeartbeats 400000 in
theorem refPressed_any (w : World) (B : Nat) (v : Value) (l : List (Int × Int)) (hl : SliceAt Bytes2 2 w B v l) :
    Calls Try.prog 17 #[v] w fun e W => e = .returned (.int .u8 (pressedOf l)) ∧ w = W := by
  have hlen := hl.len
  unfold maxLen at hlen
  obtain ⟨A, c, rfl, h1, h2, h3⟩ := hl
  have H3 := Lib.hid h3
  clear h3 h1 h2
  go_enter Try.func17, Try.ntmps17
  go_wp2
  go_loopg [3] l.length (fun g i wr => ∃ k : Nat, k = g ∧ k ≤ l.length ∧ i = .int .i64 (k - 1) ∧ w = wr ∧ Hid (∀ o, o ∈ l.drop k → (o.1 == 0) = false))
  case atStart => exact ⟨l.length, rfl, Nat.le_refl _, rfl, rfl, Lib.hid (by simp)⟩
  case round =>
    obtain ⟨k, hk, hkl, rfl, rfl, hn⟩ := hrel
    obtain rfl := hk
    by_cases hlt : 0 < k
    · have hx := H3.out
      rcases hx with hx | ⟨ba, off, rfl, hba, hx⟩
      · rw [hx] at hkl; simp at hkl; omega
      obtain ⟨j, rfl⟩ : ∃ j, k = j + 1 := ⟨k - 1, by omega⟩
      obtain ⟨o, ho⟩ : ∃ o, l[j]? = some o := ⟨_, List.getElem?_eq_getElem (by omega)⟩
      obtain ⟨cs, _, ⟨rfl, o1, o2, o3, o4⟩, hc⟩ := hx j o ho
      have d0 : w.cell? ⟨ba, off + (j * 2), none⟩ = some (.int .u8 o.1) := hc 0 _ rfl
      have d1 : w.cell? ⟨ba, off + (j * 2) + 1, none⟩ = some (.int .u8 o.2) := hc 1 _ rfl
      rw [show ((j + 1 : Nat) : Int) - 1 = (j : Int) from by omega]
      have HO := Lib.hid ho
      clear hc hx ho
      by_cases q : o.1 = 0
      · have b0 : (o.1 == 0) = true := by simp [q]
        have HB := Lib.hid b0
        clear q
        go_wp2
        go_ret
        refine ⟨?_, rfl⟩
        rw [pressedOf, lastOf_at _ _ _ l j o HO.out HB.out hn.out]
        rfl
      · have b0 : (o.1 == 0) = false := by simp [q]
        have HB := Lib.hid b0
        clear q
        go_wp2
        go_roundg j
        case measure => omega
        case rel =>
          refine ⟨j, rfl, by omega, rfl, rfl, Lib.hid ?_⟩
          intro x hx
          rw [List.drop_eq_getElem_cons (by omega), List.mem_cons] at hx
          rcases hx with hx | hx
          · have := HO.out
            rw [List.getElem?_eq_getElem (by omega)] at this
            rw [hx, Option.some.inj this]; exact HB.out
          · exact hn.out x hx
    · have hk0 : k = 0 := by omega
      subst hk0
      go_wp2
      go_ret
      refine ⟨?_, rfl⟩
      rw [pressedOf, lastOf_none _ _ _ l (by simpa using hn.out)]
      rfl

theorem slice_take {α : Type} {K : World → List Value → α → Prop} {size : Nat} {w : World} {B : Nat} {A : Option Addr} {n c : Nat} {xs : List α} (h : SliceAt K size w B (.slice A n c) xs) (j : Nat) (hj : j ≤ n) :
    SliceAt K size w B (.slice A j c) (xs.take j) := by
  obtain ⟨A', c', e, h1, h2, h3⟩ := h
  cases e
  refine ⟨A, c, by rw [List.length_take, Nat.min_eq_left hj], by rw [List.length_take]; omega, h2, ?_⟩
  rcases h3 with h3 | ⟨b, off, e, hb, hx⟩
  · exact .inl (by rw [h3]; simp)
  · refine .inr ⟨b, off, e, hb, fun i x hi => hx i x ?_⟩
    rw [List.getElem?_take] at hi
    split at hi
    · exact hi
    · cases hi

theorem slice_all {w : World} {B : Nat} {v : Value} {l : List (Int × Int)} (h : SliceAt Bytes2 2 w B v l) : ∀ o, o ∈ l → 0 ≤ o.1 ∧ o.1 ≤ 255 ∧ 0 ≤ o.2 ∧ o.2 ≤ 255 := by
  intro o ho
  obtain ⟨A, c, e, h1, h2, h3⟩ := h
  rcases h3 with h3 | ⟨b, off, e, hb, hx⟩
  · rw [h3] at ho; cases ho
  · obtain ⟨i, hi⟩ := List.getElem?_of_mem ho
    obtain ⟨cs, _, ⟨_, r⟩, _⟩ := hx i o hi
    exact r

set_option maxHeartbeats 2000000 in
theorem refRead_any (w : World) (B : Nat) (v : Value) (l : List (Int × Int)) (hl : SliceAt Bytes2 2 w B v l) :
    Calls Try.prog 9 #[v] w fun e W => e = .returned (.int .u8 (readOf l)) ∧ w = W := by
  have hlen := hl.len
  have hall := slice_all hl
  unfold maxLen at hlen
  have H0 := Lib.hid hl
  obtain ⟨A, c, rfl, h1, h2, h3⟩ := hl
  have H3 := Lib.hid h3
  clear h3
  have HA := Lib.hid hall
  clear hall
  unfold maxLen at h2
  go_enter Try.func9, Try.ntmps9
  go_wp2_with fail
  refine (refHigh_any _ _ _ _ H0.out).mono ?_
  rintro _ _ ⟨rfl, rfl⟩
  by_cases hh : highOf l = true
  · have HH := Lib.hid hh
    have p0 := (pressedOf_byte l HA.out).1
    go_wp2_with fail
    refine (refPressed_any _ _ _ _ H0.out).mono ?_
    rintro _ _ ⟨rfl, rfl⟩
    go_wp2_with fail
    go_ret
    exact ⟨by rw [readOf, if_pos HH.out]; rfl, rfl⟩
  · have hh' : highOf l = false := by simpa using hh
    have HH := Lib.hid hh'
    clear hh
    go_wp2_with fail
    go_loopg [4, 5] l.length (fun g a i wr => ∃ k : Nat, k + g = l.length ∧ i = .int .i64 k ∧ a = .int .i64 (atUpto l k) ∧ w = wr)
    case atStart => exact ⟨0, by simp, rfl, rfl, rfl⟩
    case round =>
      obtain ⟨k, hk, rfl, rfl, rfl⟩ := hrel
      have HK := Lib.hid hk
      by_cases hlt : k < l.length
      · clear hk
        have k1 : k + 1 ≤ l.length := hlt
        go_wp2_with fail
        refine (refHigh_any _ _ _ _ (slice_take H0.out k (by omega))).mono ?_
        rintro _ _ ⟨rfl, rfl⟩
        go_wp2_with fail
        refine (refHigh_any _ _ _ _ (slice_take H0.out (k + 1) (by omega))).mono ?_
        rintro _ _ ⟨rfl, rfl⟩
        by_cases c1 : (highOf (l.take k) && !highOf (l.take (k + 1))) = true
        · have C1 := Lib.hid c1
          obtain ⟨c2, c3⟩ : highOf (l.take k) = true ∧ highOf (l.take (k + 1)) = false := by simpa using c1
          clear c1
          go_wp2_with fail
          go_roundg (gk - 1)
          case measure => have := HK.out; omega
          case rel =>
            refine ⟨k + 1, by have := HK.out; omega, by go_num, ?_, rfl⟩
            rw [atUpto, if_pos C1.out]; go_num
        · have C1 := Lib.hid c1
          by_cases c2 : highOf (l.take k) = true
          · have c3 : highOf (l.take (k + 1)) = true := by simpa [c2] using c1
            clear c1
            go_wp2_with fail
            go_roundg (gk - 1)
            case measure => have := HK.out; omega
            case rel =>
              refine ⟨k + 1, by have := HK.out; omega, by go_num, ?_, rfl⟩
              rw [atUpto, if_neg C1.out]
          · have c4 : highOf (l.take k) = false := by simpa using c2
            clear c1 c2
            go_wp2_with fail
            go_roundg (gk - 1)
            case measure => have := HK.out; omega
            case rel =>
              refine ⟨k + 1, by have := HK.out; omega, by go_num, ?_, rfl⟩
              rw [atUpto, if_neg C1.out]
      · obtain rfl : k = l.length := by omega
        have ha := atUpto_le l l.length
        have EA := Lib.hid (rfl : atUpto l l.length = atUpto l l.length)
        obtain ⟨at_, hat⟩ : ∃ a, a = atUpto l l.length := ⟨_, rfl⟩
        rw [← hat] at ha ⊢
        have HT := Lib.hid hat
        clear hat EA hk
        go_wp2_with fail
        go_loopg [8, 9] (l.length - at_) (fun g a i wr => ∃ k : Nat, at_ ≤ k ∧ k + g = l.length ∧ i = .int .i64 k ∧ a = .int .i64 (reads ((l.take k).drop at_)) ∧ w = wr)
        case atStart => exact ⟨at_, Nat.le_refl _, by omega, rfl, by rw [List.drop_of_length_le (by simp; omega)]; rfl, rfl⟩
        case round =>
          obtain ⟨k, ka, hk, rfl, rfl, rfl⟩ := hrel
          have HK := Lib.hid hk
          have KA := Lib.hid ka
          have hr : reads ((l.take k).drop at_) ≤ k := reads_le l at_ k
          by_cases hlt : k < l.length
          · have hx := H3.out
            rcases hx with hx | ⟨ba, off, rfl, hba, hx⟩
            · rw [hx] at hlt; simp at hlt
            obtain ⟨o, ho⟩ : ∃ o, l[k]? = some o := ⟨_, List.getElem?_eq_getElem hlt⟩
            obtain ⟨cs, _, ⟨rfl, o1, o2, o3, o4⟩, hc⟩ := hx k o ho
            have d0 : w.cell? ⟨ba, off + (k * 2), none⟩ = some (.int .u8 o.1) := hc 0 _ rfl
            have HO := Lib.hid ho
            have HN := Lib.hid (fun hb => reads_next1 l at_ k o ka ho hb)
            have HN0 := Lib.hid (fun hb => reads_next0 l at_ k o ka ho hb)
            clear hc hx ho hk
            by_cases q : o.1 = 2
            · have b0 : (o.1 == 2) = true := by simp [q]
              have HB := Lib.hid b0
              clear q
              go_wp2_with fail
              go_roundg (gk - 1)
              case measure => have := HK.out; omega
              case rel =>
                refine ⟨k + 1, Nat.le_succ_of_le KA.out, by have := HK.out; omega, by go_num, ?_, rfl⟩
                rw [HN.out HB.out]; go_num
            · have b0 : (o.1 == 2) = false := by simp [q]
              have HB := Lib.hid b0
              clear q
              go_wp2_with fail
              go_roundg (gk - 1)
              case measure => have := HK.out; omega
              case rel =>
                refine ⟨k + 1, Nat.le_succ_of_le KA.out, by have := HK.out; omega, by go_num, ?_, rfl⟩
                rw [HN0.out HB.out]
          · obtain rfl : k = l.length := by omega
            rw [List.take_length] at hr ⊢
            obtain ⟨m, hm⟩ : ∃ m, m = reads (l.drop at_) := ⟨_, rfl⟩
            rw [← hm] at hr ⊢
            have HM := Lib.hid hm
            clear hm hk
            have fin : readOf l = if 8 ≤ m then 1 else (if 0 < at_ then pressedOf (l.take at_) else 0) / 2 ^ m % 2 := by
              rw [readOf, if_neg (by rw [HH.out]; simp), ← HT.out, ← HM.out]
            have FIN := Lib.hid fin
            clear fin
            by_cases h8 : 8 ≤ m
            · go_wp2_with fail
              go_ret
              exact ⟨by rw [FIN.out, if_pos h8]; rfl, rfl⟩
            · have p0 := pressedOf_byte (l.take at_) (fun o ho => HA.out o (List.mem_of_mem_take ho))
              by_cases h9 : 0 < at_
              · go_wp2_with fail
                refine (refPressed_any _ _ _ _ (slice_take H0.out at_ ha)).mono ?_
                rintro _ _ ⟨rfl, rfl⟩
                go_wp2_with fail
                have FIN2 : Hid (readOf l = pressedOf (l.take at_) / 2 ^ m % 2) := Lib.hid (by rw [FIN.out, if_neg h8, if_pos h9])
                generalize pressedOf (l.take at_) = p at *
                go_loopg [10, 11] m (fun g a i wr => ∃ k : Nat, k + g = m ∧ i = .int .i64 k ∧ a = .int .u8 (p / 2 ^ k) ∧ w = wr)
                case atStart => exact ⟨0, by omega, rfl, by simp, rfl⟩
                case round =>
                  obtain ⟨k, hk, rfl, rfl, rfl⟩ := hrel
                  have HK := Lib.hid hk
                  have q0 := half_byte p p0 k
                  by_cases hlt : k < m
                  · have HD := Lib.hid (half_next p k)
                    go_wp2_with fail
                    go_roundg (gk - 1)
                    case measure => have := HK.out; omega
                    case rel => exact ⟨k + 1, by have := HK.out; omega, by go_num, by rw [HD.out] <;> simp, rfl⟩
                  · obtain rfl : k = m := by omega
                    go_wp2_with fail
                    go_ret
                    exact ⟨by rw [FIN2.out]; first | rfl | simp, rfl⟩
              · go_wp2_with fail
                have FIN2 : Hid (readOf l = 0 / 2 ^ m % 2) := Lib.hid (by rw [FIN.out, if_neg h8, if_neg h9])
                go_loopg [10, 11] m (fun g a i wr => ∃ k : Nat, k + g = m ∧ i = .int .i64 k ∧ a = .int .u8 (0 / 2 ^ k) ∧ w = wr)
                case atStart => exact ⟨0, by omega, rfl, by simp, rfl⟩
                case round =>
                  obtain ⟨k, hk, rfl, rfl, rfl⟩ := hrel
                  have HK := Lib.hid hk
                  have q0 := half_byte 0 (by omega) k
                  by_cases hlt : k < m
                  · have HD := Lib.hid (half_next 0 k)
                    go_wp2_with fail
                    go_roundg (gk - 1)
                    case measure => have := HK.out; omega
                    case rel => exact ⟨k + 1, by have := HK.out; omega, by go_num, by rw [HD.out] <;> simp, rfl⟩
                  · obtain rfl : k = m := by omega
                    go_wp2_with fail
                    go_ret
                    exact ⟨by rw [FIN2.out]; first | rfl | simp, rfl⟩

end Go.Proofs.Ytdcjjcliemleeaa
