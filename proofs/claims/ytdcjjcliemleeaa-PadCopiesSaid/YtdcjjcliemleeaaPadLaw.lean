/- PROVED: The contracts of the helpers of the statements on pad. No conditions beyond those that each theorem states. -/
import Derived.Test.YtdcjjcliemleeaaPad
namespace Go.Proofs.Ytdcjjcliemleeaa
open Go.RowKit Go.Proofs.YtdcjjcliemleeaaLib
set_option linter.unusedSimpArgs false
set_option linter.unusedVariables false

def PadS.strobe (s : PadS) : PadS := (s.write 1).write 0
theorem strobe_any (w : World) (b : Nat) (s : PadS) (h : PadAt w b s) : Calls Try.prog 14 #[.pointer (some ⟨b, 0, none⟩)] w (Post w [b] fun r W => r = .tuple #[] ∧ PadAt W b s.strobe) := by
  go_enter Try.func14, Try.ntmps14
  go_wp2_with fail
  refine (write_any _ _ _ _ h).mono ?_
  rintro _ w1 ⟨_, rfl, ⟨rfl, h1⟩, k1⟩
  go_wp2_with fail
  refine (write_any _ _ _ _ h1).mono ?_
  rintro _ w2 ⟨_, rfl, ⟨rfl, h2⟩, k2⟩
  go_wp2_with fail
  go_end0
  exact ⟨_, rfl, ⟨rfl, h2⟩, k1.trans k2 (by simp)⟩

def PadS.op (s : PadS × Int) (o : Int × Int) : PadS × Int :=
  if o.1 = 0 then (s.1.press o.2, s.2) else if o.1 = 1 then (s.1.write o.2, s.2) else if o.1 = 2 then (s.1.read.2, s.1.read.1) else s
def PadS.run (s : PadS) (l : List (Int × Int)) : PadS × Int := l.foldl PadS.op (s, 0)
theorem run_snoc (s : PadS) (l : List (Int × Int)) (k : Nat) (o : Int × Int) (h : l[k]? = some o) : s.run (l.take (k + 1)) = PadS.op (s.run (l.take k)) o := by
  simp [PadS.run, List.take_add_one, h]
set_option maxHeartbeats 1000000 in
theorem do_any (w : World) (b B : Nat) (v : Value) (s : PadS) (l : List (Int × Int)) (h : PadAt w b s) (hl : SliceAt Bytes2 2 w B v l) (hB : B ≤ b) :
    Calls Try.prog 13 #[.pointer (some ⟨b, 0, none⟩), v] w (Post w [b] fun r W => r = .int .u8 (s.run l).2 ∧ PadAt W b (s.run l).1) := by
  have hbw := h.blk.lt
  have hlen := hl.len
  unfold maxLen at hlen
  obtain ⟨A, c, rfl, h1, h2, h3⟩ := hl
  have H3 := Lib.hid h3
  have H0 := Lib.hid h
  clear h3 h h1 h2
  go_enter Try.func13, Try.ntmps13
  go_wp2_with fail
  go_loopg [5, 6] l.length (fun g x i wr => ∃ k : Nat, k + g = l.length ∧ i = .int .i64 k ∧ x = .int .u8 (s.run (l.take k)).2 ∧ PadAt wr b (s.run (l.take k)).1 ∧ Kept w wr [b])
  case atStart => exact ⟨0, by simp, rfl, rfl, H0.out, Kept.refl _ _⟩
  case round =>
    obtain ⟨k, hk, rfl, rfl, hp, hkept⟩ := hrel
    by_cases hlt : k < l.length
    · have hx := H3.out
      rcases hx with hx | ⟨ba, off, rfl, hba, hx⟩
      · rw [hx] at hlt; simp at hlt
      obtain ⟨o, ho⟩ : ∃ o, l[k]? = some o := ⟨_, List.getElem?_eq_getElem hlt⟩
      obtain ⟨cs, _, ⟨rfl, o1, o2, o3, o4⟩, hc⟩ := hx k o ho
      have hne : ba ∉ [b] := by simp; omega
      have e0 : w.cell? ⟨ba, off + (k * 2), none⟩ = some (.int .u8 o.1) := hc 0 _ rfl
      have e1 : w.cell? ⟨ba, off + (k * 2) + 1, none⟩ = some (.int .u8 o.2) := hc 1 _ rfl
      have d0 := hkept.cell e0 hne
      have d1 := hkept.cell e1 hne
      have HS := Lib.hid (run_snoc s l k o ho)
      have HO := Lib.hid hc
      have HK := Lib.hid hk
      have E0 := Lib.hid e0
      have E1 := Lib.hid e1
      clear hc hx ho hk e0 e1 o1 o2 o3 o4 hne
      by_cases q0 : o.1 = 0
      · have b0 : (o.1 == 0) = true := by simp [q0]
        have b1 : (o.1 == 1) = false := by simp [q0]
        have b2 : (o.1 == 2) = false := by simp [q0]
        have Q := Lib.hid q0
        clear q0
        go_wp2_with fail
        refine (press_any _ _ _ _ hp).mono ?_
        rintro _ w1 ⟨_, rfl, ⟨rfl, h1⟩, k1⟩
        have d0 := (hkept.trans k1 (by simp)).cell E0.out (by simp; omega)
        go_wp2_with fail
        go_roundg (gk - 1)
        case measure => have := HK.out; omega
        case rel =>
          refine ⟨k + 1, by have := HK.out; omega, by go_num, ?_⟩
          rw [HS.out, PadS.op, if_pos Q.out]
          exact ⟨rfl, h1, hkept.trans k1 (by simp)⟩
      · have b0 : (o.1 == 0) = false := by simp [q0]
        by_cases q1 : o.1 = 1
        · have b1 : (o.1 == 1) = true := by simp [q1]
          have b2 : (o.1 == 2) = false := by simp [q1]
          have Q := Lib.hid q1
          have Q0 := Lib.hid q0
          clear q0 q1
          go_wp2_with fail
          refine (write_any _ _ _ _ hp).mono ?_
          rintro _ w1 ⟨_, rfl, ⟨rfl, h1⟩, k1⟩
          have d0 := (hkept.trans k1 (by simp)).cell E0.out (by simp; omega)
          go_wp2_with fail
          go_roundg (gk - 1)
          case measure => have := HK.out; omega
          case rel =>
            refine ⟨k + 1, by have := HK.out; omega, by go_num, ?_⟩
            rw [HS.out, PadS.op, if_neg Q0.out, if_pos Q.out]
            exact ⟨rfl, h1, hkept.trans k1 (by simp)⟩
        · have b1 : (o.1 == 1) = false := by simp [q1]
          have Q0 := Lib.hid q0
          have Q1 := Lib.hid q1
          by_cases q2 : o.1 = 2
          · have b2 : (o.1 == 2) = true := by simp [q2]
            have Q := Lib.hid q2
            clear q0 q1 q2
            go_wp2_with fail
            refine (read_any _ _ _ hp).mono ?_
            rintro _ w1 ⟨_, rfl, ⟨rfl, h1⟩, k1⟩
            go_wp2_with fail
            go_roundg (gk - 1)
            case measure => have := HK.out; omega
            case rel =>
              refine ⟨k + 1, by have := HK.out; omega, by go_num, ?_⟩
              rw [HS.out, PadS.op, if_neg Q0.out, if_neg Q1.out, if_pos Q.out]
              exact ⟨rfl, h1, hkept.trans k1 (by simp)⟩
          · have b2 : (o.1 == 2) = false := by simp [q2]
            have Q := Lib.hid q2
            clear q0 q1 q2
            go_wp2_with fail
            go_roundg (gk - 1)
            case measure => have := HK.out; omega
            case rel =>
              refine ⟨k + 1, by have := HK.out; omega, by go_num, ?_⟩
              rw [HS.out, PadS.op, if_neg Q0.out, if_neg Q1.out, if_neg Q.out]
              exact ⟨rfl, hp, hkept⟩
    · have hk8 : k = l.length := by omega
      subst hk8
      go_wp2_with fail
      go_ret
      rw [List.take_length] at hp ⊢
      exact ⟨_, rfl, ⟨rfl, hp⟩, hkept⟩

theorem awake_any (w : World) : Calls Try.prog 7 #[] w (Post w [] fun r W => r = .bool true) := by
  go_enter Try.func7, Try.ntmps7
  go_wp2_with fail
  refine (new_any _).mono ?_
  rintro _ w1 ⟨_, rfl, ⟨b, rfl, h1, hb⟩, k1⟩
  go_wp2_with fail
  refine (press_any _ _ _ _ h1).mono ?_
  rintro _ w2 ⟨_, rfl, ⟨rfl, h2⟩, k2⟩
  go_wp2_with fail
  refine (strobe_any _ _ _ h2).mono ?_
  rintro _ w3 ⟨_, rfl, ⟨rfl, h3⟩, k3⟩
  have v1 : (PadS.new.press 5).strobe.read.1 = 1 := by decide
  have v2 : (PadS.new.press 5).strobe.read.2.read.1 = 0 := by decide
  have v3 : (PadS.new.press 5).strobe.read.2.read.2.read.1 = 1 := by decide
  have v4 : (PadS.new.press 5).strobe.read.2.read.2.read.2.read.1 = 0 := by decide
  go_wp2_with fail
  refine (read_any _ _ _ h3).mono ?_
  rintro _ w4 ⟨_, rfl, ⟨rfl, h4⟩, k4⟩
  go_wp2_with fail
  refine (read_any _ _ _ h4).mono ?_
  rintro _ w5 ⟨_, rfl, ⟨rfl, h5⟩, k5⟩
  go_wp2_with fail
  refine (read_any _ _ _ h5).mono ?_
  rintro _ w6 ⟨_, rfl, ⟨rfl, h6⟩, k6⟩
  go_wp2_with fail
  refine (read_any _ _ _ h6).mono ?_
  rintro _ w7 ⟨_, rfl, ⟨rfl, h7⟩, k7⟩
  go_wp2_with fail
  go_ret
  refine ⟨_, rfl, rfl, ?_⟩
  have := k1.size
  exact ((((((k1.trans k2 (by simp; omega)).trans k3 (by simp; omega)).trans k4 (by simp; omega)).trans k5 (by simp; omega)).trans k6 (by simp; omega)).trans k7 (by simp; omega))

end Go.Proofs.Ytdcjjcliemleeaa
