/- PROVED: The walks of the four statements on pad. No conditions beyond those that each theorem states. -/
import Derived.Test.YtdcjjcliemleeaaPadSim
import Derived.Test.YtdcjjcliemleeaaPadRef
import Derived.Test.YtdcjjcliemleeaaArg
namespace Go.Proofs.Ytdcjjcliemleeaa
open Go.RowKit Go.Proofs.YtdcjjcliemleeaaLib
set_option linter.unusedSimpArgs false
set_option linter.unusedVariables false

theorem K_op {H : Type} {enc : TypeId × Value → H} {W : World} {cs : List Value} (h : Rds enc Try.prog W 28 cs) : ∃ a, cs.length = 2 ∧ Bytes2 W cs a := by
  obtain ⟨hl, hf⟩ := Rds.struct Try.underlying28 h
  have c1 : Try.prog.cellsOf 5 = 1 := by kernel_rfl
  have c2 : Try.prog.cellsOf 28 = 2 := by kernel_rfl
  rw [c2] at hl
  match cs, hl with
  | [x0, x1], _ =>
    have g0 := hf 0 _ rfl
    have g1 := hf 1 _ rfl
    simp [c1] at g0 g1
    obtain ⟨a, ea, wa⟩ := Rds.int Try.underlying5 g0
    obtain ⟨b, eb, wb⟩ := Rds.int Try.underlying5 g1
    cases ea; cases eb
    exact ⟨(a, b), rfl, rfl, (wf_u8 wa).1, (wf_u8 wa).2, (wf_u8 wb).1, (wf_u8 wb).2⟩
theorem K_byte {H : Type} {enc : TypeId × Value → H} {W : World} {cs : List Value} (h : Rds enc Try.prog W 5 cs) : ∃ a, cs.length = 1 ∧ Byte1 W cs a := by
  obtain ⟨a, ea, wa⟩ := Rds.int Try.underlying5 h
  cases ea
  exact ⟨a, rfl, rfl, (wf_u8 wa).1, (wf_u8 wa).2⟩

set_option maxHeartbeats 2000000 in
theorem PadPlays_walk (w : World) (v : Value) (l : List (Int × Int)) (hl : SliceAt Bytes2 2 w w.heap.size v l) :
    Calls Try.prog 3 #[v] w fun e W => e = .returned (.bool true) ∧ Below w.heap.size w W := by
  have hlen := hl.len
  have hall := slice_all hl
  unfold maxLen at hlen
  have H0 := Lib.hid hl
  obtain ⟨A, c, rfl, h1, h2, h3⟩ := hl
  have H3 := Lib.hid h3
  have HA := Lib.hid hall
  unfold maxLen at h2
  clear h3 hall
  go_enter Try.func3, Try.ntmps3
  go_wp2_with fail
  refine (awake_any _).mono ?_
  rintro _ w0 ⟨_, rfl, rfl, k0⟩
  by_cases h60 : 60 < l.length
  · go_wp2_with fail
    go_ret
    exact ⟨rfl, k0.below _ (Nat.le_refl _) (by simp)⟩
  · go_wp2_with fail
    refine (new_any _).mono ?_
    rintro _ w1 ⟨_, rfl, ⟨b, rfl, hp, hb⟩, k1⟩
    have k01 := k0.trans k1 (by simp)
    have hbw : w.heap.size ≤ b := Nat.le_trans k0.size hb
    go_wp2_with fail
    go_loopg [5] l.length (fun g i wr => ∃ k : Nat, k + g = l.length ∧ i = .int .i64 k ∧ PadAt wr b (PadS.new.run (l.take k)).1 ∧ Kept w wr [])
    case atStart => exact ⟨0, by simp, rfl, hp, k01⟩
    case round =>
      obtain ⟨k, hk, rfl, hp, hkept⟩ := hrel
      by_cases hlt : k < l.length
      · have hx := H3.out
        rcases hx with hx | ⟨ba, off, rfl, hba, hx⟩
        · rw [hx] at hlt; simp at hlt
        obtain ⟨o, ho⟩ : ∃ o, l[k]? = some o := ⟨_, List.getElem?_eq_getElem hlt⟩
        obtain ⟨cs, _, ⟨rfl, o1, o2, o3, o4⟩, hc⟩ := hx k o ho
        have e0 : w.cell? ⟨ba, off + (k * 2), none⟩ = some (.int .u8 o.1) := hc 0 _ rfl
        have e1 : w.cell? ⟨ba, off + (k * 2) + 1, none⟩ = some (.int .u8 o.2) := hc 1 _ rfl
        have d0 := hkept.cell e0 (by simp)
        have d1 := hkept.cell e1 (by simp)
        have HS := Lib.hid (run_snoc PadS.new l k o ho)
        have HK := Lib.hid hk
        have E0 := Lib.hid e0
        have E1 := Lib.hid e1
        have HSim := Lib.hid (sim_read _ _ (fun o h => HA.out o (List.mem_of_mem_take h)) (sim_run l HA.out k (by omega)))
        clear hc hx ho hk e0 e1 o1 o2 o3 o4
        have hkb : w.heap.size ≤ wr.heap.size := hkept.size
        have HL := Lib.hid (slice_take (H0.out.kept hkept (Nat.le_refl _) (by simp) (fun _ _ h => h)) k (by omega))
        by_cases q2 : o.1 = 2
        · have b0 : (o.1 == 0) = false := by simp [q2]
          have b1 : (o.1 == 1) = false := by simp [q2]
          have b2 : (o.1 == 2) = true := by simp [q2]
          have Q := Lib.hid q2
          clear q2
          go_wp2_with fail
          refine (refRead_any _ _ _ _ HL.out).mono ?_
          rintro _ _ ⟨rfl, rfl⟩
          go_wp2_with fail
          refine (read_any _ _ _ hp).mono ?_
          rintro _ w2 ⟨_, rfl, ⟨rfl, h2⟩, k2⟩
          have hs := HSim.out
          have d0 := k2.cell d0 (by simp; omega)
          go_wp2_with fail
          go_roundg (gk - 1)
          case measure => have := HK.out; omega
          case rel =>
            refine ⟨k + 1, by have := HK.out; omega, by go_num, ?_, hkept.trans k2 (by simp; omega)⟩
            rw [HS.out, PadS.op, if_neg (by rw [Q.out]; decide), if_neg (by rw [Q.out]; decide), if_pos Q.out]
            exact h2
        · have b2 : (o.1 == 2) = false := by simp [q2]
          by_cases q0 : o.1 = 0
          · have b0 : (o.1 == 0) = true := by simp [q0]
            have b1 : (o.1 == 1) = false := by simp [q0]
            have Q := Lib.hid q0
            clear q0 q2
            go_wp2_with fail
            refine (refRead_any _ _ _ _ HL.out).mono ?_
            rintro _ _ ⟨rfl, rfl⟩
            go_wp2_with fail
            refine (press_any _ _ _ _ hp).mono ?_
            rintro _ w2 ⟨_, rfl, ⟨rfl, h2⟩, k2⟩
            have d0 := k2.cell d0 (by simp; omega)
            go_wp2_with fail
            go_roundg (gk - 1)
            case measure => have := HK.out; omega
            case rel =>
              refine ⟨k + 1, by have := HK.out; omega, by go_num, ?_, hkept.trans k2 (by simp; omega)⟩
              rw [HS.out, PadS.op, if_pos Q.out]
              exact h2
          · have b0 : (o.1 == 0) = false := by simp [q0]
            have Q0 := Lib.hid q0
            by_cases q1 : o.1 = 1
            · have b1 : (o.1 == 1) = true := by simp [q1]
              have Q := Lib.hid q1
              clear q0 q1 q2
              go_wp2_with fail
              refine (refRead_any _ _ _ _ HL.out).mono ?_
              rintro _ _ ⟨rfl, rfl⟩
              go_wp2_with fail
              refine (write_any _ _ _ _ hp).mono ?_
              rintro _ w2 ⟨_, rfl, ⟨rfl, h2⟩, k2⟩
              go_wp2_with fail
              go_roundg (gk - 1)
              case measure => have := HK.out; omega
              case rel =>
                refine ⟨k + 1, by have := HK.out; omega, by go_num, ?_, hkept.trans k2 (by simp; omega)⟩
                rw [HS.out, PadS.op, if_neg Q0.out, if_pos Q.out]
                exact h2
            · have b1 : (o.1 == 1) = false := by simp [q1]
              have Q1 := Lib.hid q1
              have Q2 := Lib.hid q2
              clear q0 q1 q2
              go_wp2_with fail
              refine (refRead_any _ _ _ _ HL.out).mono ?_
              rintro _ _ ⟨rfl, rfl⟩
              go_wp2_with fail
              go_roundg (gk - 1)
              case measure => have := HK.out; omega
              case rel =>
                refine ⟨k + 1, by have := HK.out; omega, by go_num, ?_, hkept⟩
                rw [HS.out, PadS.op, if_neg Q0.out, if_neg Q1.out, if_neg Q2.out]
                exact hp
      · go_wp2_with fail
        go_ret
        exact ⟨rfl, hkept.below _ (Nat.le_refl _) (by simp)⟩


theorem strobe_eq (s : PadS) (b : Int) : (s.press b).strobe = { p := b, t := PadS.takes b, n := 0, hi := false } := by
  have e1 : (bits BinOp.and IntKind.u8 1 1 == 1) = true := by decide
  have e0 : (bits BinOp.and IntKind.u8 0 1 == 1) = false := by decide
  simp [PadS.strobe, PadS.press, PadS.write, e1, e0]
theorem takes_bit (p : Int) (i : Nat) (hi : i < 8) : (PadS.takes p)[i]?.getD 0 = bits BinOp.and IntKind.u8 (p / 2 ^ i) 1 := by
  simp only [PadS.takes, List.getElem?_map, List.getElem?_range hi, Option.map_some, Option.getD_some]

set_option maxHeartbeats 2000000 in
theorem PadTells_walk (w : World) (v : Value) (l : List (Int × Int)) (bu ot n : Int) (hl : SliceAt Bytes2 2 w w.heap.size v l) (b0 : 0 ≤ bu) (b1 : bu ≤ 255) (o0 : 0 ≤ ot) (o1 : ot ≤ 255) (n0 : 0 ≤ n) (n1 : n ≤ 255) :
    Calls Try.prog 4 #[v, .int .u8 bu, .int .u8 ot, .int .u8 n] w fun e W => e = .returned (.bool true) ∧ Below w.heap.size w W := by
  have hlen := hl.len
  unfold maxLen at hlen
  have H0 := Lib.hid hl
  obtain ⟨A, c, rfl, h1, h2, h3⟩ := hl
  clear h3 h1 h2
  go_enter Try.func4, Try.ntmps4
  go_wp2_with fail
  refine (awake_any _).mono ?_
  rintro _ w0 ⟨_, rfl, rfl, k0⟩
  by_cases h60 : 40 < l.length
  · go_wp2_with fail
    go_ret
    exact ⟨rfl, k0.below _ (Nat.le_refl _) (by simp)⟩
  · go_wp2_with fail
    refine (new_any _).mono ?_
    rintro _ w1 ⟨_, rfl, ⟨b, rfl, hp, hb⟩, k1⟩
    have k01 := k0.trans k1 (by simp)
    have hbw : w.heap.size ≤ b := Nat.le_trans k0.size hb
    go_wp2_with fail
    refine (do_any _ _ _ _ _ _ hp (H0.out.kept k01 (Nat.le_refl _) (by simp) (fun _ _ h => h)) hbw).mono ?_
    rintro _ w2 ⟨_, rfl, ⟨rfl, hp2⟩, k2⟩
    have k02 := k01.trans k2 (by simp; omega)
    go_wp2_with fail
    refine (press_any _ _ _ _ hp2).mono ?_
    rintro _ w3 ⟨_, rfl, ⟨rfl, hp3⟩, k3⟩
    have k03 := k02.trans k3 (by simp; omega)
    go_wp2_with fail
    refine (strobe_any _ _ _ hp3).mono ?_
    rintro _ w4 ⟨_, rfl, ⟨rfl, hp4⟩, k4⟩
    have k04 := k03.trans k4 (by simp; omega)
    rw [strobe_eq] at hp4
    go_wp2_with fail
    go_loopg [11, 12] 28 (fun g i _ wr => ∃ k : Nat, k + g = 28 ∧ i = .int .i64 k ∧ (∃ p, PadAt wr b ⟨p, PadS.takes bu, if k < 8 then (k : Int) else 8, false⟩) ∧ Kept w wr [])
    case atStart => exact ⟨0, by omega, rfl, ⟨_, hp4⟩, k04⟩
    case round =>
      obtain ⟨k, hk, rfl, ⟨p, hp⟩, hkept⟩ := hrel
      have HK := Lib.hid hk
      by_cases hlt : (k : Int) < 8 + n % 20
      · have hk28 : k < 28 := by omega
        go_wp2_with fail
        refine (press_any _ _ _ _ hp).mono ?_
        rintro _ w5 ⟨_, rfl, ⟨rfl, hp5⟩, k5⟩
        have k05 := hkept.trans k5 (by simp; omega)
        go_wp2_with fail
        refine (read_any _ _ _ hp5).mono ?_
        rintro _ w6 ⟨_, rfl, ⟨rfl, hp6⟩, k6⟩
        have k06 := k05.trans k6 (by simp; omega)
        by_cases h8 : k < 8
        · have hr : ∀ q, (PadS.press ⟨p, PadS.takes bu, if k < 8 then (k : Int) else 8, false⟩ q).read = (bits BinOp.and IntKind.u8 (bu / 2 ^ k) 1, ⟨q, PadS.takes bu, if k + 1 < 8 then ((k + 1 : Nat) : Int) else 8, false⟩) := by
            intro q
            have hne : ¬ (k : Int) = 8 := by omega
            simp only [PadS.press, PadS.read, h8, if_true, if_neg hne, Bool.false_eq_true, if_false, Int.toNat_natCast, takes_bit bu k h8]
            congr 2
            split <;> omega
          rw [hr] at hp6 ⊢
          clear hr hp5 hp
          go_wp2_with fail
          go_roundg (gk - 1)
          case measure => have := HK.out; omega
          case rel => exact ⟨k + 1, by have := HK.out; omega, by go_num, ⟨_, hp6⟩, k06⟩
        · have hr : ∀ q, (PadS.press ⟨p, PadS.takes bu, if k < 8 then (k : Int) else 8, false⟩ q).read = (1, ⟨q, PadS.takes bu, if k + 1 < 8 then ((k + 1 : Nat) : Int) else 8, false⟩) := by
            intro q
            simp only [PadS.press, PadS.read, if_neg h8, if_true, Bool.false_eq_true, if_false]
            rw [if_neg (by omega)]
          rw [hr] at hp6 ⊢
          clear hr hp5 hp
          go_wp2_with fail
          go_roundg (gk - 1)
          case measure => have := HK.out; omega
          case rel => exact ⟨k + 1, by have := HK.out; omega, by go_num, ⟨_, hp6⟩, k06⟩
      · go_wp2_with fail
        go_ret
        exact ⟨rfl, hkept.below _ (Nat.le_refl _) (by simp)⟩

theorem readHigh_any (w : World) (b : Nat) (s : PadS) (h : PadAt w b s) (hh : s.hi = true) :
    Calls Try.prog 10 #[.pointer (some ⟨b, 0, none⟩)] w fun e W => e = .returned (.int .u8 (bits BinOp.and IntKind.u8 s.p 1)) ∧ w = W := by
  have c0 := h.c0
  have c10 := h.c10
  go_enter Try.func10, Try.ntmps10
  go_wp2
  go_ret
  exact ⟨rfl, rfl⟩
theorem or1_odd (v : Int) (h0 : 0 ≤ v) (h1 : v ≤ 255) : (bits BinOp.and IntKind.u8 (bits BinOp.or IntKind.u8 v 1) 1 == 1) = true := by
  obtain ⟨n, rfl⟩ := Int.eq_ofNat_of_zero_le h0
  have hn : n < 256 := by omega
  exact (by decide +kernel : ∀ n : Fin 256, (bits BinOp.and IntKind.u8 (bits BinOp.or IntKind.u8 ((n.val : Nat) : Int) 1) 1 == 1) = true) ⟨n, hn⟩

set_option maxHeartbeats 2000000 in
theorem PadHigh_walk (w : World) (v u : Value) (l : List (Int × Int)) (x : Int) (m : List Int) (hl : SliceAt Bytes2 2 w w.heap.size v l) (x0 : 0 ≤ x) (x1 : x ≤ 255) (hm : SliceAt Byte1 1 w w.heap.size u m) :
    Calls Try.prog 5 #[v, .int .u8 x, u] w fun e W => e = .returned (.bool true) ∧ Below w.heap.size w W := by
  have hlen := hl.len
  have mlen := hm.len
  unfold maxLen at hlen mlen
  have H0 := Lib.hid hl
  obtain ⟨A, c, rfl, h1, h2, h3⟩ := hl
  obtain ⟨A', c', rfl, h4, h5, h6⟩ := hm
  have H6 := Lib.hid h6
  clear h3 h1 h2 h6 h4 h5
  go_enter Try.func5, Try.ntmps5
  go_wp2_with fail
  refine (awake_any _).mono ?_
  rintro _ w0 ⟨_, rfl, rfl, k0⟩
  by_cases h40 : 40 < l.length
  · go_wp2_with fail
    go_ret
    exact ⟨rfl, k0.below _ (Nat.le_refl _) (by simp)⟩
  by_cases m40 : 40 < m.length
  · go_wp2_with fail
    go_ret
    exact ⟨rfl, k0.below _ (Nat.le_refl _) (by simp)⟩
  go_wp2_with fail
  refine (new_any _).mono ?_
  rintro _ w1 ⟨_, rfl, ⟨b, rfl, hp, hb⟩, k1⟩
  have k01 := k0.trans k1 (by simp)
  have hbw : w.heap.size ≤ b := Nat.le_trans k0.size hb
  go_wp2_with fail
  refine (do_any _ _ _ _ _ _ hp (H0.out.kept k01 (Nat.le_refl _) (by simp) (fun _ _ h => h)) hbw).mono ?_
  rintro _ w2 ⟨_, rfl, ⟨rfl, hp2⟩, k2⟩
  have k02 := k01.trans k2 (by simp; omega)
  go_wp2_with fail
  refine (write_any _ _ _ _ hp2).mono ?_
  rintro _ w3 ⟨_, rfl, ⟨rfl, hp3⟩, k3⟩
  have k03 := k02.trans k3 (by simp; omega)
  have hhi : ((PadS.new.run l).1.write (bits BinOp.or IntKind.u8 x 1)).hi = true := by
    have e := or1_odd x x0 x1
    simp [PadS.write, e]
  generalize (PadS.new.run l).1.write (bits BinOp.or IntKind.u8 x 1) = s at *
  have HH := Lib.hid hhi
  clear hhi
  go_wp2_with fail
  go_loopg [9] m.length (fun g i wr => ∃ k : Nat, k + g = m.length ∧ i = .int .i64 k ∧ (∃ s, PadAt wr b s ∧ s.hi = true) ∧ Kept w wr [])
  case atStart => exact ⟨0, by omega, rfl, ⟨_, hp3, HH.out⟩, k03⟩
  case round =>
    obtain ⟨k, hk, rfl, ⟨s, hp, hs⟩, hkept⟩ := hrel
    have HK := Lib.hid hk
    have HS := Lib.hid hs
    clear hs hp3 hp2 k03 k02 k01 k1 k2 k3 k0
    by_cases hlt : k < m.length
    · have hx := H6.out
      rcases hx with hx | ⟨ba, off, rfl, hba, hx⟩
      · rw [hx] at hlt; simp at hlt
      obtain ⟨o, ho⟩ : ∃ o, m[k]? = some o := ⟨_, List.getElem?_eq_getElem hlt⟩
      obtain ⟨cs, _, ⟨rfl, o1, o2⟩, hc⟩ := hx k o ho
      have e0 : w.cell? ⟨ba, off + k, none⟩ = some (.int .u8 o) := by simpa using hc 0 _ rfl
      have d0 := hkept.cell e0 (by simp)
      clear hc hx ho
      go_wp2_with fail
      refine (press_any _ _ _ _ hp).mono ?_
      rintro _ w5 ⟨_, rfl, ⟨rfl, hp5⟩, k5⟩
      have k05 := hkept.trans k5 (by simp; omega)
      have d5 := k5.cell d0 (by simp; omega)
      have hh5 : (s.press o).hi = true := HS.out
      have HH5 := Lib.hid hh5
      clear hh5 hp e0 d0
      have hpp : (s.press o).p = o := rfl
      go_wp2_with fail
      go_quiet ((go_at_call 10; exact quiet_same (readHigh_any _ _ _ (hp5.drewN _) HH5.out)))
      go_wp2_with fail
      go_roundg (gk - 1)
      case measure => have := HK.out; omega
      case rel => exact ⟨k + 1, by have := HK.out; omega, by go_num, ⟨_, hp5.drewN _, HH5.out⟩, k05.drewN _⟩
    · go_wp2_with fail
      go_ret
      exact ⟨rfl, hkept.below _ (Nat.le_refl _) (by simp)⟩


set_option maxHeartbeats 2000000 in
theorem PadCopies_walk (w : World) (v u : Value) (l m : List (Int × Int)) (hl : SliceAt Bytes2 2 w w.heap.size v l) (hm : SliceAt Bytes2 2 w w.heap.size u m) :
    Calls Try.prog 6 #[v, u] w fun e W => e = .returned (.bool true) ∧ Below w.heap.size w W := by
  have hlen := hl.len
  have mlen := hm.len
  unfold maxLen at hlen mlen
  have H0 := Lib.hid hl
  have H1 := Lib.hid hm
  obtain ⟨A, c, rfl, h1, h2, h3⟩ := hl
  obtain ⟨A', c', rfl, h4, h5, h6⟩ := hm
  clear h3 h1 h2 h6 h4 h5
  go_enter Try.func6, Try.ntmps6
  go_wp2_with fail
  refine (awake_any _).mono ?_
  rintro _ w0 ⟨_, rfl, rfl, k0⟩
  by_cases h40 : 40 < l.length
  · go_wp2_with fail
    go_ret
    exact ⟨rfl, k0.below _ (Nat.le_refl _) (by simp)⟩
  by_cases m40 : 40 < m.length
  · go_wp2_with fail
    go_ret
    exact ⟨rfl, k0.below _ (Nat.le_refl _) (by simp)⟩
  go_wp2_with fail
  refine (new_any _).mono ?_
  rintro _ w1 ⟨_, rfl, ⟨b, rfl, hp, hb⟩, k1⟩
  have k01 := k0.trans k1 (by simp)
  have hbw : w.heap.size ≤ b := Nat.le_trans k0.size hb
  go_wp2_with fail
  refine (do_any _ _ _ _ _ _ hp (H0.out.kept k01 (Nat.le_refl _) (by simp) (fun _ _ h => h)) hbw).mono ?_
  rintro _ w2 ⟨_, rfl, ⟨rfl, hp2⟩, k2⟩
  have k02 := k01.trans k2 (by simp; omega)
  generalize (PadS.new.run l).1 = s at *
  go_wp2_with fail
  refine (copy_any _ _ _ hp2).mono ?_
  rintro _ w3 ⟨_, rfl, ⟨q, rfl, hq, hqb⟩, k3⟩
  have k03 := k02.trans k3 (by simp)
  have hp3 := hp2.kept k3 (by simp)
  have l2 := hp2.blk.lt
  go_wp2_with fail
  refine (copy_any _ _ _ hp3).mono ?_
  rintro _ w4 ⟨_, rfl, ⟨r, rfl, hr, hrb⟩, k4⟩
  have k04 := k03.trans k4 (by simp)
  have hp4 := hp3.kept k4 (by simp)
  have hq4 := hq.kept k4 (by simp)
  have l3 := hq.blk.lt
  have hqw : w.heap.size ≤ q := by have := k02.size; omega
  have hrw : w.heap.size ≤ r := by have := k03.size; omega
  go_wp2_with fail
  refine (do_any _ _ _ _ _ _ hq4 (H1.out.kept k04 (Nat.le_refl _) (by simp) (fun _ _ h => h)) hqw).mono ?_
  rintro _ w5 ⟨_, rfl, ⟨rfl, hq5⟩, k5⟩
  have k05 := k04.trans k5 (by simp; omega)
  have hp5 := hp4.kept k5 (by simp; omega)
  have hr5 := hr.kept k5 (by simp; omega)
  go_wp2_with fail
  refine (do_any _ _ _ _ _ _ hp5 (H1.out.kept k05 (Nat.le_refl _) (by simp) (fun _ _ h => h)) hbw).mono ?_
  rintro _ w6 ⟨_, rfl, ⟨rfl, hp6⟩, k6⟩
  have k06 := k05.trans k6 (by simp; omega)
  have hq6 := hq5.kept k6 (by simp; omega)
  have hr6 := hr5.kept k6 (by simp; omega)
  go_wp2_with fail
  refine (do_any _ _ _ _ _ _ hr6 (H1.out.kept k06 (Nat.le_refl _) (by simp) (fun _ _ h => h)) hrw).mono ?_
  rintro _ w7 ⟨_, rfl, ⟨rfl, hr7⟩, k7⟩
  have k07 := k06.trans k7 (by simp; omega)
  have hq7 := hq6.kept k7 (by simp; omega)
  have hp7 := hp6.kept k7 (by simp; omega)
  go_wp2_with fail
  refine (read_any _ _ _ hq7).mono ?_
  rintro _ w8 ⟨_, rfl, ⟨rfl, hq8⟩, k8⟩
  have k08 := k07.trans k8 (by simp; omega)
  have hp8 := hp7.kept k8 (by simp; omega)
  go_wp2_with fail
  refine (read_any _ _ _ hp8).mono ?_
  rintro _ w9 ⟨_, rfl, ⟨rfl, hp9⟩, k9⟩
  have k09 := k08.trans k9 (by simp; omega)
  go_wp2_with fail
  go_ret
  exact ⟨by simp, k09.below _ (Nat.le_refl _) (by simp)⟩

end Go.Proofs.Ytdcjjcliemleeaa
