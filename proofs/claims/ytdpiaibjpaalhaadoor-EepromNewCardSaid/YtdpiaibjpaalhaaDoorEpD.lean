/- PROVED: the contracts of the chip's methods that tell, ask and thank. No conditions beyond those that each theorem states. -/
import Derived.Test.YtdpiaibjpaalhaaDoorEpC
namespace Go.Proofs.YtdpiaibjpaalhaaDoor
open Go.RowKit Go.Proofs.YtdpiaibjpaalhaaDoorLib Go.WideElems Go.Maps
set_option linter.unusedSimpArgs false
set_option linter.unusedVariables false

theorem post_id {w W : World} {F : List Nat} {b : Nat} {s : EpS} (h : ChipAt W b F s) (hk : Kept w W F) : Post w F (fun r W => r = .tuple #[] ∧ ChipAt W b F s) (.returned (.tuple #[])) W := ⟨_, rfl, ⟨rfl, h⟩, hk⟩
theorem ChipX.mid {w W : World} {b : Nat} {F : List Nat} {s : EpS} {bw : Nat} {vd vn vc vw : Value} (h : ChipX w b F s bw vd vn vc vw) (s' : EpS) (hok : s'.Ok) (hk : Kept w W [b]) (hb : Blk W b 71 (EpS.cells s' b bw vd vn vc vw))
    (e1 : s'.data = s.data) (e2 : s'.scl = s.scl) (e3 : s'.sda = s.sda) (e4 : s'.coll = s.coll) (e5 : s'.waits = s.waits) (e6 : s.clock ≤ s'.clock) (e7 : s'.hasMap = s.hasMap) (e8 : s'.nx = s.nx) : ChipAt W b F s' :=
  ⟨bw, vd, vn, vc, vw, h.turn0 hk hok hb e1 e2 e3 e4 e5 e6 e7 e8⟩
theorem ChipX.at {w : World} {b : Nat} {F : List Nat} {s : EpS} {bw : Nat} {vd vn vc vw : Value} (h : ChipX w b F s bw vd vn vc vw) : ChipAt w b F s := ⟨_, _, _, _, _, h⟩
theorem ChipX.one {w W : World} {b : Nat} {F : List Nat} {s : EpS} {bw : Nat} {vd vn vc vw : Value} (h : ChipX w b F s bw vd vn vc vw) (hk : Kept w W [b]) : Kept w W F := hk.mono (fun g hg => by simp at hg; subst hg; exact .inl h.fb)
set_option maxHeartbeats 1000000 in
theorem tells_any (w : World) (b : Nat) (F : List Nat) (s : EpS) (e : Int) (l : Bool) (h : ChipAt w b F s) (hg : s.Go) (hev : s.ev = .tells) :
    Calls Tryd.prog 84 #[.pointer (some ⟨b, 0, none⟩), .int .i64 e, .bool l] w (Post w F fun r W => r = .tuple #[] ∧ ChipAt W b F (s.tells e)) := by
  have hok := h.ok.tells hg e
  by_cases he : e = 4
  · subst he
    obtain ⟨bw, vd, vn, vc, vw, hx⟩ := h
    have c7 := hx.blk.cell 7 rfl
    have c3 := hx.blk.cell 3 rfl
    have c4 := hx.blk.cell 4 rfl
    have f7 := hx.blk.free 7
    have f3 := hx.blk.free 3
    have f4 := hx.blk.free 4
    have lt := hx.blk.lt
    have hb := hx.ok.tb hev
    have b0 : (0 : Int) ≤ s.bits := by omega
    have b1 : (s.bits : Int) < 8 := by omega
    have H := Lib.hid hx
    have HOK := Lib.hid hok
    have HG := Lib.hid hg
    clear hx hok hev hg
    have hmf := mkf
    by_cases h8 : s.bits + 1 < 8
    · have b2 : (s.bits : Int) + 1 < 8 := by omega
      have E : s.tells 4 = EpS.tell { s with bits := s.bits + 1 } := by simp [EpS.tells, h8]
      rw [E] at HOK ⊢
      clear E
      go_enter Tryd.func84, Tryd.ntmps84
      go_wp2_with fail
      refine (tell_any _ b F { s with bits := s.bits + 1 } ?hc h8).mono ?_
      case hc => exact H.out.mid _ (HOK.out.pull s.pulls) ((Kept.refl w [b]).setCell (by simp) _) ((H.out.blk.set 7 _).to (by simp [EpS.cells])) rfl rfl rfl rfl rfl (Nat.le_refl _) rfl rfl
      rintro _ w1 ⟨_, rfl, ⟨rfl, h1⟩, k1⟩
      have H1 := Lib.hid h1
      have K1 := Lib.hid k1
      clear h1 k1
      go_wp2_with fail
      go_end0
      exact post_id H1.out ((H.out.one ((Kept.refl w [b]).setCell (by simp) _)).trans K1.out (fun g hg => .inl hg))
    · have b2 : ¬ (s.bits : Int) + 1 < 8 := by omega
      have E : s.tells 4 = { s with bits := s.bits + 1, pulls := false, ev := .asks } := by simp [EpS.tells, h8]
      rw [E] at HOK ⊢
      clear E
      go_enter Tryd.func84, Tryd.ntmps84
      go_wp2_with fail
      go_end0
      exact H.out.fin _ _ HOK.out ((((Kept.refl w [b]).setCell (by simp) _).setCell (by simp) _).setCell (by simp) _) ((((H.out.blk.set 7 _).set 3 _).set 4 _).to (by simp [EpS.cells, evV])) rfl rfl rfl rfl rfl (Nat.le_refl _) rfl rfl
  · have E : s.tells e = s := by simp [EpS.tells, he]
    rw [E]
    have e1 : (e == 4) = false := by rw [beq_eq_false_iff_ne]; exact he
    have e2 : (e != 4) = true := by rw [bne_iff_ne]; exact he
    have H := Lib.hid h
    clear h he hok E hev
    go_enter Tryd.func84, Tryd.ntmps84
    go_wp2_with fail
    go_end0
    exact post_id H.out (Kept.refl _ _)
set_option maxHeartbeats 1000000 in
theorem asks_any (w : World) (b : Nat) (F : List Nat) (s : EpS) (e : Int) (l : Bool) (h : ChipAt w b F s) :
    Calls Tryd.prog 100 #[.pointer (some ⟨b, 0, none⟩), .int .i64 e, .bool l] w (Post w F fun r W => r = .tuple #[] ∧ ChipAt W b F (s.asks e l)) := by
  have H := Lib.hid h
  clear h
  by_cases he : e = 3
  · subst he
    cases l with
    | true =>
      have E : s.asks 3 true = s.rest := by simp [EpS.asks]
      rw [E]
      go_enter Tryd.func100, Tryd.ntmps100
      go_wp2_with fail
      refine (rest_any _ b F s H.out).mono ?_
      rintro _ w1 ⟨_, rfl, ⟨rfl, h1⟩, k1⟩
      have H1 := Lib.hid h1
      have K1 := Lib.hid k1
      clear h1 k1
      go_wp2_with fail
      go_end0
      exact post_id H1.out K1.out
    | false =>
      have E : s.asks 3 false = s := by simp [EpS.asks]
      rw [E]
      go_enter Tryd.func100, Tryd.ntmps100
      go_wp2_with fail
      go_end0
      exact post_id H.out (Kept.refl _ _)
  · have e1 : (e == 3) = false := by rw [beq_eq_false_iff_ne]; exact he
    by_cases h4 : e = 4
    · subst h4
      have E : s.asks 4 l = s.send := by simp [EpS.asks]
      rw [E]
      clear e1 he
      go_enter Tryd.func100, Tryd.ntmps100
      go_wp2_with fail
      refine (send_any _ b F s H.out).mono ?_
      rintro _ w1 ⟨_, rfl, ⟨rfl, h1⟩, k1⟩
      have H1 := Lib.hid h1
      have K1 := Lib.hid k1
      clear h1 k1
      go_wp2_with fail
      go_end0
      exact post_id H1.out K1.out
    · have E : s.asks e l = s := by simp [EpS.asks, he, h4]
      rw [E]
      have e2 : (e == 4) = false := by rw [beq_eq_false_iff_ne]; exact h4
      clear he h4 E
      go_enter Tryd.func100, Tryd.ntmps100
      go_wp2_with fail
      go_end0
      exact post_id H.out (Kept.refl _ _)
theorem device1_any (w : World) (b x : Nat) (F : List Nat) (s : EpS) (h : ChipAt w b F s) (hb : Box w F b x) :
    Calls Tryd.prog 74 #[.pointer (some ⟨x, 0, none⟩)] w (Post w F fun r W => r = .tuple #[] ∧ ChipAt W b F (s.listen .higher)) := by
  have H := Lib.hid h
  have cx := hb.1.cell 0 rfl
  clear h hb
  have hmf := mkf
  go_enter Tryd.func74, Tryd.ntmps74
  go_wp2_with fail
  refine (listen_any _ b F s .higher (fun e => by cases e) H.out).mono ?_
  rintro _ w1 ⟨_, rfl, ⟨rfl, h1⟩, k1⟩
  have H1 := Lib.hid h1
  have K1 := Lib.hid k1
  clear h1 k1
  go_wp2_with fail
  go_end0
  exact post_id H1.out K1.out
theorem device2_any (w : World) (b x : Nat) (F : List Nat) (s : EpS) (h : ChipAt w b F s) (hb : Box w F b x) :
    Calls Tryd.prog 76 #[.pointer (some ⟨x, 0, none⟩)] w (Post w F fun r W => r = .tuple #[] ∧ ChipAt W b F (s.listen .lower)) := by
  have H := Lib.hid h
  have cx := hb.1.cell 0 rfl
  clear h hb
  have hmf := mkf
  go_enter Tryd.func76, Tryd.ntmps76
  go_wp2_with fail
  refine (listen_any _ b F s .lower (fun e => by cases e) H.out).mono ?_
  rintro _ w1 ⟨_, rfl, ⟨rfl, h1⟩, k1⟩
  have H1 := Lib.hid h1
  have K1 := Lib.hid k1
  clear h1 k1
  go_wp2_with fail
  go_end0
  exact post_id H1.out K1.out
theorem higher1_any (w : World) (b x : Nat) (F : List Nat) (s : EpS) (h : ChipAt w b F s) (hb : Box w F b x) :
    Calls Tryd.prog 86 #[.pointer (some ⟨x, 0, none⟩)] w (Post w F fun r W => r = .tuple #[] ∧ ChipAt W b F (s.listen .lower)) := by
  have H := Lib.hid h
  have cx := hb.1.cell 0 rfl
  clear h hb
  have hmf := mkf
  go_enter Tryd.func86, Tryd.ntmps86
  go_wp2_with fail
  refine (listen_any _ b F s .lower (fun e => by cases e) H.out).mono ?_
  rintro _ w1 ⟨_, rfl, ⟨rfl, h1⟩, k1⟩
  have H1 := Lib.hid h1
  have K1 := Lib.hid k1
  clear h1 k1
  go_wp2_with fail
  go_end0
  exact post_id H1.out K1.out
theorem lower1_any (w : World) (b x : Nat) (F : List Nat) (s : EpS) (h : ChipAt w b F s) (hb : Box w F b x) (hn : s.nx = some .store) :
    Calls Tryd.prog 87 #[.pointer (some ⟨x, 0, none⟩)] w (Post w F fun r W => r = .tuple #[] ∧ ChipAt W b F (s.listen .store)) := by
  have H := Lib.hid h
  have cx := hb.1.cell 0 rfl
  have HN := Lib.hid hn
  clear hn
  clear h hb
  have hmf := mkf
  go_enter Tryd.func87, Tryd.ntmps87
  go_wp2_with fail
  refine (listen_any _ b F s .store (fun _ => HN.out) H.out).mono ?_
  rintro _ w1 ⟨_, rfl, ⟨rfl, h1⟩, k1⟩
  have H1 := Lib.hid h1
  have K1 := Lib.hid k1
  clear h1 k1
  go_wp2_with fail
  go_end0
  exact post_id H1.out K1.out
set_option maxHeartbeats 2000000 in
theorem thanks_any (w : World) (b : Nat) (F : List Nat) (s : EpS) (e : Int) (l : Bool) (h : ChipAt w b F s) (hn : s.nx ≠ none) :
    Calls Tryd.prog 83 #[.pointer (some ⟨b, 0, none⟩), .int .i64 e, .bool l] w (Post w F fun r W => r = .tuple #[] ∧ ChipAt W b F (s.thanks e)) := by
  by_cases he : e = 4
  · subst he
    obtain ⟨bw, vd, vn, vc, vw, hx⟩ := h
    have c6 := hx.blk.cell 6 rfl
    have hnx := hx.nxt
    have H := Lib.hid hx
    clear hx
    have E : ∀ n, s.nx = some n → s.thanks 4 = s.next n := fun n hn => by simp [EpS.thanks, hn]
    match hq : s.nx with
    | none => exact absurd hq hn
    | some .send =>
      rw [E _ hq]
      unfold EpS.next
      have HQ := Lib.hid hq
      rw [hq] at hnx
      clear E hn hq
      have hnx : vn = _ := hnx
      subst hnx
      go_enter Tryd.func83, Tryd.ntmps83
      go_wp2_with fail
      refine (send_any _ b F s H.out.at).mono ?_
      rintro _ w1 ⟨_, rfl, ⟨rfl, h1⟩, k1⟩
      have H1 := Lib.hid h1
      have K1 := Lib.hid k1
      clear h1 k1
      go_wp2_with fail
      go_end0
      exact post_id H1.out K1.out
    | some .higher =>
      rw [E _ hq]
      unfold EpS.next
      have HQ := Lib.hid hq
      rw [hq] at hnx
      clear E hn hq
      obtain ⟨x, rfl, hb⟩ := hnx
      have HB := Lib.hid hb
      clear hb
      go_enter Tryd.func83, Tryd.ntmps83
      go_wp2_with fail
      refine (device1_any _ b x F s H.out.at HB.out).mono ?_
      rintro _ w1 ⟨_, rfl, ⟨rfl, h1⟩, k1⟩
      have H1 := Lib.hid h1
      have K1 := Lib.hid k1
      clear h1 k1
      go_wp2_with fail
      go_end0
      exact post_id H1.out K1.out
    | some .lower =>
      rw [E _ hq]
      unfold EpS.next
      have HQ := Lib.hid hq
      rw [hq] at hnx
      clear E hn hq
      obtain ⟨x, hv, hb⟩ := hnx
      have HB := Lib.hid hb
      clear hb
      rcases hv with rfl | rfl
      · go_enter Tryd.func83, Tryd.ntmps83
        go_wp2_with fail
        refine (device2_any _ b x F s H.out.at HB.out).mono ?_
        rintro _ w1 ⟨_, rfl, ⟨rfl, h1⟩, k1⟩
        have H1 := Lib.hid h1
        have K1 := Lib.hid k1
        clear h1 k1
        go_wp2_with fail
        go_end0
        exact post_id H1.out K1.out
      · go_enter Tryd.func83, Tryd.ntmps83
        go_wp2_with fail
        refine (higher1_any _ b x F s H.out.at HB.out).mono ?_
        rintro _ w1 ⟨_, rfl, ⟨rfl, h1⟩, k1⟩
        have H1 := Lib.hid h1
        have K1 := Lib.hid k1
        clear h1 k1
        go_wp2_with fail
        go_end0
        exact post_id H1.out K1.out
    | some .store =>
      rw [E _ hq]
      unfold EpS.next
      have HQ := Lib.hid hq
      rw [hq] at hnx
      clear E hn hq
      obtain ⟨x, rfl, hb⟩ := hnx
      have HB := Lib.hid hb
      clear hb
      go_enter Tryd.func83, Tryd.ntmps83
      go_wp2_with fail
      refine (lower1_any _ b x F s H.out.at HB.out HQ.out).mono ?_
      rintro _ w1 ⟨_, rfl, ⟨rfl, h1⟩, k1⟩
      have H1 := Lib.hid h1
      have K1 := Lib.hid k1
      clear h1 k1
      go_wp2_with fail
      go_end0
      exact post_id H1.out K1.out
  · have E : s.thanks e = s := by simp [EpS.thanks, he]
    rw [E]
    have e1 : (e == 4) = false := by rw [beq_eq_false_iff_ne]; exact he
    have H := Lib.hid h
    clear h he E hn
    go_enter Tryd.func83, Tryd.ntmps83
    go_wp2_with fail
    go_end0
    exact post_id H.out (Kept.refl _ _)
end Go.Proofs.YtdpiaibjpaalhaaDoor
