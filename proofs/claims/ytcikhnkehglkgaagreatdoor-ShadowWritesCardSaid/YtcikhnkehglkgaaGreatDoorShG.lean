/- PROVED: the contracts of shadow.can and shadow.best. No conditions beyond those that each theorem states. -/
import Derived.Test.YtcikhnkehglkgaaGreatDoorShB
import Derived.Test.YtcikhnkehglkgaaGreatDoorShP
namespace Go.Proofs.YtcikhnkehglkgaaGreatDoor
open Go.RowKit Go.Proofs.YtcikhnkehglkgaaGreatDoorLib Go.Shelf
set_option linter.unusedSimpArgs false
set_option linter.unusedVariables false

set_option maxRecDepth 100000 in
set_option maxHeartbeats 1000000 in
theorem can_any {A : Nat → Prop} {W : World} {b : Nat} {s : DiskS} (h : St A W b s) (hg : GeoLaid W) (e f g : Int) :
    Calls Tryz.prog 53 #[pt b, .agg #[.int .i64 e, .int .i64 f, .int .i64 g]] W (fun ee V => ee = .returned (.int .i64 (canM s e f g)) ∧ Kept W V []) := by
  obtain ⟨⟨F, hd, _⟩, _⟩ := h
  have hok := hd.ok
  obtain ⟨n, hn⟩ : ∃ n, W.heap.size = n := ⟨_, rfl⟩
  obtain ⟨W1, hW1⟩ : ∃ W1, W1 = W.alloc (.cells #[.int .i64 e, .int .i64 f, .int .i64 g] 23) := ⟨_, rfl⟩
  have hb : Blk W1 n 23 [.int .i64 e, .int .i64 f, .int .i64 g] := by rw [hW1, ← hn]; exact Blk.new _ _ _
  have hk : Kept W W1 [] := by rw [hW1]; exact (Kept.refl W []).alloc _
  have HD := Lib.hid (hd.kept hk (by simp))
  have HG := Lib.hid (hg.kept hk (by simp))
  have HR := Lib.hid (fun V (_ : Kept W1 V []) => right_any V e f g)
  have HSZ := Lib.hid (fun V (k : Kept W1 V []) => size_any V b F s (HD.out.kept k (by simp)))
  have HSE := Lib.hid (fun V (k : Kept W1 V []) => sectors_any V b F s (HD.out.kept k (by simp)))
  have HRM := Lib.hid (fun V (k : Kept W1 V []) => room_any V (HG.out.kept k (by simp)) s.size e f g)
  have HB := Lib.hid hb
  have HK := Lib.hid hk
  have HC : Hid (canM s e f g = (if gRight e f g = false then 9 else if s.size < 32 then 1 else if s.last.length < 2 * spanN s.size e f g then 4 else 0)) := Lib.hid rfl
  have hn1 := hok.n1
  have hs2 := hok.s2
  have hsp := spanN_le s.size e f g
  generalize canM s e f g = CM at *
  clear hd hg hok hb hk
  go_enter Tryz.func53, Tryz.ntmps53
  go_upto_region 1 with fail
  simp only [hn, ← hW1]
  clear hn hW1
  have q0 := HB.out.cell 0 rfl
  have q1 := HB.out.cell 1 rfl
  have q2 := HB.out.cell 2 rfl
  have kk0 := Kept.refl W1 []
  go_wp2_with fail
  refine callK HR.out kk0 ?_
  rintro _ w1 rfl k1
  clear kk0
  have HK1 := Lib.hid k1
  have HRI : Hid (gRight e f g = gRight e f g ∧ True) := Lib.hid ⟨rfl, trivial⟩
  have HHC := Lib.hid (And.intro HC.out trivial)
  cases hr : gRight e f g
  · have HE : Hid (CM = 9) := Lib.hid (by rw [HC.out, if_pos hr])
    clear q0 q1 q2 k1 hr hn1 hs2 hsp
    go_wp2_with fail
    go_ret
    rw [HE.out]
    exact ⟨rfl, HK.out.trans HK1.out (by simp)⟩
  have HRT := Lib.hid hr
  clear hr
  go_wp2_with fail
  refine callK HSZ.out k1 ?_
  rintro _ w2 rfl k2
  have HK2 := Lib.hid k2
  clear k1 q0 q1 q2
  by_cases a3 : s.size < 32
  · have a3i : (s.size : Int) < 32 := by omega
    have HE : Hid (CM = 1) := Lib.hid (by rw [HC.out, if_neg (by rw [HRT.out]; simp), if_pos a3])
    clear k2 hn1 hs2 hsp a3
    go_wp2_with fail
    go_ret
    rw [HE.out]
    exact ⟨rfl, HK.out.trans HK2.out (by simp)⟩
  have a3i : ¬ ((s.size : Int) < 32) := by omega
  have hb2 := HB.out.kept k2.drew (by simp)
  have x0 := hb2.cell 0 rfl
  have x1 := hb2.cell 1 rfl
  have x2 := hb2.cell 2 rfl
  have k2d : Kept W1 w2.drew [] := k2.drew
  obtain ⟨sp, hspe⟩ : ∃ sp, spanN s.size e f g = sp := ⟨_, rfl⟩
  have HSP := Lib.hid (And.intro hspe trivial)
  have HA3 := Lib.hid (And.intro a3 trivial)
  rw [hspe] at HRM hsp
  have hsn : (s.last.length : Int) ≤ 4096 := by omega
  have hsn0 : (0 : Int) ≤ s.last.length := by omega
  obtain ⟨P, hP⟩ : ∃ P, 2 * sp = P := ⟨_, rfl⟩
  have HPP := Lib.hid (And.intro hP trivial)
  rw [hP] at HRM
  clear hspe hb2 k2 hP a3 hs2
  by_cases a4 : s.last.length < P
  all_goals (
    have a4i : ((s.last.length : Int) < P) = (s.last.length < P) := by simp
    have HA4 := Lib.hid a4
    go_wp2_with fail
    go_region_held3 (fun W => W.cell? ⟨n, 0, none⟩ = some (.int .i64 e) ∧ W.cell? ⟨n, 1, none⟩ = some (.int .i64 f) ∧ W.cell? ⟨n, 2, none⟩ = some (.int .i64 g)) (first | (with_reducible exact ⟨x0, x1, x2⟩) | (with_reducible exact ⟨y0, y1, y2⟩) | go_keep) (first
      | (go_at_call 83
         refine callK HSE.out (by with_reducible assumption) ?_
         rintro _ wn rfl kn
         have y0 := HB.out.kept kn (by simp) |>.cell 0 rfl
         have y1 := HB.out.kept kn (by simp) |>.cell 1 rfl
         have y2 := HB.out.kept kn (by simp) |>.cell 2 rfl)
      | (go_at_call 82
         refine callK HSZ.out (by with_reducible assumption) ?_
         rintro _ wn rfl kn
         have y0 := HB.out.kept kn (by simp) |>.cell 0 rfl
         have y1 := HB.out.kept kn (by simp) |>.cell 1 rfl
         have y2 := HB.out.kept kn (by simp) |>.cell 2 rfl)
      | (go_at_call 84
         refine callK HRM.out (by with_reducible assumption) ?_
         rintro _ wn rfl kn
         have y0 := HB.out.kept kn (by simp) |>.cell 0 rfl
         have y1 := HB.out.kept kn (by simp) |>.cell 1 rfl
         have y2 := HB.out.kept kn (by simp) |>.cell 2 rfl))
    all_goals (
      have HKN := Lib.hid kn
      go_wp2_with fail
      go_ret
      refine ⟨?_, HK.out.trans HKN.out (by simp)⟩
      have ha := HA4.out
      first
        | (rw [HC.out, if_neg (by rw [HRT.out]; simp), if_neg HA3.out.1, HSP.out.1, HPP.out.1, if_pos ha]; rfl)
        | (rw [HC.out, if_neg (by rw [HRT.out]; simp), if_neg HA3.out.1, HSP.out.1, HPP.out.1, if_neg ha]; rfl)))
set_option maxRecDepth 100000 in
set_option maxHeartbeats 1000000 in
theorem best_any (w : World) (sa ya qa sb yb qb : Int) (Aa Ab : Option Addr) (na ca nb cb : Nat) :
    Calls Tryz.prog 55 #[.agg #[.int .i64 sa, .int .i64 ya, .int .u64 qa, .slice Aa na ca], .agg #[.int .i64 sb, .int .i64 yb, .int .u64 qb, .slice Ab nb cb]] w (fun ee W =>
      ee = .returned (if sb = 2 ∧ (sa ≠ 2 ∨ qa < qb) then .tuple #[.agg #[.int .i64 sb, .int .i64 yb, .int .u64 qb, .slice Ab nb cb], .int .i64 1] else if sa = 2 ∨ sa = 1 then .tuple #[.agg #[.int .i64 sa, .int .i64 ya, .int .u64 qa, .slice Aa na ca], .int .i64 0] else .tuple #[.agg #[.int .i64 sb, .int .i64 yb, .int .u64 qb, .slice Ab nb cb], .int .i64 1]) ∧ Kept w W []) := by
  obtain ⟨n, hn⟩ : ∃ n, w.heap.size = n := ⟨_, rfl⟩
  obtain ⟨w1, hw1⟩ : ∃ w1, w1 = w.alloc (.cells #[.int .i64 sa, .int .i64 ya, .int .u64 qa, .slice Aa na ca] 89) := ⟨_, rfl⟩
  have b1 : Blk w1 n 89 [.int .i64 sa, .int .i64 ya, .int .u64 qa, .slice Aa na ca] := by rw [hw1, ← hn]; exact Blk.new _ _ _
  have k1 : Kept w w1 [] := by rw [hw1]; exact (Kept.refl w []).alloc _
  have s1 : w1.heap.size = n + 1 := by rw [hw1, World.size_alloc, hn]
  obtain ⟨w2, hw2⟩ : ∃ w2, w2 = w1.alloc (.cells #[.int .i64 sb, .int .i64 yb, .int .u64 qb, .slice Ab nb cb] 89) := ⟨_, rfl⟩
  have b2 : Blk w2 (n + 1) 89 [.int .i64 sb, .int .i64 yb, .int .u64 qb, .slice Ab nb cb] := by rw [hw2, ← s1]; exact Blk.new _ _ _
  have k2 : Kept w1 w2 [] := by rw [hw2]; exact (Kept.refl w1 []).alloc _
  have s2 : w2.heap.size = n + 2 := by rw [hw2, World.size_alloc, s1]
  obtain ⟨w3, hw3⟩ : ∃ w3, w3 = w2.alloc (.cells #[.int .i64 0, .int .i64 0, .int .u64 0, .slice none 0 0] 89) := ⟨_, rfl⟩
  have b3 : Blk w3 (n + 2) 89 [.int .i64 0, .int .i64 0, .int .u64 0, .slice none 0 0] := by rw [hw3, ← s2]; exact Blk.new _ _ _
  have k3 : Kept w2 w3 [] := by rw [hw3]; exact (Kept.refl w2 []).alloc _
  have ba := (b1.kept k2 (by simp)).kept k3 (by simp)
  have bb := b2.kept k3 (by simp)
  have HK := Lib.hid ((k1.trans k2 (by simp)).trans k3 (by simp))
  have HZ := Lib.hid b3
  have HN := Lib.hid (show w.heap.size ≤ n + 2 by omega)
  have u0 := ba.cell 0 rfl
  have u1 := ba.cell 1 rfl
  have u2 := ba.cell 2 rfl
  have u3 := ba.cell 3 rfl
  have y0 := bb.cell 0 rfl
  have y1 := bb.cell 1 rfl
  have y2 := bb.cell 2 rfl
  have y3 := bb.cell 3 rfl
  have z0 := b3.cell 0 rfl
  have z1 := b3.cell 1 rfl
  have z2 := b3.cell 2 rfl
  have z3 := b3.cell 3 rfl
  have fz0 := b3.free 0
  have fz1 := b3.free 1
  have fz2 := b3.free 2
  have fz3 := b3.free 3
  have HCA : ∀ v, v = (if sb = 2 ∧ (sa ≠ 2 ∨ qa < qb) then Value.tuple #[.agg #[.int .i64 sb, .int .i64 yb, .int .u64 qb, .slice Ab nb cb], .int .i64 1] else if sa = 2 ∨ sa = 1 then .tuple #[.agg #[.int .i64 sa, .int .i64 ya, .int .u64 qa, .slice Aa na ca], .int .i64 0] else .tuple #[.agg #[.int .i64 sb, .int .i64 yb, .int .u64 qb, .slice Ab nb cb], .int .i64 1]) → Hid (v = (if sb = 2 ∧ (sa ≠ 2 ∨ qa < qb) then Value.tuple #[.agg #[.int .i64 sb, .int .i64 yb, .int .u64 qb, .slice Ab nb cb], .int .i64 1] else if sa = 2 ∨ sa = 1 then .tuple #[.agg #[.int .i64 sa, .int .i64 ya, .int .u64 qa, .slice Aa na ca], .int .i64 0] else .tuple #[.agg #[.int .i64 sb, .int .i64 yb, .int .u64 qb, .slice Ab nb cb], .int .i64 1])) := fun v h => Lib.hid h
  generalize hRV : (if sb = 2 ∧ (sa ≠ 2 ∨ qa < qb) then Value.tuple #[.agg #[.int .i64 sb, .int .i64 yb, .int .u64 qb, .slice Ab nb cb], .int .i64 1] else if sa = 2 ∨ sa = 1 then .tuple #[.agg #[.int .i64 sa, .int .i64 ya, .int .u64 qa, .slice Aa na ca], .int .i64 0] else .tuple #[.agg #[.int .i64 sb, .int .i64 yb, .int .u64 qb, .slice Ab nb cb], .int .i64 1]) = RV at *
  have HRV := Lib.hid (And.intro hRV trivial)
  clear hRV HCA b1 b2 b3 k1 k2 k3 ba bb
  by_cases h1 : sb = 2
  · subst h1
    by_cases h2 : sa = 2
    · subst h2
      by_cases h3 : qa < qb
      · have t3 : decide (qa < qb) = true := by simpa using h3
        have HE : Hid (RV = .tuple #[.agg #[.int .i64 2, .int .i64 yb, .int .u64 qb, .slice Ab nb cb], .int .i64 1]) := Lib.hid (by rw [← HRV.out.1, if_pos ⟨rfl, .inr h3⟩])
        go_enter Tryz.func55, Tryz.ntmps55
        go_upto_region 1 with fail
        simp only [hn, ← hw1, s1, ← hw2, s2, ← hw3]
        clear hn hw1 s1 hw2 s2 hw3
        go_wp2_with fail
        refine bodyPost_ret (results_pair_row Tryz.results55 _ _ _ _ _ _ _ _ (by simp [go_sem]) (by simp [go_sem]; rfl) (blk4 HZ.out (.int .i64 2) (.int .i64 yb) (.int .u64 qb) (.slice Ab nb cb)) Tryz.underlying89 rfl rfl) rfl ?_
        exact ⟨by rw [HE.out], keptS HK.out (.inr HN.out) _ _ _ _⟩
      · have t3 : decide (qa < qb) = false := by simpa using h3
        have HE : Hid (RV = .tuple #[.agg #[.int .i64 2, .int .i64 ya, .int .u64 qa, .slice Aa na ca], .int .i64 0]) := Lib.hid (by rw [← HRV.out.1, if_neg (by rintro ⟨_, h | h⟩; exact h rfl; exact h3 h), if_pos (.inl rfl)])
        go_enter Tryz.func55, Tryz.ntmps55
        go_upto_region 1 with fail
        simp only [hn, ← hw1, s1, ← hw2, s2, ← hw3]
        clear hn hw1 s1 hw2 s2 hw3
        go_wp2_with fail
        refine bodyPost_ret (results_pair_row Tryz.results55 _ _ _ _ _ _ _ _ (by simp [go_sem]) (by simp [go_sem]; rfl) (blk4 HZ.out (.int .i64 2) (.int .i64 ya) (.int .u64 qa) (.slice Aa na ca)) Tryz.underlying89 rfl rfl) rfl ?_
        exact ⟨by rw [HE.out], keptS HK.out (.inr HN.out) _ _ _ _⟩
    · have t2 : (sa == 2) = false := by simpa using h2
      have HE : Hid (RV = .tuple #[.agg #[.int .i64 2, .int .i64 yb, .int .u64 qb, .slice Ab nb cb], .int .i64 1]) := Lib.hid (by rw [← HRV.out.1, if_pos ⟨rfl, .inl h2⟩])
      go_enter Tryz.func55, Tryz.ntmps55
      go_upto_region 1 with fail
      simp only [hn, ← hw1, s1, ← hw2, s2, ← hw3]
      clear hn hw1 s1 hw2 s2 hw3
      go_wp2_with fail
      refine bodyPost_ret (results_pair_row Tryz.results55 _ _ _ _ _ _ _ _ (by simp [go_sem]) (by simp [go_sem]; rfl) (blk4 HZ.out (.int .i64 2) (.int .i64 yb) (.int .u64 qb) (.slice Ab nb cb)) Tryz.underlying89 rfl rfl) rfl ?_
      exact ⟨by rw [HE.out], keptS HK.out (.inr HN.out) _ _ _ _⟩
  · have t1 : (sb == 2) = false := by simpa using h1
    by_cases h2 : sa = 2
    · subst h2
      have HE : Hid (RV = .tuple #[.agg #[.int .i64 2, .int .i64 ya, .int .u64 qa, .slice Aa na ca], .int .i64 0]) := Lib.hid (by rw [← HRV.out.1, if_neg (fun h => h1 h.1), if_pos (.inl rfl)])
      go_enter Tryz.func55, Tryz.ntmps55
      go_upto_region 1 with fail
      simp only [hn, ← hw1, s1, ← hw2, s2, ← hw3]
      clear hn hw1 s1 hw2 s2 hw3
      go_wp2_with fail
      refine bodyPost_ret (results_pair_row Tryz.results55 _ _ _ _ _ _ _ _ (by simp [go_sem]) (by simp [go_sem]; rfl) (blk4 HZ.out (.int .i64 2) (.int .i64 ya) (.int .u64 qa) (.slice Aa na ca)) Tryz.underlying89 rfl rfl) rfl ?_
      exact ⟨by rw [HE.out], keptS HK.out (.inr HN.out) _ _ _ _⟩
    · have t2 : (sa == 2) = false := by simpa using h2
      by_cases h3 : sa = 1
      · subst h3
        have HE : Hid (RV = .tuple #[.agg #[.int .i64 1, .int .i64 ya, .int .u64 qa, .slice Aa na ca], .int .i64 0]) := Lib.hid (by rw [← HRV.out.1, if_neg (fun h => h1 h.1), if_pos (.inr rfl)])
        go_enter Tryz.func55, Tryz.ntmps55
        go_upto_region 1 with fail
        simp only [hn, ← hw1, s1, ← hw2, s2, ← hw3]
        clear hn hw1 s1 hw2 s2 hw3
        go_wp2_with fail
        refine bodyPost_ret (results_pair_row Tryz.results55 _ _ _ _ _ _ _ _ (by simp [go_sem]) (by simp [go_sem]; rfl) (blk4 HZ.out (.int .i64 1) (.int .i64 ya) (.int .u64 qa) (.slice Aa na ca)) Tryz.underlying89 rfl rfl) rfl ?_
        exact ⟨by rw [HE.out], keptS HK.out (.inr HN.out) _ _ _ _⟩
      · have t3 : (sa == 1) = false := by simpa using h3
        have HE : Hid (RV = .tuple #[.agg #[.int .i64 sb, .int .i64 yb, .int .u64 qb, .slice Ab nb cb], .int .i64 1]) := Lib.hid (by rw [← HRV.out.1, if_neg (fun h => h1 h.1), if_neg (by rintro (h | h); exact h2 h; exact h3 h)])
        go_enter Tryz.func55, Tryz.ntmps55
        go_upto_region 1 with fail
        simp only [hn, ← hw1, s1, ← hw2, s2, ← hw3]
        clear hn hw1 s1 hw2 s2 hw3
        go_wp2_with fail
        refine bodyPost_ret (results_pair_row Tryz.results55 _ _ _ _ _ _ _ _ (by simp [go_sem]) (by simp [go_sem]; rfl) (blk4 HZ.out (.int .i64 sb) (.int .i64 yb) (.int .u64 qb) (.slice Ab nb cb)) Tryz.underlying89 rfl rfl) rfl ?_
        exact ⟨by rw [HE.out], keptS HK.out (.inr HN.out) _ _ _ _⟩
end Go.Proofs.YtcikhnkehglkgaaGreatDoor
