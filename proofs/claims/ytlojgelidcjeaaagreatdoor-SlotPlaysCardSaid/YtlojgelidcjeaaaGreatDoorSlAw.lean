/- PROVED: the contract of keepsakelaw06.awake. No conditions beyond those that each theorem states. -/
import Derived.Test.YtlojgelidcjeaaaGreatDoorSlQ
namespace Go.Proofs.YtlojgelidcjeaaaGreatDoor
open Go.RowKit Go.Proofs.YtlojgelidcjeaaaGreatDoorLib Go.WideElems Go.Maps
set_option linter.unusedSimpArgs false
set_option linter.unusedVariables false

def aw0 : DiskS := DiskS.new 6 32
def awl : List Int := List.replicate 64 0
def aw1 : DiskS × Int := writesM aw0 (Int.toNat 1 * spanN aw0.size 0 0 1 + 1) (imgL awl aw0.size)
def aw2 : DiskS × Int := aw1.1.write ((Int.toNat 1 * spanN aw1.1.size 0 0 1 : Nat) : Int) (padL (encL 0 0 1 awl.length 9 (sumM awl)) aw1.1.size)
theorem aw0_why : atWhy aw0 1 0 0 1 = 0 := by decide
theorem aw_law : aw1.2 = 0 ∧ aw2.2 = 0 ∧ atWhy aw1.1 1 0 0 1 = 0 ∧ atWhy aw2.1 1 0 0 1 = 0 ∧ Wrote aw0 aw2.1 3 ∧ ∃ s, readM aw2.1 1 0 0 1 = (s, ⟨2, 0, 9, awl⟩, 0) ∧ aw1.1.ops = 2 := by
  have hn : aw0.NoFail := fun _ => rfl
  have h1 := laid_law (s := aw0) hn (by decide) (by decide) aw0_why (l := awl) (by decide) (Bts.replicate0 64)
  have w1 := atWhy_wrote h1.2.1 1 0 0 1
  have f1 := slotAt_wrote h1.2.1 1 0 0 1
  change aw1.2 = 0 ∧ Wrote aw0 aw1.1 _ ∧ ∀ j, aw1.1.get j = _ at h1
  change atWhy aw1.1 1 0 0 1 = _ at w1
  change slotAt aw1.1 1 0 0 1 = _ at f1
  have hsz1 : aw1.1.size = 32 := h1.2.1.size
  have hll1 : aw1.1.last.length = 6 := by rw [h1.2.1.last]; decide
  have e3 : slotAt aw0 1 0 0 1 = 3 := by decide
  have e4 : spanN aw0.size 0 0 1 = 3 := by decide
  have hpl : (padL (encL 0 0 1 awl.length 9 (sumM awl)) aw1.1.size).length = aw1.1.size := padL_len _ _ (by rw [encL_len, hsz1]; decide)
  have h2 := put_law (h1.2.1.nofail hn) (by rw [h1.2.1.cach, h1.2.1.last]; decide) (i := slotAt aw1.1 1 0 0 1) (by rw [f1, e3, hll1]; decide) hpl
  change aw2.2 = 0 ∧ Wrote aw1.1 aw2.1 1 ∧ ∀ j, aw2.1.get j = _ at h2
  have hw12 := h1.2.1.trans h2.2.1
  have e5 : secs awl.length aw0.size + 1 = 3 := by decide
  rw [e5] at hw12
  have w2 := atWhy_wrote hw12 1 0 0 1
  have hsz2 : aw2.1.size = 32 := hw12.size
  have f2 := slotAt_wrote hw12 1 0 0 1
  have hg := read_good (hw12.nofail hn) (by rw [hsz2]; decide) (w2.trans aw0_why) (l := awl) (by decide) (seq := 9) (by decide) (by decide)
    (by
      show aw2.1.get (slotAt aw2.1 1 0 0 1) = _
      rw [f2, h2.2.2, f1, if_pos rfl, hsz1, hsz2])
    (fun i hi => by
      show aw2.1.get (slotAt aw2.1 1 0 0 1 + 1 + i) = _
      rw [hsz2] at hi
      have e6 : secs awl.length 32 = 2 := by decide
      rw [e6] at hi
      rw [f2, h2.2.2, f1, e3, if_neg (by omega), h1.2.2, e3, e4, if_pos (by omega), Nat.add_sub_cancel_left, hsz2]
      rfl)
  exact ⟨h1.1, h2.1, w1.trans aw0_why, w2.trans aw0_why, hw12, _, hg, by rw [h1.2.1.ops]; decide⟩
set_option maxRecDepth 100000 in
set_option maxHeartbeats 4000000 in
theorem awake_any (w : World) (hg : GeoLaid w) : Calls Tryz.prog 4 #[] w (Post w [] fun v W => v = .bool true) := by
  obtain ⟨i0, hi8, hz0, hz1, hz2⟩ := info_parts info8
  have MK := Lib.hid (fun W => make_own (P := Tryz.prog) (k := .u8) Tryz.underlying35 hi8 hz0 hz1 (by omega) 64 (by omega) W)
  obtain ⟨hl1, hl2, hw1, hw2, hwr, sR, hrd, hops⟩ := aw_law
  have HL := Lib.hid (And.intro hw1 (And.intro hw2 (And.intro hwr (And.intro hops trivial))))
  have HRD := Lib.hid (And.intro hrd trivial)
  have hb1 := Blk.new w 23 [.int .i64 0, .int .i64 0, .int .i64 1]
  have k1 : Kept w (w.alloc (.cells #[.int .i64 0, .int .i64 0, .int .i64 1] 23)) [] := (Kept.refl w []).alloc _
  have HG := Lib.hid hg
  have HB1 := Lib.hid hb1
  have K1 := Lib.hid k1
  have HN := Lib.hid (new_yes (w.alloc (.cells #[.int .i64 0, .int .i64 0, .int .i64 1] 23)) 6 32 ⟨by decide, by decide, by decide, by decide⟩)
  have HA := Lib.hid (And.intro hl1 hl2)
  clear hi8 hz0 hz1 hz2 hw1 hw2 hwr hops hrd hb1 k1 hg hl1 hl2
  go_enter Tryz.func4, Tryz.ntmps4
  go_wp2_with fail
  refine HN.out.mono ?_
  rintro _ w1 ⟨_, rfl, ⟨b, F, rfl, hd, hF⟩, k2⟩
  have HD := Lib.hid (show DiskAt w1 b F aw0 from hd)
  have HF := Lib.hid (fun x hx => Nat.le_trans K1.out.size (hF x hx))
  have HFB : Hid (∀ x, x ∈ F → w.heap.size + 1 ≤ x) := Lib.hid (fun x hx => by have := hF x hx; simp at this; exact this)
  have K2 := Lib.hid (K1.out.trans k2 (by simp))
  have hbx := HB1.out.kept k2 (by simp)
  have x0 : w1.drew.cell? ⟨w.heap.size, 0, none⟩ = some (.int .i64 0) := hbx.cell 0 rfl
  have x1 : w1.drew.cell? ⟨w.heap.size, 1, none⟩ = some (.int .i64 0) := hbx.cell 1 rfl
  have x2 : w1.drew.cell? ⟨w.heap.size, 2, none⟩ = some (.int .i64 1) := hbx.cell 2 rfl
  obtain ⟨w2, hmk0, hrow, km⟩ := MK.out w1.drew
  have hmk : (Instr.makeSlice 35 (.int .i64 64) (.int .i64 64)).run Tryz.prog w1.drew = .ok (.slice (some ⟨w1.drew.heap.size, 0, none⟩) 64 64) w2 := hmk0
  have y0 := km.cell x0 (by simp)
  have y1 := km.cell x1 (by simp)
  have y2 := km.cell x2 (by simp)
  have HB2 := Lib.hid (hbx.drew.kept km (by simp))
  have K3 := Lib.hid (K2.out.drew.trans km (by simp))
  obtain ⟨bq, hsl, hbq⟩ := hrow.sl
  have HDA := Lib.hid ((data_yes w2 (HG.out.kept K3.out (by simp)) b F aw0 (HD.out.kept ((Kept.refl w1 []).drew.trans km (by simp)) (by simp)) (by decide) 1 0 0 1 _ bq 0 awl hsl (Bts.replicate0 64) aw0_why (by decide)).mono
    (R' := Post w2 F fun r W => r = .int .i64 0 ∧ DiskOn W w2.heap.size b F aw1.1) (fun e W ⟨v, h1, ⟨h2, h3⟩, h4⟩ => ⟨v, h1, ⟨h2.trans (congrArg (Value.int .i64) HA.out.1), h3⟩, h4⟩))
  clear hd hF k2 hbx hrow km hsl hbq HN HD hmk0
  go_wp2_with fail
  go_region_held3 (fun W => W.cell? ⟨w.heap.size, 0, none⟩ = some (.int .i64 0) ∧ W.cell? ⟨w.heap.size, 1, none⟩ = some (.int .i64 0) ∧ W.cell? ⟨w.heap.size, 2, none⟩ = some (.int .i64 1)) (first | (with_reducible exact ⟨x0, x1, x2⟩) | (with_reducible exact ⟨y0, y1, y2⟩) | (with_reducible exact ⟨z0, z1, z2⟩) | go_keep) (first
    | (go_at_call 9
       refine HDA.out.mono ?_
       rintro _ w3 ⟨_, rfl, ⟨rfl, hdo⟩, k4⟩
       have hbz := HB2.out.kept k4 (by intro hm; have h1 := HF.out _ hm; have h2 := HFB.out _ hm; omega)
       have z0 := hbz.cell 0 rfl
       have z1 := hbz.cell 1 rfl
       have z2 := hbz.cell 2 rfl))
  obtain ⟨F3, hF3, hd3⟩ := hdo
  have HD3 := Lib.hid hd3
  have HF3 : Hid (∀ x, x ∈ F3 → w.heap.size + 1 ≤ x) := Lib.hid (fun x hx => by rcases hF3 x hx with h | h; exact HFB.out x h; have h1 := K3.out.size; have h2 := HB2.out.lt; omega)
  have K4 : Hid (Kept w w3 []) := Lib.hid (K3.out.trans k4 (fun x hx => .inr (HF.out x hx)))
  have HB3 := Lib.hid hbz
  have X0 : w3.drew.cell? ⟨w.heap.size, 0, none⟩ = some (.int .i64 0) := z0
  have X1 : w3.drew.cell? ⟨w.heap.size, 1, none⟩ = some (.int .i64 0) := z1
  have X2 : w3.drew.cell? ⟨w.heap.size, 2, none⟩ = some (.int .i64 1) := z2
  clear hmk hbz hF3 hd3 k4 x0 x1 x2 y0 y1 y2 z0 z1 z2
  obtain ⟨w4, hmk0, hrow, km⟩ := MK.out w3.drew
  have hmk : (Instr.makeSlice 35 (.int .i64 64) (.int .i64 64)).run Tryz.prog w3.drew = .ok (.slice (some ⟨w3.drew.heap.size, 0, none⟩) 64 64) w4 := hmk0
  have Y0 := km.cell X0 (by simp)
  have Y1 := km.cell X1 (by simp)
  have Y2 := km.cell X2 (by simp)
  have HB4 := Lib.hid (HB3.out.drew.kept km (by simp))
  have K5 := Lib.hid (K4.out.drew.trans km (by simp))
  obtain ⟨bq2, hsl, hbq⟩ := hrow.sl
  have HSE := Lib.hid ((seal_yes w4 (HG.out.kept K5.out (by simp)) b F3 aw1.1 (HD3.out.kept ((Kept.refl w3 []).drew.trans km (by simp)) (by simp)) (by rw [HL.out.2.2.2.1]; decide) 1 0 0 1 9 (by decide) (by decide) _ bq2 0 awl hsl (Bts.replicate0 64) HL.out.1 (by decide)).mono
    (R' := Post w4 F3 fun r W => r = .int .i64 0 ∧ DiskOn W w4.heap.size b F3 aw2.1) (fun e W ⟨v, h1, ⟨h2, h3⟩, h4⟩ => ⟨v, h1, ⟨h2.trans (congrArg (Value.int .i64) HA.out.2), h3⟩, h4⟩))
  clear hrow km hsl hbq hmk0
  go_wp2_with fail
  go_region_held3 (fun W => W.cell? ⟨w.heap.size, 0, none⟩ = some (.int .i64 0) ∧ W.cell? ⟨w.heap.size, 1, none⟩ = some (.int .i64 0) ∧ W.cell? ⟨w.heap.size, 2, none⟩ = some (.int .i64 1)) (first | (with_reducible exact ⟨X0, X1, X2⟩) | (with_reducible exact ⟨Y0, Y1, Y2⟩) | (with_reducible exact ⟨Z0, Z1, Z2⟩) | go_keep) (first
    | (go_at_call 11
       refine HSE.out.mono ?_
       rintro _ w5 ⟨_, rfl, ⟨rfl, hdo⟩, k4⟩
       have hbz := HB4.out.kept k4 (by intro hm; have h1 := HF3.out _ hm; omega)
       have Z0 := hbz.cell 0 rfl
       have Z1 := hbz.cell 1 rfl
       have Z2 := hbz.cell 2 rfl))
  obtain ⟨F5, hF5, hd5⟩ := hdo
  have HD5 := Lib.hid hd5
  have HF5 : Hid (∀ x, x ∈ F5 → w.heap.size + 1 ≤ x) := Lib.hid (fun x hx => by rcases hF5 x hx with h | h; exact HF3.out x h; have h1 := K5.out.size; have h2 := HB4.out.lt; omega)
  have K6 : Hid (Kept w w5 []) := Lib.hid (K5.out.trans k4 (fun x hx => .inr (by have := HF3.out x hx; omega)))
  have HB5 := Lib.hid hbz
  have HRE := Lib.hid ((read_yes w5 (HG.out.kept K6.out (by simp)) b F5 aw2.1 hd5 (fun x hx => by have h1 := HF5.out x hx; have h2 := HG.out.sz; omega) (by rw [HL.out.2.2.1.ops]; decide) 1 0 0 1 HL.out.2.1 (by rw [HL.out.2.2.1.size]; decide)).mono
    (R' := Post w5 [b] fun r W => ∃ v q, r = .tuple #[.agg #[.int .i64 2, .int .i64 0, .int .u64 9, v], .int .i64 0] ∧ Sl .u8 W v q 0 awl) (fun e W ⟨v, h1, ⟨v2, q, h2, h3, _, _⟩, h4⟩ => ⟨v, h1, ⟨v2, q, by rw [h2, HRD.out.1], by rw [HRD.out.1] at h3; exact h3⟩, h4⟩))
  have HBN : Hid (w.heap.size + 1 ≤ b) := Lib.hid (HF5.out b hd5.fb)
  clear hmk hbz hF5 hd5 k4 X0 X1 X2 Y0 Y1 Y2
  go_wp2_with fail
  refine HRE.out.mono ?_
  rintro _ w6 ⟨_, rfl, ⟨v, q, rfl, hsl⟩, k7⟩
  obtain ⟨Av, cv, ev⟩ := hsl.form
  generalize awl.length = nv at ev
  subst ev
  have hb7 := HB5.out.kept k7 (by have := HBN.out; simp; omega)
  have K7 : Hid (Kept w w6 []) := Lib.hid (K6.out.trans k7 (fun x hx => .inr (by simp at hx; subst hx; have := HBN.out; omega)))
  have hb7a := hb7.alloc (.cells #[.int .i64 2, .int .i64 0, .int .u64 9, .slice Av nv cv] 46)
  have c0 := hb7a.cell 0 rfl
  have c1 := hb7a.cell 1 rfl
  have c2 := hb7a.cell 2 rfl
  have K8 := Lib.hid (K7.out.alloc (.cells #[.int .i64 2, .int .i64 0, .int .u64 9, .slice Av nv cv] 46))
  have e3 : spanN 32 0 0 1 = 3 := by decide
  have HSP := Lib.hid (span_any _ (HG.out.kept K8.out (by simp)) 32 0 0 1)
  rw [e3] at HSP
  have HRM := Lib.hid (fun W (k : Kept w W []) => room_any W (HG.out.kept k (by simp)) 32 0 0 1)
  rw [e3] at HRM
  have HB7 := Lib.hid hb7a
  clear k7 hb7 hb7a e3 Z0 Z1 Z2 hsl HRE
  go_wp2_with fail
  refine HSP.out.mono ?_
  rintro _ w8 ⟨_, rfl, rfl, k9⟩
  have hb9 := HB7.out.kept k9 (by simp)
  have K9 := Lib.hid (K8.out.trans k9 (by simp))
  have g0 := hb9.cell 0 rfl
  have g1 := hb9.cell 1 rfl
  have g2 := hb9.cell 2 rfl
  have HRM2 := Lib.hid (HRM.out _ K9.out)
  clear k9 hb9 HSP
  go_wp2_with fail
  refine HRM2.out.mono ?_
  rintro _ w10 ⟨_, rfl, rfl, k11⟩
  have K11 := Lib.hid (K9.out.trans k11 (by simp))
  clear k11 HRM2
  go_wp2_with fail
  go_ret
  exact ⟨_, rfl, rfl, K11.out⟩
end Go.Proofs.YtlojgelidcjeaaaGreatDoor
