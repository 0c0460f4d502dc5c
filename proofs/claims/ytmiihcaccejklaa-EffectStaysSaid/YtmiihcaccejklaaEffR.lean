/- PROVED: the contract of effect.Reads, name by name. No conditions beyond those that each theorem states. -/
import Derived.Test.YtmiihcaccejklaaEffA
import Derived.Test.YtmiihcaccejklaaStrMap
namespace Go.Proofs.Ytmiihcaccejklaa
open Go.RowKit Go.Proofs.YtmiihcaccejklaaLib
set_option linter.unusedSimpArgs false
set_option linter.unusedVariables false
attribute [local go_sem] run_makeMapObj findS

theorem byte_bits (op : BinOp) (x y : Int) : Byte (bits op .u8 x y) := bits_byte op x y
theorem nzM_b {p v : Int} (h : Byte p) : Byte (nzM p v) := nzM_byte p v h.1 h.2
theorem setF_b {p f : Int} {b : Bool} (hf : IsFlag f) (h : Byte p) : Byte (setF p f b) := setF_byte f hf b p h.1 h.2
theorem mod_b (x : Int) : Byte (x % 256) := by unfold Byte; omega
theorem cmpM_b {r m p : Int} (h : Byte p) : Byte (cmpM r m p) := nzM_b (setF_b (by simp [IsFlag]) h)
theorem bitM_b {a m p : Int} (h : Byte p) : Byte (bitM a m p) := setF_b (by simp [IsFlag]) (setF_b (by simp [IsFlag]) (setF_b (by simp [IsFlag]) h))
theorem arrV_b {t v p : Int} (ht : Byte t) (hv : Byte v) (h : Byte p) : Byte (arrV t v p).1 ∧ Byte (arrV t v p).2 := by
  unfold arrV
  have h1 := nzM_b (v := v) h
  split
  · exact ⟨hv, setF_b (by simp [IsFlag]) (setF_b (by simp [IsFlag]) h1)⟩
  · split
    · exact ⟨mod_b _, setF_b (by simp [IsFlag]) (setF_b (by simp [IsFlag]) h1)⟩
    · refine ⟨?_, setF_b (by simp [IsFlag]) (setF_b (by simp [IsFlag]) h1)⟩
      unfold Byte at hv ⊢
      show 0 ≤ (if 5 < t % 16 + t % 2 then v - v % 16 + (v + 6) % 16 else v) ∧ (if 5 < t % 16 + t % 2 then v - v % 16 + (v + 6) % 16 else v) ≤ 255
      split <;> omega
theorem shift_b {m p : Int} (hm : Byte m) (h : Byte p) : (Byte (asl m p).1 ∧ Byte (asl m p).2) ∧ (Byte (lsr m p).1 ∧ Byte (lsr m p).2) ∧ (Byte (rol m p).1 ∧ Byte (rol m p).2) ∧ (Byte (ror m p).1 ∧ Byte (ror m p).2) := by
  have f : ∀ b, Byte (setF p 1 b) := fun b => setF_b (by simp [IsFlag]) h
  unfold Byte at hm
  refine ⟨⟨?_, nzM_b (f _)⟩, ⟨?_, nzM_b (f _)⟩, ⟨?_, nzM_b (f _)⟩, ⟨?_, nzM_b (f _)⟩⟩ <;> (unfold Byte; simp only [asl, lsr, rol, ror]; omega)
theorem arrM_b {a m p : Int} (h : Byte p) : Byte (arrM a m p).1 ∧ Byte (arrM a m p).2 :=
  arrV_b (t := bits .and .u8 a m) (v := (ror (bits .and .u8 a m) p).1) (byte_bits .and a m) (shift_b (byte_bits .and a m) h).2.2.2.1 h
theorem adcM_b {a m p : Int} (h : Byte p) : Byte (adcM a m p).1 ∧ Byte (adcM a m p).2 :=
  ⟨mod_b _, setF_b (by simp [IsFlag]) (adcFlags_byte a m p _ h.1 h.2)⟩
theorem sbcM_b {a m p : Int} (h : Byte p) : Byte (sbcM a m p).1 ∧ Byte (sbcM a m p).2 := by
  have h1 := adcM_b (a := a) (m := 255 - m) (p := setF p 8 false) (setF_b (by simp [IsFlag]) h)
  unfold sbcM
  dsimp only
  split
  · exact h1
  · exact ⟨mod_b _, setF_b (by simp [IsFlag]) h1.2⟩
theorem ok_mk {a x y s p pc : Int} (ha : Byte a) (hx : Byte x) (hy : Byte y) (hs : Byte s) (hp : Byte p) (hpc : 0 ≤ pc ∧ pc ≤ 65535) : Regs.Ok ⟨a, x, y, s, p, pc⟩ := ⟨ha, hx, hy, hs, hp, hpc⟩
theorem andsM_ok (n : List UInt8) (r : Regs) (m : Int) (hr : r.Ok) (hm : Byte m) : (andsM n r m).Ok := by
  obtain ⟨a, x, y, s, p, pc⟩ := r
  obtain ⟨ha, hx, hy, hs, hp, hpc⟩ := hr
  have h1 := fun v => nzM_b (v := v) hp
  have b1 := byte_bits .and a m
  unfold andsM
  split
  · exact ok_mk b1 hx hy hs (setF_b (by simp [IsFlag]) (h1 _)) hpc
  split
  · exact ok_mk (shift_b b1 hp).2.1.1 hx hy hs (shift_b b1 hp).2.1.2 hpc
  split
  · exact ok_mk (arrM_b hp).1 hx hy hs (arrM_b hp).2 hpc
  split
  · exact ok_mk (byte_bits .and _ m) hx hy hs (h1 _) hpc
  · exact ok_mk ha hx hy hs hp hpc
theorem loadsM_ok (n : List UInt8) (r : Regs) (m : Int) (hr : r.Ok) (hm : Byte m) : (loadsM n r m).Ok := by
  obtain ⟨a, x, y, s, p, pc⟩ := r
  obtain ⟨ha, hx, hy, hs, hp, hpc⟩ := hr
  have h1 := fun v => nzM_b (v := v) hp
  have b1 := byte_bits .and m s
  have b2 := byte_bits .and (bits .or .u8 a 238) m
  unfold loadsM
  split
  · exact ok_mk ha hm hy hs (h1 _) hpc
  split
  · exact ok_mk ha hx hm hs (h1 _) hpc
  split
  · exact ok_mk hm hm hy hs (h1 _) hpc
  split
  · exact ok_mk b2 b2 hy hs (h1 _) hpc
  split
  · exact ok_mk b1 b1 hy b1 (h1 _) hpc
  split
  · exact ok_mk ha (mod_b _) hy hs (cmpM_b hp) hpc
  · exact ok_mk ha hx hy hs hp hpc
theorem comparesM_ok (n : List UInt8) (r : Regs) (m : Int) (hr : r.Ok) (hm : Byte m) : (comparesM n r m).Ok := by
  obtain ⟨a, x, y, s, p, pc⟩ := r
  obtain ⟨ha, hx, hy, hs, hp, hpc⟩ := hr
  unfold comparesM
  split
  · exact ok_mk ha hx hy hs (cmpM_b hp) hpc
  split
  · exact ok_mk ha hx hy hs (cmpM_b hp) hpc
  split
  · exact ok_mk ha hx hy hs (cmpM_b hp) hpc
  split
  · exact ok_mk ha hx hy hs (bitM_b hp) hpc
  · exact ok_mk ha hx hy hs hp hpc

theorem look1 {P : Program} {T K E : TypeId} (hT : P.underlying T = some (.map K E)) (hK : P.underlying K = some .string) (z : Value) (hz : ∀ w : World, (zeroValue E).run P w = .ok z w) (w : World) (b : Nat) (kvs : List (List UInt8 × Value)) (s : ByteArray) (hb : w.heap.size = b) :
    (Instr.lookup T (.map (some b)) (.string s) true).run P (w.alloc (mapObj kvs)) = .ok (.tuple #[(findS s.toList kvs).getD z, .bool (findS s.toList kvs).isSome]) (w.alloc (mapObj kvs)) :=
  (run_lookupObj hT hK z hz _ b kvs s (by subst hb; show (w.heap.push _)[w.heap.size]? = _; simp)).1
theorem look2 {P : Program} {T K E : TypeId} (hT : P.underlying T = some (.map K E)) (hK : P.underlying K = some .string) (z : Value) (hz : ∀ w : World, (zeroValue E).run P w = .ok z w) (w : World) (b : Nat) (kvs : List (List UInt8 × Value)) (s : ByteArray) (hb : w.heap.size = b) :
    (Instr.lookup T (.map (some b)) (.string s) false).run P (w.alloc (mapObj kvs)) = .ok ((findS s.toList kvs).getD z) (w.alloc (mapObj kvs)) :=
  (run_lookupObj hT hK z hz _ b kvs s (by subst hb; show (w.heap.push _)[w.heap.size]? = _; simp)).2

end Go.Proofs.Ytmiihcaccejklaa
