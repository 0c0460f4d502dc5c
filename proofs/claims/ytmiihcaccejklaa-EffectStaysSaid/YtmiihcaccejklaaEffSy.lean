/- PROVED: the walk of EffectStays. No conditions beyond those that each theorem states. -/
import Derived.Test.YtmiihcaccejklaaEffSy0
import Derived.Test.YtmiihcaccejklaaEffSy1
import Derived.Test.YtmiihcaccejklaaEffSy2
import Derived.Test.YtmiihcaccejklaaEffSy3
namespace Go.Proofs.Ytmiihcaccejklaa
open Go.RowKit Go.Proofs.YtmiihcaccejklaaLib
set_option linter.unusedSimpArgs false
set_option linter.unusedVariables false

theorem EffectStays_walk (w : World) (code : Int) (r : Regs) (m : Int) (hr : r.Ok) (hc : Byte code) (hm : Byte m) :
    Calls Try.prog 8 #[.int .u8 code, r.val, .int .u8 m] w fun e W => e = .returned (.bool true) ∧ Below w.heap.size w W := by
  obtain ⟨a, x, y, s, p, pc⟩ := r
  obtain ⟨ba, bp, bm, hB⟩ := modifies_stays (ByteArray.mk (nameOf code.toNat).toArray).toList a x y s p pc m
  obtain ⟨cs, cm, hC⟩ := writes_stays (ByteArray.mk (nameOf code.toNat).toArray).toList a x y s p pc m
  by_cases t0 : ((ByteArray.mk (nameOf code.toNat).toArray).toList == [67, 77, 80]) = true
  · obtain ⟨qp, hQ⟩ := reads_CMP _ t0 a x y s p pc m
    exact stays_CMP w code a x y s p pc m hr hc hm ba bp bm cs cm 0 0 0 0 qp 0 0 0 0 0 (Lib.hid hB) (Lib.hid hC) (Lib.hid hQ) (Lib.hid (inner_CMP _ t0 a x y s p pc)) t0
  replace t0 : ((ByteArray.mk (nameOf code.toNat).toArray).toList == [67, 77, 80]) = false := by simpa using t0
  by_cases t1 : ((ByteArray.mk (nameOf code.toNat).toArray).toList == [67, 80, 88]) = true
  · obtain ⟨qp, hQ⟩ := reads_CPX _ t1 a x y s p pc m
    exact stays_CPX w code a x y s p pc m hr hc hm ba bp bm cs cm 0 0 0 0 qp 0 0 0 0 0 (Lib.hid hB) (Lib.hid hC) (Lib.hid hQ) (Lib.hid (inner_CPX _ t1 a x y s p pc)) t0 t1
  replace t1 : ((ByteArray.mk (nameOf code.toNat).toArray).toList == [67, 80, 88]) = false := by simpa using t1
  by_cases t2 : ((ByteArray.mk (nameOf code.toNat).toArray).toList == [67, 80, 89]) = true
  · obtain ⟨qp, hQ⟩ := reads_CPY _ t2 a x y s p pc m
    exact stays_CPY w code a x y s p pc m hr hc hm ba bp bm cs cm 0 0 0 0 qp 0 0 0 0 0 (Lib.hid hB) (Lib.hid hC) (Lib.hid hQ) (Lib.hid (inner_CPY _ t2 a x y s p pc)) t0 t1 t2
  replace t2 : ((ByteArray.mk (nameOf code.toNat).toArray).toList == [67, 80, 89]) = false := by simpa using t2
  by_cases t3 : ((ByteArray.mk (nameOf code.toNat).toArray).toList == [66, 73, 84]) = true
  · obtain ⟨qp, hQ⟩ := reads_BIT _ t3 a x y s p pc m
    exact stays_BIT w code a x y s p pc m hr hc hm ba bp bm cs cm 0 0 0 0 qp 0 0 0 0 0 (Lib.hid hB) (Lib.hid hC) (Lib.hid hQ) (Lib.hid (inner_BIT _ t3 a x y s p pc)) t0 t1 t2 t3
  replace t3 : ((ByteArray.mk (nameOf code.toNat).toArray).toList == [66, 73, 84]) = false := by simpa using t3
  obtain ⟨qa, qx, qy, qs, qp, hQ, hq⟩ := reads_stays (ByteArray.mk (nameOf code.toNat).toArray).toList a x y s p pc m
  obtain ⟨da, dx, dy, ds, dp, hD, hd⟩ := inner_stays (ByteArray.mk (nameOf code.toNat).toArray).toList a x y s p pc
  rcases hq with hq | u0 <;> rcases hd with hd | u1 | u1 | u1
  · subst hq
    subst hd
    exact stays_o00 w code a x _ s p pc m hr hc hm ba bp bm cs cm qa qx 0 qs qp da dx 0 ds dp (Lib.hid hB) (Lib.hid hC) (Lib.hid hQ) (Lib.hid hD) t0 t1 t2 t3
  · subst hq
    exact stays_o01 w code a x _ s p pc m hr hc hm ba bp bm cs cm qa qx 0 qs qp da dx dy ds dp (Lib.hid hB) (Lib.hid hC) (Lib.hid hQ) (Lib.hid hD) t0 t1 t2 t3 u1
  · subst hq
    exact stays_o02 w code a x _ s p pc m hr hc hm ba bp bm cs cm qa qx 0 qs qp da dx dy ds dp (Lib.hid hB) (Lib.hid hC) (Lib.hid hQ) (Lib.hid hD) t0 t1 t2 t3 u1
  · subst hq
    exact stays_o03 w code a x _ s p pc m hr hc hm ba bp bm cs cm qa qx 0 qs qp da dx dy ds dp (Lib.hid hB) (Lib.hid hC) (Lib.hid hQ) (Lib.hid hD) t0 t1 t2 t3 u1
  · subst hd
    exact stays_o10 w code a x _ s p pc m hr hc hm ba bp bm cs cm qa qx qy qs qp da dx 0 ds dp (Lib.hid hB) (Lib.hid hC) (Lib.hid hQ) (Lib.hid hD) t0 t1 t2 t3 u0
  · exact stays_o11 w code a x _ s p pc m hr hc hm ba bp bm cs cm qa qx qy qs qp da dx dy ds dp (Lib.hid hB) (Lib.hid hC) (Lib.hid hQ) (Lib.hid hD) t0 t1 t2 t3 u0 u1
  · exact stays_o12 w code a x _ s p pc m hr hc hm ba bp bm cs cm qa qx qy qs qp da dx dy ds dp (Lib.hid hB) (Lib.hid hC) (Lib.hid hQ) (Lib.hid hD) t0 t1 t2 t3 u0 u1
  · exact stays_o13 w code a x _ s p pc m hr hc hm ba bp bm cs cm qa qx qy qs qp da dx dy ds dp (Lib.hid hB) (Lib.hid hC) (Lib.hid hQ) (Lib.hid hD) t0 t1 t2 t3 u0 u1

end Go.Proofs.Ytmiihcaccejklaa
