/- PROVED: the contracts of a shadow's Image, Seq, Which, Stale, of bytes.Equal, and of Commit's closure. No conditions beyond those that each theorem states. -/
import Derived.Test.YtcikhnkehglkgaaGreatDoorShH
import Derived.Deep.RegionHeld3
namespace Go.Proofs.YtcikhnkehglkgaaGreatDoor
open Go.RowKit Go.Proofs.YtcikhnkehglkgaaGreatDoorLib Go.Shelf
set_option linter.unusedSimpArgs false
set_option linter.unusedVariables false

theorem seq_any (w : World) (q : Nat) (L : List Value) (hb : Blk w q 87 L) (x : Int) (h : L[5]? = some (.int .u64 x)) : Calls Tryz.prog 17 #[pt q] w (fun e W => e = .returned (.int .u64 x) ∧ w = W) := by
  have c := hb.cell 5 h
  clear hb h
  go_enter Tryz.func17, Tryz.ntmps17
  go_wp2_with fail
  go_ret
  exact ⟨rfl, rfl⟩
theorem which_any (w : World) (q : Nat) (L : List Value) (hb : Blk w q 87 L) (x : Int) (h : L[6]? = some (.int .i64 x)) : Calls Tryz.prog 18 #[pt q] w (fun e W => e = .returned (.int .i64 x) ∧ w = W) := by
  have c := hb.cell 6 h
  clear hb h
  go_enter Tryz.func18, Tryz.ntmps18
  go_wp2_with fail
  go_ret
  exact ⟨rfl, rfl⟩
theorem stale_any (w : World) (q : Nat) (L : List Value) (hb : Blk w q 87 L) (x : Bool) (h : L[7]? = some (.bool x)) : Calls Tryz.prog 26 #[pt q] w (fun e W => e = .returned (.bool x) ∧ w = W) := by
  have c := hb.cell 7 h
  clear hb h
  go_enter Tryz.func26, Tryz.ntmps26
  go_wp2_with fail
  go_ret
  exact ⟨rfl, rfl⟩
theorem image_any (w : World) (q : Nat) (L : List Value) (hb : Blk w q 87 L) (v : Value) (b off : Nat) (l : List Int) (h : L[4]? = some v) (hs : Sl .u8 w v b off l) (hl : l.length ≤ 1000000) :
    Calls Tryz.prog 16 #[pt q] w (Post w [] fun v' W => Own 5 .u8 W w.heap.size v' l) := by
  have HC := Lib.hid (clone_any w v b off l hs (by omega))
  obtain ⟨Ar, cr, rfl⟩ := hs.form
  have c := hb.cell 4 h
  clear hb h hs
  go_enter Tryz.func16, Tryz.ntmps16
  go_wp2_with fail
  refine HC.out.mono ?_
  rintro _ W ⟨v', rfl, h, k⟩
  have H := Lib.hid (And.intro h k)
  clear h k
  go_wp2_with fail
  go_ret
  exact ⟨_, rfl, H.out.1, H.out.2⟩
theorem bytesIn_of {w : World} {A : Option Addr} {n c : Nat} {b off : Nat} {l : List Int} (h : Sl .u8 w (.slice A n c) b off l) : Go.Lib.BytesIn w A n l ∧ l.length = n := by
  obtain ⟨A', c', e, h1, h2, h3, h4⟩ := h
  simp only [Value.slice.injEq] at e
  obtain ⟨rfl, rfl, rfl⟩ := e
  refine ⟨fun hn => ?_, rfl⟩
  have hne : l ≠ [] := by intro e; subst e; simp at hn
  refine ⟨b, off, h3 hne, fun i hi => h4 i _ ?_⟩
  rw [List.getD, List.getElem?_eq_getElem hi]
  rfl
theorem bytesOf_inj2 {a b : List Int} (ha : Bts a) (hb : Bts b) (h : Go.Lib.bytesOf a = Go.Lib.bytesOf b) : a = b := by
  unfold Go.Lib.bytesOf at h
  apply List.ext_getElem?
  intro i
  have e := congrArg (fun l => l[i]?) h
  simp only [List.getElem?_map] at e
  cases hx : a[i]? with
  | none =>
    rw [hx] at e
    cases hy : b[i]? with
    | none => rfl
    | some y => rw [hy] at e; simp at e
  | some x =>
    rw [hx] at e
    cases hy : b[i]? with
    | none => rw [hy] at e; simp at e
    | some y =>
      rw [hy] at e
      simp only [Option.map_some, Option.some.injEq] at e
      have hxa := ha x (List.mem_of_getElem? hx)
      have hyb := hb y (List.mem_of_getElem? hy)
      have e2 := congrArg UInt8.toNat e
      simp only [UInt8.toNat_ofNat'] at e2
      have : x.toNat = y.toNat := by omega
      congr 1
      omega
theorem equal_any (w : World) (A1 A2 : Option Addr) (n1 c1 n2 c2 b1 o1 b2 o2 : Nat) (l1 l2 : List Int) (h1 : Sl .u8 w (.slice A1 n1 c1) b1 o1 l1) (h2 : Sl .u8 w (.slice A2 n2 c2) b2 o2 l2) (g1 : Bts l1) (g2 : Bts l2) :
    Calls Tryz.prog 57 #[.slice A1 n1 c1, .slice A2 n2 c2] w (fun e W => e = .returned (.bool (decide (l1 = l2))) ∧ w = W) := by
  obtain ⟨i1, e1⟩ := bytesIn_of h1
  obtain ⟨i2, e2⟩ := bytesIn_of h2
  refine (Any.bytes_Equal_all Tryz.equalA A1 A2 n1 c1 n2 c2 l1 l2 w e1 e2 i1 i2).mono ?_
  rintro _ W ⟨rfl, rfl⟩
  refine ⟨?_, rfl⟩
  by_cases h : l1 = l2
  · subst h; simp
  · have hb : ¬ Go.Lib.bytesOf l1 = Go.Lib.bytesOf l2 := fun e => h (bytesOf_inj2 g1 g2 e)
    rw [decide_eq_false h]
    congr 2
    simpa using hb
end Go.Proofs.YtcikhnkehglkgaaGreatDoor
