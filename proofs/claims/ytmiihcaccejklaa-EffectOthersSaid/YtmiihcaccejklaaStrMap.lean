/- PROVED: how a map with texts as keys, that was just made, is filled and asked. No conditions beyond those that each theorem states. -/
import Derived.Test.YtmiihcaccejklaaLib
import Derived.Laws.Strings
import Derived.WideMake
import Derived.MapKept
namespace Go.Proofs.YtmiihcaccejklaaLib
open Go.RowKit
set_option linter.unusedSimpArgs false
set_option linter.unusedVariables false

def entriesOf : List (List UInt8 × Value) → Nat → List MapEntry
  | [], _ => []
  | (k, v) :: r, i => ⟨.string ⟨k.toArray⟩, v, i⟩ :: entriesOf r (i + 1)
def mapObj (kvs : List (List UInt8 × Value)) : Obj := .map (entriesOf kvs 0).toArray kvs.length
def findS (n : List UInt8) : List (List UInt8 × Value) → Option Value
  | [] => none
  | (k, v) :: r => if (n == k) = true then some v else findS n r
theorem entries_append (kvs : List (List UInt8 × Value)) (k : List UInt8) (v : Value) (i : Nat) : entriesOf (kvs ++ [(k, v)]) i = entriesOf kvs i ++ [⟨.string ⟨k.toArray⟩, v, i + kvs.length⟩] := by
  induction kvs generalizing i with
  | nil => simp [entriesOf]
  | cons a r ih => obtain ⟨ka, va⟩ := a; simp only [List.cons_append, entriesOf, ih, List.length_cons]; rw [show i + 1 + r.length = i + (r.length + 1) from by omega]
theorem bytes_beq (a b : ByteArray) : (a == b) = (a.toList == b.toList) := by
  have e : (a == b) = (a.data == b.data) := by
    cases a; cases b; rfl
  rw [e, Bool.eq_iff_iff, beq_iff_eq, beq_iff_eq, ByteArray.toList_eq, ByteArray.toList_eq, Array.toList_inj]
theorem mk_toList (s : ByteArray) : (⟨s.toList.toArray⟩ : ByteArray) = s := by
  rw [ByteArray.toList_eq]
theorem findNow_string (s : ByteArray) (kvs : List (List UInt8 × Value)) : ∀ i j, (findS s.toList kvs = none → Instr.findNow .string (.string s) (entriesOf kvs i) j = some none) ∧
    (∀ v, findS s.toList kvs = some v → ∃ q, Instr.findNow .string (.string s) (entriesOf kvs i) j = some (some (q, v))) := by
  induction kvs with
  | nil => intro i j; exact ⟨fun _ => rfl, fun v h => by cases h⟩
  | cons a r ih =>
    intro i j
    obtain ⟨k, v⟩ := a
    have e : Instr.sameNow .string (.string s) (.string ⟨k.toArray⟩) = some (s.toList == k) := by
      show some (s == ⟨k.toArray⟩) = _
      rw [bytes_beq, ByteArray.toList_mk k]
    simp only [findS, entriesOf, Instr.findNow, e]
    cases hb : (s.toList == k) with
    | true => exact ⟨fun h => by simp at h, fun u h => ⟨j, by simp at h; rw [h]⟩⟩
    | false => simpa using ih (i + 1) (j + 1)
section
variable {P : Program} {T K E : TypeId}
theorem run_neq_func {n r v} (hT : P.underlying T = some (.func n r v)) (f : Fn) (x y : Array Value) (w : World) : (binOp .neq T (.func f x y) .nilFunc).run P w = .ok (.bool true) w := by
  have h : (Op.equal T (.func f x y) .nilFunc).run P w = .ok false w := by
    simp only [Op.equal, Op.maxDepth]
    rw [show (10000 : Nat) = 9999 + 1 from rfl, Op.equalIn]
    simp [run_underlying hT]
  simp only [binOp]
  simp [h]
theorem run_neq_nilFunc {n r v} (hT : P.underlying T = some (.func n r v)) (w : World) : (binOp .neq T .nilFunc .nilFunc).run P w = .ok (.bool false) w := by
  have h : (Op.equal T .nilFunc .nilFunc).run P w = .ok true w := by
    simp only [Op.equal, Op.maxDepth]
    rw [show (10000 : Nat) = 9999 + 1 from rfl, Op.equalIn]
    simp [run_underlying hT]
  simp only [binOp]
  simp [h]
theorem run_makeMapObj (t : TypeId) (w : World) : (Instr.makeMap t none).run P w = .ok (.map (some w.heap.size)) (w.alloc (mapObj [])) := rfl
theorem run_insertObj (hT : P.underlying T = some (.map K E)) (hK : P.underlying K = some .string) (W : World) (b : Nat) (kvs : List (List UInt8 × Value)) (s : ByteArray) (v : Value) (hb : W.heap.size = b) (hf : findS s.toList kvs = none) :
    (Instr.mapUpdate T (.map (some b)) (.string s) v).run P (W.alloc (mapObj kvs)) = .ok () (W.alloc (mapObj (kvs ++ [(s.toList, v)]))) := by
  subst hb
  have hg : (W.alloc (mapObj kvs)).heap[W.heap.size]? = some (.map (entriesOf kvs 0).toArray kvs.length) := by show (W.heap.push _)[W.heap.size]? = _; simp [mapObj]
  have h1 : Instr.findNow .string (.string s) (entriesOf kvs 0).toArray.toList 0 = some none := ((findNow_string s kvs 0 0).1 hf)
  have hc : ∀ w : World, (Instr.checkKey false 10000 K (.string s)).run P w = .ok () w := fun w => MapKept.run_checkKey (k := .string s) hK (by simp [MapKept.IsKey]) false 9999
  simp [Instr.mapUpdate, run_underlying hT, MapKept.run_getObj_map hg, hc, MapKept.run_findKey hK h1, MapKept.run_setObj_map _ hg, Result.andThen]
  have e : entriesOf (kvs ++ [(s.toList, v)]) 0 = entriesOf kvs 0 ++ [⟨.string s, v, kvs.length⟩] := by rw [entries_append, mk_toList, Nat.zero_add]
  have ep : ∀ (A : Array Obj) (o o' : Obj), (A.push o).setIfInBounds A.size o' = A.push o' := by
    intro A o o'
    apply Array.ext_getElem?
    intro i
    rw [Array.getElem?_setIfInBounds, Array.getElem?_push, Array.getElem?_push]
    by_cases h : A.size = i
    · subst h; simp
    · rw [if_neg h, if_neg (Ne.symm h), if_neg (Ne.symm h)]
  show ({ W with heap := (W.heap.push (mapObj kvs)).setIfInBounds W.heap.size (.map (entriesOf kvs 0 ++ [({ key := .string s, val := v, born := kvs.length } : MapEntry)]).toArray (kvs.length + 1)) } : World) = { W with heap := W.heap.push (mapObj (kvs ++ [(s.toList, v)])) }
  rw [ep]
  simp [mapObj, e]
theorem run_lookupObj (hT : P.underlying T = some (.map K E)) (hK : P.underlying K = some .string) (z : Value) (hz : ∀ w : World, (zeroValue E).run P w = .ok z w) (w : World) (b : Nat) (kvs : List (List UInt8 × Value)) (s : ByteArray) (hb : w.heap[b]? = some (mapObj kvs)) :
    (Instr.lookup T (.map (some b)) (.string s) true).run P w = .ok (.tuple #[(findS s.toList kvs).getD z, .bool (findS s.toList kvs).isSome]) w ∧
    (Instr.lookup T (.map (some b)) (.string s) false).run P w = .ok ((findS s.toList kvs).getD z) w := by
  have hg : w.heap[b]? = some (.map (entriesOf kvs 0).toArray kvs.length) := hb
  have hc : ∀ e, ∀ w : World, (Instr.checkKey e 10000 K (.string s)).run P w = .ok () w := fun e w => MapKept.run_checkKey (k := .string s) hK (by simp [MapKept.IsKey]) e 9999
  have hf := findNow_string s kvs 0 0
  cases hfind : findS s.toList kvs with
  | none =>
    have h1 : Instr.findNow .string (.string s) (entriesOf kvs 0).toArray.toList 0 = some none := hf.1 hfind
    constructor <;> simp [Instr.lookup, run_underlying hT, MapKept.run_getObj_map hg, hc, MapKept.run_findKey hK h1, hz, Result.andThen]
  | some v =>
    obtain ⟨q, h1⟩ := hf.2 v hfind
    have h1' : Instr.findNow .string (.string s) (entriesOf kvs 0).toArray.toList 0 = some (some (q, v)) := h1
    constructor <;> simp [Instr.lookup, run_underlying hT, MapKept.run_getObj_map hg, hc, MapKept.run_findKey hK h1', Result.andThen]
end
end Go.Proofs.YtmiihcaccejklaaLib
