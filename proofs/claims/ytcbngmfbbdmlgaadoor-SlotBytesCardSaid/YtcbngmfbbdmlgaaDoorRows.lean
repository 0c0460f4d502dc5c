/-
  NARROWER THAN 'FOR EVERY INPUT', by the rows' own cells (each row's printed sentence says how): SlotSpans: laid · SlotBytes: laid · SlotStranger: laid · SlotBack: laid · SlotApart: laid.
  DERIVED. THE GIVEN ROWS OF THIS SEAT. 5 by the template 'for every input the law returns true; each argument reads behind the call as it read before'; 0 by the template 'total and deterministic' (their statements: YtcbngmfbbdmlgaaDoorTotals.lean).
  GIVEN WITH THE SEED: the statements are not yours to turn. If you find one false, say at which input.
  Laid BY PROGRAM, IN A SANDBOX (cutbox-rows.mjs): the forced cells as the released guide's own fill.sh prints them over the translation 9672ee680378a6ea… (all of the seat's roots in one cut). By AI agents, Wed Nov 11 2026. No macro, syntax, notation, axiom, sorry.
-/
import Derived.Test.YtcbngmfbbdmlgaaDoorChecked
import GoSem.Claim
import GoSem.ClaimJoined
import GoSem.ClaimMapViews
import Derived.JoinedTies
import Derived.KernelRfl
namespace Go.Proofs.YtcbngmfbbdmlgaaDoor
/- THE CELL 'sum', in the pinned program and in every row, IS THE sha256 OF THE DUMP (.gsa) THAT YtcbngmfbbdmlgaaDoorProg.lean LOADS. Nothing in Lean hashes anything: it is a label: what it is worth is what the hold of that sum in a sandbox is worth. -/
noncomputable def Tryd.pinned : Pinned := { name := "ytcbngmfbbdmlgaadoor", sum := "9672ee680378a6ea1a1ffeeb185630900040e8f9bc687593e1c82beabb23bed5", checked := Tryd.checked }
namespace Rows
def none {H : Type} : Left H := { results := [], args := [] }

/- WHAT THE LISTED PACKAGE-LEVEL VARIABLES READ AS WHEN THE CALL BEGINS. Each datum BY PROGRAM (the guide's laid-datum.mjs) off the statement by which the dump's own 'gosem.cut.vars' lays the variable. In a bare row this is a premise. The card (YtcbngmfbbdmlgaaDoorCards.lean) ties it to the program's text. -/
def laid_keepsake_geo_rows {H : Type} : DataW H := .agg [.agg [.lit (.int .i64 0), .lit (.int .i64 0), .lit (.int .i64 0), .lit (.int .i64 0)], .agg [.lit (.int .i64 7), .lit (.int .i64 3), .lit (.int .i64 1), .lit (.int .i64 0)], .agg [.lit (.int .i64 8), .lit (.int .i64 3), .lit (.int .i64 1), .lit (.int .i64 0)], .agg [.lit (.int .i64 9), .lit (.int .i64 4), .lit (.int .i64 1), .lit (.int .i64 1)], .agg [.lit (.int .i64 10), .lit (.int .i64 4), .lit (.int .i64 1), .lit (.int .i64 2)], .agg [.lit (.int .i64 11), .lit (.int .i64 4), .lit (.int .i64 1), .lit (.int .i64 3)], .agg [.lit (.int .i64 12), .lit (.int .i64 5), .lit (.int .i64 2), .lit (.int .i64 0)], .agg [.lit (.int .i64 13), .lit (.int .i64 5), .lit (.int .i64 2), .lit (.int .i64 0)], .agg [.lit (.int .i64 14), .lit (.int .i64 6), .lit (.int .i64 2), .lit (.int .i64 0)], .agg [.lit (.int .i64 15), .lit (.int .i64 6), .lit (.int .i64 2), .lit (.int .i64 0)], .agg [.lit (.int .i64 16), .lit (.int .i64 7), .lit (.int .i64 2), .lit (.int .i64 0)]]

/-- 'keepsakelaw06.SlotSpans': WHATEVER THE INPUT: true; the input reads as it did. -/
def slotSpansSpec : ChangeSpec := { name := "slotSpans", fn := fun _ => fun
  | [d1, d2] => { results := [.lit (.bool true)], args := [d1, d2] }
  | _ => none }
def slotSpansRow : OpenClaim := { program := "ytcbngmfbbdmlgaadoor", sum := "9672ee680378a6ea1a1ffeeb185630900040e8f9bc687593e1c82beabb23bed5", func := "keepsake/keepsakelaw06.SlotSpans", spec := "slotSpans", inPlace := ["internal/bytealg.MakeNoZero"], unfollowed := true, recurses := true, named := ["keepsake/geo.rows"], apart := false, laid := [("keepsake/geo.rows", laid_keepsake_geo_rows)] }
def SlotSpansSaid : Prop := slotSpansRow.holds Tryd.pinned (OpenSpec.ofChange slotSpansSpec)

/-- ITS FALSE NEIGHBOUR: 'it returns false'. Refute it at one input. -/
def slotSpansWrong : ChangeSpec := { name := "slotSpans", fn := fun _ => fun
  | [d1, d2] => { results := [.lit (.bool false)], args := [d1, d2] }
  | _ => none }
def SlotSpansWrongFalsely : Prop := slotSpansRow.holds Tryd.pinned (OpenSpec.ofChange slotSpansWrong)

/-- 'keepsakelaw06.SlotBytes': WHATEVER THE INPUT: true; the input reads as it did. -/
def slotBytesSpec : ChangeSpec := { name := "slotBytes", fn := fun _ => fun
  | [d1, d2, d3, d4] => { results := [.lit (.bool true)], args := [d1, d2, d3, d4] }
  | _ => none }
def slotBytesRow : OpenClaim := { program := "ytcbngmfbbdmlgaadoor", sum := "9672ee680378a6ea1a1ffeeb185630900040e8f9bc687593e1c82beabb23bed5", func := "keepsake/keepsakelaw06.SlotBytes", spec := "slotBytes", inPlace := ["internal/bytealg.MakeNoZero"], unfollowed := true, recurses := true, named := ["keepsake/geo.rows"], apart := false, laid := [("keepsake/geo.rows", laid_keepsake_geo_rows)] }
def SlotBytesSaid : Prop := slotBytesRow.holds Tryd.pinned (OpenSpec.ofChange slotBytesSpec)

/-- ITS FALSE NEIGHBOUR: 'it returns false'. Refute it at one input. -/
def slotBytesWrong : ChangeSpec := { name := "slotBytes", fn := fun _ => fun
  | [d1, d2, d3, d4] => { results := [.lit (.bool false)], args := [d1, d2, d3, d4] }
  | _ => none }
def SlotBytesWrongFalsely : Prop := slotBytesRow.holds Tryd.pinned (OpenSpec.ofChange slotBytesWrong)

/-- 'keepsakelaw06.SlotStranger': WHATEVER THE INPUT: true; the input reads as it did. -/
def slotStrangerSpec : ChangeSpec := { name := "slotStranger", fn := fun _ => fun
  | [d1, d2, d3, d4] => { results := [.lit (.bool true)], args := [d1, d2, d3, d4] }
  | _ => none }
def slotStrangerRow : OpenClaim := { program := "ytcbngmfbbdmlgaadoor", sum := "9672ee680378a6ea1a1ffeeb185630900040e8f9bc687593e1c82beabb23bed5", func := "keepsake/keepsakelaw06.SlotStranger", spec := "slotStranger", inPlace := ["internal/bytealg.MakeNoZero"], unfollowed := true, recurses := true, named := ["keepsake/geo.rows"], apart := false, laid := [("keepsake/geo.rows", laid_keepsake_geo_rows)] }
def SlotStrangerSaid : Prop := slotStrangerRow.holds Tryd.pinned (OpenSpec.ofChange slotStrangerSpec)

/-- ITS FALSE NEIGHBOUR: 'it returns false'. Refute it at one input. -/
def slotStrangerWrong : ChangeSpec := { name := "slotStranger", fn := fun _ => fun
  | [d1, d2, d3, d4] => { results := [.lit (.bool false)], args := [d1, d2, d3, d4] }
  | _ => none }
def SlotStrangerWrongFalsely : Prop := slotStrangerRow.holds Tryd.pinned (OpenSpec.ofChange slotStrangerWrong)

/-- 'keepsakelaw06.SlotBack': WHATEVER THE INPUT: true; the input reads as it did. -/
def slotBackSpec : ChangeSpec := { name := "slotBack", fn := fun _ => fun
  | [d1, d2, d3, d4, d5, d6] => { results := [.lit (.bool true)], args := [d1, d2, d3, d4, d5, d6] }
  | _ => none }
def slotBackRow : OpenClaim := { program := "ytcbngmfbbdmlgaadoor", sum := "9672ee680378a6ea1a1ffeeb185630900040e8f9bc687593e1c82beabb23bed5", func := "keepsake/keepsakelaw06.SlotBack", spec := "slotBack", inPlace := ["internal/bytealg.MakeNoZero"], unfollowed := true, recurses := true, named := ["keepsake/geo.rows"], apart := false, laid := [("keepsake/geo.rows", laid_keepsake_geo_rows)] }
def SlotBackSaid : Prop := slotBackRow.holds Tryd.pinned (OpenSpec.ofChange slotBackSpec)

/-- ITS FALSE NEIGHBOUR: 'it returns false'. Refute it at one input. -/
def slotBackWrong : ChangeSpec := { name := "slotBack", fn := fun _ => fun
  | [d1, d2, d3, d4, d5, d6] => { results := [.lit (.bool false)], args := [d1, d2, d3, d4, d5, d6] }
  | _ => none }
def SlotBackWrongFalsely : Prop := slotBackRow.holds Tryd.pinned (OpenSpec.ofChange slotBackWrong)

/-- 'keepsakelaw06.SlotApart': WHATEVER THE INPUT: true; the input reads as it did. -/
def slotApartSpec : ChangeSpec := { name := "slotApart", fn := fun _ => fun
  | [d1, d2, d3, d4, d5, d6, d7] => { results := [.lit (.bool true)], args := [d1, d2, d3, d4, d5, d6, d7] }
  | _ => none }
def slotApartRow : OpenClaim := { program := "ytcbngmfbbdmlgaadoor", sum := "9672ee680378a6ea1a1ffeeb185630900040e8f9bc687593e1c82beabb23bed5", func := "keepsake/keepsakelaw06.SlotApart", spec := "slotApart", inPlace := ["internal/bytealg.MakeNoZero"], unfollowed := true, recurses := true, named := ["keepsake/geo.rows"], apart := false, laid := [("keepsake/geo.rows", laid_keepsake_geo_rows)] }
def SlotApartSaid : Prop := slotApartRow.holds Tryd.pinned (OpenSpec.ofChange slotApartSpec)

/-- ITS FALSE NEIGHBOUR: 'it returns false'. Refute it at one input. -/
def slotApartWrong : ChangeSpec := { name := "slotApart", fn := fun _ => fun
  | [d1, d2, d3, d4, d5, d6, d7] => { results := [.lit (.bool false)], args := [d1, d2, d3, d4, d5, d6, d7] }
  | _ => none }
def SlotApartWrongFalsely : Prop := slotApartRow.holds Tryd.pinned (OpenSpec.ofChange slotApartWrong)

/- THE SECOND FORM. 'bulk': how many values and letters a reading holds, each counted each time it is reached (what is shared counts as often as it is met; a slice's spare places count too). A statement '..UptoSaid' is the law's where the arguments, and the package variables that the reading takes, are together of bulk at most 1048576: NARROWER than '..Said'. Prove '..Said' where nothing that the law and all that it calls make is longer than what came in: it says more and counts as full. Else prove '..UptoSaid'. A law counts once. -/
mutual
def uptoBulk {H : Type} : DataW H → Nat
  | .lit (.string bytes) => bytes.length + 1
  | .lit _ => 1
  | .nil => 1
  | .ptr d => uptoBulk d + 1
  | .slice elems spare => uptoBulkAll elems + uptoBulkAll spare + 1
  | .agg parts => uptoBulkAll parts + 1
  | .iface _ d => uptoBulk d + 1
  | .map entries => uptoBulkEntries entries + 1
  | .held _ => 1
def uptoBulkAll {H : Type} : List (DataW H) → Nat
  | [] => 0
  | d :: r => uptoBulk d + uptoBulkAll r
def uptoBulkEntries {H : Type} : List (Lit × DataW H) → Nat
  | [] => 0
  | x :: r => uptoBulkEntry x + uptoBulkEntries r
def uptoBulkEntry {H : Type} : Lit × DataW H → Nat
  | (.string bytes, d) => bytes.length + uptoBulk d + 1
  | (_, d) => uptoBulk d + 1
 end
def uptoSmall : (H : Type) → List (DataW H) → Bool := fun _ ds => decide (uptoBulkAll ds ≤ 1048576)
def OpenSpec.upto (s : _root_.Go.ChangeSpec) : _root_.Go.OpenSpec := { _root_.Go.OpenSpec.ofChange s with cond := some uptoSmall }

/-- 'keepsakelaw06.SlotSpans', WHERE WHAT IT READS IS OF BULK AT MOST 1048576: true; the input reads as it did. -/
def slotSpansUptoRow : OpenClaim := { program := "ytcbngmfbbdmlgaadoor", sum := "9672ee680378a6ea1a1ffeeb185630900040e8f9bc687593e1c82beabb23bed5", func := "keepsake/keepsakelaw06.SlotSpans", spec := "slotSpans", inPlace := ["internal/bytealg.MakeNoZero"], unfollowed := true, recurses := true, named := ["keepsake/geo.rows"], apart := false, laid := [("keepsake/geo.rows", laid_keepsake_geo_rows)], narrowed := true }
def SlotSpansUptoSaid : Prop := slotSpansUptoRow.holds Tryd.pinned (OpenSpec.upto slotSpansSpec)

/-- 'keepsakelaw06.SlotBytes', WHERE WHAT IT READS IS OF BULK AT MOST 1048576: true; the input reads as it did. -/
def slotBytesUptoRow : OpenClaim := { program := "ytcbngmfbbdmlgaadoor", sum := "9672ee680378a6ea1a1ffeeb185630900040e8f9bc687593e1c82beabb23bed5", func := "keepsake/keepsakelaw06.SlotBytes", spec := "slotBytes", inPlace := ["internal/bytealg.MakeNoZero"], unfollowed := true, recurses := true, named := ["keepsake/geo.rows"], apart := false, laid := [("keepsake/geo.rows", laid_keepsake_geo_rows)], narrowed := true }
def SlotBytesUptoSaid : Prop := slotBytesUptoRow.holds Tryd.pinned (OpenSpec.upto slotBytesSpec)

/-- 'keepsakelaw06.SlotStranger', WHERE WHAT IT READS IS OF BULK AT MOST 1048576: true; the input reads as it did. -/
def slotStrangerUptoRow : OpenClaim := { program := "ytcbngmfbbdmlgaadoor", sum := "9672ee680378a6ea1a1ffeeb185630900040e8f9bc687593e1c82beabb23bed5", func := "keepsake/keepsakelaw06.SlotStranger", spec := "slotStranger", inPlace := ["internal/bytealg.MakeNoZero"], unfollowed := true, recurses := true, named := ["keepsake/geo.rows"], apart := false, laid := [("keepsake/geo.rows", laid_keepsake_geo_rows)], narrowed := true }
def SlotStrangerUptoSaid : Prop := slotStrangerUptoRow.holds Tryd.pinned (OpenSpec.upto slotStrangerSpec)

/-- 'keepsakelaw06.SlotBack', WHERE WHAT IT READS IS OF BULK AT MOST 1048576: true; the input reads as it did. -/
def slotBackUptoRow : OpenClaim := { program := "ytcbngmfbbdmlgaadoor", sum := "9672ee680378a6ea1a1ffeeb185630900040e8f9bc687593e1c82beabb23bed5", func := "keepsake/keepsakelaw06.SlotBack", spec := "slotBack", inPlace := ["internal/bytealg.MakeNoZero"], unfollowed := true, recurses := true, named := ["keepsake/geo.rows"], apart := false, laid := [("keepsake/geo.rows", laid_keepsake_geo_rows)], narrowed := true }
def SlotBackUptoSaid : Prop := slotBackUptoRow.holds Tryd.pinned (OpenSpec.upto slotBackSpec)

/-- 'keepsakelaw06.SlotApart', WHERE WHAT IT READS IS OF BULK AT MOST 1048576: true; the input reads as it did. -/
def slotApartUptoRow : OpenClaim := { program := "ytcbngmfbbdmlgaadoor", sum := "9672ee680378a6ea1a1ffeeb185630900040e8f9bc687593e1c82beabb23bed5", func := "keepsake/keepsakelaw06.SlotApart", spec := "slotApart", inPlace := ["internal/bytealg.MakeNoZero"], unfollowed := true, recurses := true, named := ["keepsake/geo.rows"], apart := false, laid := [("keepsake/geo.rows", laid_keepsake_geo_rows)], narrowed := true }
def SlotApartUptoSaid : Prop := slotApartUptoRow.holds Tryd.pinned (OpenSpec.upto slotApartSpec)

end Rows
end Go.Proofs.YtcbngmfbbdmlgaaDoor
