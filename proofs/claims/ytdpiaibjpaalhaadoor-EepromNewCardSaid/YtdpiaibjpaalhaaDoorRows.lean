/-
  NARROWER THAN 'FOR EVERY INPUT', by the rows' own cells (each row's printed sentence says how): EepromWrites: laid · EepromReads: laid · EepromBusy: laid · EepromIdle: laid · EepromPlays: laid · EepromNew: laid · EepromCut: laid.
  DERIVED. THE GIVEN ROWS OF THIS SEAT. 7 by the template 'for every input the law returns true; each argument reads behind the call as it read before'; 0 by the template 'total and deterministic' (their statements: YtdpiaibjpaalhaaDoorTotals.lean).
  GIVEN WITH THE SEED: the statements are not yours to turn. If you find one false, say at which input.
  Laid BY PROGRAM, IN A SANDBOX (cutbox-rows.mjs): the forced cells as the released guide's own fill.sh prints them over the translation 81215f71752ded24… (all of the seat's roots in one cut). By AI agents, Wed Nov 11 2026. No macro, syntax, notation, axiom, sorry.
-/
import Derived.Test.YtdpiaibjpaalhaaDoorChecked
import GoSem.Claim
import GoSem.ClaimJoined
import GoSem.ClaimMapViews
import Derived.JoinedTies
import Derived.KernelRfl
namespace Go.Proofs.YtdpiaibjpaalhaaDoor
/- THE CELL 'sum', in the pinned program and in every row, IS THE sha256 OF THE DUMP (.gsa) THAT YtdpiaibjpaalhaaDoorProg.lean LOADS. Nothing in Lean hashes anything: it is a label: what it is worth is what the hold of that sum in a sandbox is worth. -/
noncomputable def Tryd.pinned : Pinned := { name := "ytdpiaibjpaalhaadoor", sum := "81215f71752ded249430213261832037d87c99249a481cdc9c207ca795689462", checked := Tryd.checked }
namespace Rows
def none {H : Type} : Left H := { results := [], args := [] }

/- WHAT THE LISTED PACKAGE-LEVEL VARIABLES READ AS WHEN THE CALL BEGINS. Each datum BY PROGRAM (the guide's laid-datum.mjs) off the statement by which the dump's own 'gosem.cut.vars' lays the variable. In a bare row this is a premise. The card (YtdpiaibjpaalhaaDoorCards.lean) ties it to the program's text. -/
def laid_keepsake_geo_rows {H : Type} : DataW H := .agg [.agg [.lit (.int .i64 0), .lit (.int .i64 0), .lit (.int .i64 0), .lit (.int .i64 0)], .agg [.lit (.int .i64 7), .lit (.int .i64 3), .lit (.int .i64 1), .lit (.int .i64 0)], .agg [.lit (.int .i64 8), .lit (.int .i64 3), .lit (.int .i64 1), .lit (.int .i64 0)], .agg [.lit (.int .i64 9), .lit (.int .i64 4), .lit (.int .i64 1), .lit (.int .i64 1)], .agg [.lit (.int .i64 10), .lit (.int .i64 4), .lit (.int .i64 1), .lit (.int .i64 2)], .agg [.lit (.int .i64 11), .lit (.int .i64 4), .lit (.int .i64 1), .lit (.int .i64 3)], .agg [.lit (.int .i64 12), .lit (.int .i64 5), .lit (.int .i64 2), .lit (.int .i64 0)], .agg [.lit (.int .i64 13), .lit (.int .i64 5), .lit (.int .i64 2), .lit (.int .i64 0)], .agg [.lit (.int .i64 14), .lit (.int .i64 6), .lit (.int .i64 2), .lit (.int .i64 0)], .agg [.lit (.int .i64 15), .lit (.int .i64 6), .lit (.int .i64 2), .lit (.int .i64 0)], .agg [.lit (.int .i64 16), .lit (.int .i64 7), .lit (.int .i64 2), .lit (.int .i64 0)]]

/-- 'keepsakelaw10.EepromWrites': WHATEVER THE INPUT: true; the input reads as it did. -/
def eepromWritesSpec : ChangeSpec := { name := "eepromWrites", fn := fun _ => fun
  | [d1, d2, d3, d4] => { results := [.lit (.bool true)], args := [d1, d2, d3, d4] }
  | _ => none }
def eepromWritesRow : OpenClaim := { program := "ytdpiaibjpaalhaadoor", sum := "81215f71752ded249430213261832037d87c99249a481cdc9c207ca795689462", func := "keepsake/keepsakelaw10.EepromWrites", spec := "eepromWrites", unfollowed := true, recurses := true, named := ["keepsake/geo.rows"], apart := false, laid := [("keepsake/geo.rows", laid_keepsake_geo_rows)] }
def EepromWritesSaid : Prop := eepromWritesRow.holds Tryd.pinned (OpenSpec.ofChange eepromWritesSpec)

/-- ITS FALSE NEIGHBOUR: 'it returns false'. Refute it at one input. -/
def eepromWritesWrong : ChangeSpec := { name := "eepromWrites", fn := fun _ => fun
  | [d1, d2, d3, d4] => { results := [.lit (.bool false)], args := [d1, d2, d3, d4] }
  | _ => none }
def EepromWritesWrongFalsely : Prop := eepromWritesRow.holds Tryd.pinned (OpenSpec.ofChange eepromWritesWrong)

/-- 'keepsakelaw10.EepromReads': WHATEVER THE INPUT: true; the input reads as it did. -/
def eepromReadsSpec : ChangeSpec := { name := "eepromReads", fn := fun _ => fun
  | [d1, d2, d3, d4] => { results := [.lit (.bool true)], args := [d1, d2, d3, d4] }
  | _ => none }
def eepromReadsRow : OpenClaim := { program := "ytdpiaibjpaalhaadoor", sum := "81215f71752ded249430213261832037d87c99249a481cdc9c207ca795689462", func := "keepsake/keepsakelaw10.EepromReads", spec := "eepromReads", unfollowed := true, recurses := true, named := ["keepsake/geo.rows"], apart := false, laid := [("keepsake/geo.rows", laid_keepsake_geo_rows)] }
def EepromReadsSaid : Prop := eepromReadsRow.holds Tryd.pinned (OpenSpec.ofChange eepromReadsSpec)

/-- ITS FALSE NEIGHBOUR: 'it returns false'. Refute it at one input. -/
def eepromReadsWrong : ChangeSpec := { name := "eepromReads", fn := fun _ => fun
  | [d1, d2, d3, d4] => { results := [.lit (.bool false)], args := [d1, d2, d3, d4] }
  | _ => none }
def EepromReadsWrongFalsely : Prop := eepromReadsRow.holds Tryd.pinned (OpenSpec.ofChange eepromReadsWrong)

/-- 'keepsakelaw10.EepromBusy': WHATEVER THE INPUT: true; the input reads as it did. -/
def eepromBusySpec : ChangeSpec := { name := "eepromBusy", fn := fun _ => fun
  | [d1, d2, d3, d4] => { results := [.lit (.bool true)], args := [d1, d2, d3, d4] }
  | _ => none }
def eepromBusyRow : OpenClaim := { program := "ytdpiaibjpaalhaadoor", sum := "81215f71752ded249430213261832037d87c99249a481cdc9c207ca795689462", func := "keepsake/keepsakelaw10.EepromBusy", spec := "eepromBusy", unfollowed := true, recurses := true, named := ["keepsake/geo.rows"], apart := false, laid := [("keepsake/geo.rows", laid_keepsake_geo_rows)] }
def EepromBusySaid : Prop := eepromBusyRow.holds Tryd.pinned (OpenSpec.ofChange eepromBusySpec)

/-- ITS FALSE NEIGHBOUR: 'it returns false'. Refute it at one input. -/
def eepromBusyWrong : ChangeSpec := { name := "eepromBusy", fn := fun _ => fun
  | [d1, d2, d3, d4] => { results := [.lit (.bool false)], args := [d1, d2, d3, d4] }
  | _ => none }
def EepromBusyWrongFalsely : Prop := eepromBusyRow.holds Tryd.pinned (OpenSpec.ofChange eepromBusyWrong)

/-- 'keepsakelaw10.EepromIdle': WHATEVER THE INPUT: true; the input reads as it did. -/
def eepromIdleSpec : ChangeSpec := { name := "eepromIdle", fn := fun _ => fun
  | [d1, d2, d3] => { results := [.lit (.bool true)], args := [d1, d2, d3] }
  | _ => none }
def eepromIdleRow : OpenClaim := { program := "ytdpiaibjpaalhaadoor", sum := "81215f71752ded249430213261832037d87c99249a481cdc9c207ca795689462", func := "keepsake/keepsakelaw10.EepromIdle", spec := "eepromIdle", unfollowed := true, recurses := true, named := ["keepsake/geo.rows"], apart := false, laid := [("keepsake/geo.rows", laid_keepsake_geo_rows)] }
def EepromIdleSaid : Prop := eepromIdleRow.holds Tryd.pinned (OpenSpec.ofChange eepromIdleSpec)

/-- ITS FALSE NEIGHBOUR: 'it returns false'. Refute it at one input. -/
def eepromIdleWrong : ChangeSpec := { name := "eepromIdle", fn := fun _ => fun
  | [d1, d2, d3] => { results := [.lit (.bool false)], args := [d1, d2, d3] }
  | _ => none }
def EepromIdleWrongFalsely : Prop := eepromIdleRow.holds Tryd.pinned (OpenSpec.ofChange eepromIdleWrong)

/-- 'keepsakelaw10.EepromPlays': WHATEVER THE INPUT: true; the input reads as it did. -/
def eepromPlaysSpec : ChangeSpec := { name := "eepromPlays", fn := fun _ => fun
  | [d1, d2, d3] => { results := [.lit (.bool true)], args := [d1, d2, d3] }
  | _ => none }
def eepromPlaysRow : OpenClaim := { program := "ytdpiaibjpaalhaadoor", sum := "81215f71752ded249430213261832037d87c99249a481cdc9c207ca795689462", func := "keepsake/keepsakelaw10.EepromPlays", spec := "eepromPlays", unfollowed := true, recurses := true, named := ["keepsake/geo.rows"], apart := false, laid := [("keepsake/geo.rows", laid_keepsake_geo_rows)] }
def EepromPlaysSaid : Prop := eepromPlaysRow.holds Tryd.pinned (OpenSpec.ofChange eepromPlaysSpec)

/-- ITS FALSE NEIGHBOUR: 'it returns false'. Refute it at one input. -/
def eepromPlaysWrong : ChangeSpec := { name := "eepromPlays", fn := fun _ => fun
  | [d1, d2, d3] => { results := [.lit (.bool false)], args := [d1, d2, d3] }
  | _ => none }
def EepromPlaysWrongFalsely : Prop := eepromPlaysRow.holds Tryd.pinned (OpenSpec.ofChange eepromPlaysWrong)

/-- 'keepsakelaw10.EepromNew': WHATEVER THE INPUT: true; the input reads as it did. -/
def eepromNewSpec : ChangeSpec := { name := "eepromNew", fn := fun _ => fun
  | [d1, d2, d3] => { results := [.lit (.bool true)], args := [d1, d2, d3] }
  | _ => none }
def eepromNewRow : OpenClaim := { program := "ytdpiaibjpaalhaadoor", sum := "81215f71752ded249430213261832037d87c99249a481cdc9c207ca795689462", func := "keepsake/keepsakelaw10.EepromNew", spec := "eepromNew", unfollowed := true, recurses := true, named := ["keepsake/geo.rows"], apart := false, laid := [("keepsake/geo.rows", laid_keepsake_geo_rows)] }
def EepromNewSaid : Prop := eepromNewRow.holds Tryd.pinned (OpenSpec.ofChange eepromNewSpec)

/-- ITS FALSE NEIGHBOUR: 'it returns false'. Refute it at one input. -/
def eepromNewWrong : ChangeSpec := { name := "eepromNew", fn := fun _ => fun
  | [d1, d2, d3] => { results := [.lit (.bool false)], args := [d1, d2, d3] }
  | _ => none }
def EepromNewWrongFalsely : Prop := eepromNewRow.holds Tryd.pinned (OpenSpec.ofChange eepromNewWrong)

/-- 'keepsakelaw10.EepromCut': WHATEVER THE INPUT: true; the input reads as it did. -/
def eepromCutSpec : ChangeSpec := { name := "eepromCut", fn := fun _ => fun
  | [d1, d2, d3, d4] => { results := [.lit (.bool true)], args := [d1, d2, d3, d4] }
  | _ => none }
def eepromCutRow : OpenClaim := { program := "ytdpiaibjpaalhaadoor", sum := "81215f71752ded249430213261832037d87c99249a481cdc9c207ca795689462", func := "keepsake/keepsakelaw10.EepromCut", spec := "eepromCut", unfollowed := true, recurses := true, named := ["keepsake/geo.rows"], apart := false, laid := [("keepsake/geo.rows", laid_keepsake_geo_rows)] }
def EepromCutSaid : Prop := eepromCutRow.holds Tryd.pinned (OpenSpec.ofChange eepromCutSpec)

/-- ITS FALSE NEIGHBOUR: 'it returns false'. Refute it at one input. -/
def eepromCutWrong : ChangeSpec := { name := "eepromCut", fn := fun _ => fun
  | [d1, d2, d3, d4] => { results := [.lit (.bool false)], args := [d1, d2, d3, d4] }
  | _ => none }
def EepromCutWrongFalsely : Prop := eepromCutRow.holds Tryd.pinned (OpenSpec.ofChange eepromCutWrong)

/- THE SECOND FORM. 'bulk': how many values and letters a reading holds, each counted each time it is reached (what is shared counts as often as it is met; a slice's spare places count too). A statement '..UptoSaid' is the law's where the arguments, and the package variables that the reading takes, are together of bulk at most 1048576: NARROWER than '..Said'. Prove '..Said' where nothing that the law and all that it calls make is longer than what came in: it says more and counts as full. Else prove '..UptoSaid'. A law counts once. -/
mutual
def uptoBulk {H : Type} : DataW H → Nat
  | .lit (.string bytes) => bytes.length + 1
  | .lit _ => 1
  | .nil => 1
  | .ptr d => uptoBulk d + 1
  | .slice elems spare => uptoBulkAll elems + uptoBulkAll spare + 1
  | .agg parts => uptoBulkAll parts + 1
  | .iface _ d => uptoBulk d + 1
  | .map entries => uptoBulkEntries entries + 1
  | .held _ => 1
def uptoBulkAll {H : Type} : List (DataW H) → Nat
  | [] => 0
  | d :: r => uptoBulk d + uptoBulkAll r
def uptoBulkEntries {H : Type} : List (Lit × DataW H) → Nat
  | [] => 0
  | x :: r => uptoBulkEntry x + uptoBulkEntries r
def uptoBulkEntry {H : Type} : Lit × DataW H → Nat
  | (.string bytes, d) => bytes.length + uptoBulk d + 1
  | (_, d) => uptoBulk d + 1
 end
def uptoSmall : (H : Type) → List (DataW H) → Bool := fun _ ds => decide (uptoBulkAll ds ≤ 1048576)
def OpenSpec.upto (s : _root_.Go.ChangeSpec) : _root_.Go.OpenSpec := { _root_.Go.OpenSpec.ofChange s with cond := some uptoSmall }

/-- 'keepsakelaw10.EepromWrites', WHERE WHAT IT READS IS OF BULK AT MOST 1048576: true; the input reads as it did. -/
def eepromWritesUptoRow : OpenClaim := { program := "ytdpiaibjpaalhaadoor", sum := "81215f71752ded249430213261832037d87c99249a481cdc9c207ca795689462", func := "keepsake/keepsakelaw10.EepromWrites", spec := "eepromWrites", unfollowed := true, recurses := true, named := ["keepsake/geo.rows"], apart := false, laid := [("keepsake/geo.rows", laid_keepsake_geo_rows)], narrowed := true }
def EepromWritesUptoSaid : Prop := eepromWritesUptoRow.holds Tryd.pinned (OpenSpec.upto eepromWritesSpec)

/-- 'keepsakelaw10.EepromReads', WHERE WHAT IT READS IS OF BULK AT MOST 1048576: true; the input reads as it did. -/
def eepromReadsUptoRow : OpenClaim := { program := "ytdpiaibjpaalhaadoor", sum := "81215f71752ded249430213261832037d87c99249a481cdc9c207ca795689462", func := "keepsake/keepsakelaw10.EepromReads", spec := "eepromReads", unfollowed := true, recurses := true, named := ["keepsake/geo.rows"], apart := false, laid := [("keepsake/geo.rows", laid_keepsake_geo_rows)], narrowed := true }
def EepromReadsUptoSaid : Prop := eepromReadsUptoRow.holds Tryd.pinned (OpenSpec.upto eepromReadsSpec)

/-- 'keepsakelaw10.EepromBusy', WHERE WHAT IT READS IS OF BULK AT MOST 1048576: true; the input reads as it did. -/
def eepromBusyUptoRow : OpenClaim := { program := "ytdpiaibjpaalhaadoor", sum := "81215f71752ded249430213261832037d87c99249a481cdc9c207ca795689462", func := "keepsake/keepsakelaw10.EepromBusy", spec := "eepromBusy", unfollowed := true, recurses := true, named := ["keepsake/geo.rows"], apart := false, laid := [("keepsake/geo.rows", laid_keepsake_geo_rows)], narrowed := true }
def EepromBusyUptoSaid : Prop := eepromBusyUptoRow.holds Tryd.pinned (OpenSpec.upto eepromBusySpec)

/-- 'keepsakelaw10.EepromIdle', WHERE WHAT IT READS IS OF BULK AT MOST 1048576: true; the input reads as it did. -/
def eepromIdleUptoRow : OpenClaim := { program := "ytdpiaibjpaalhaadoor", sum := "81215f71752ded249430213261832037d87c99249a481cdc9c207ca795689462", func := "keepsake/keepsakelaw10.EepromIdle", spec := "eepromIdle", unfollowed := true, recurses := true, named := ["keepsake/geo.rows"], apart := false, laid := [("keepsake/geo.rows", laid_keepsake_geo_rows)], narrowed := true }
def EepromIdleUptoSaid : Prop := eepromIdleUptoRow.holds Tryd.pinned (OpenSpec.upto eepromIdleSpec)

/-- 'keepsakelaw10.EepromPlays', WHERE WHAT IT READS IS OF BULK AT MOST 1048576: true; the input reads as it did. -/
def eepromPlaysUptoRow : OpenClaim := { program := "ytdpiaibjpaalhaadoor", sum := "81215f71752ded249430213261832037d87c99249a481cdc9c207ca795689462", func := "keepsake/keepsakelaw10.EepromPlays", spec := "eepromPlays", unfollowed := true, recurses := true, named := ["keepsake/geo.rows"], apart := false, laid := [("keepsake/geo.rows", laid_keepsake_geo_rows)], narrowed := true }
def EepromPlaysUptoSaid : Prop := eepromPlaysUptoRow.holds Tryd.pinned (OpenSpec.upto eepromPlaysSpec)

/-- 'keepsakelaw10.EepromNew', WHERE WHAT IT READS IS OF BULK AT MOST 1048576: true; the input reads as it did. -/
def eepromNewUptoRow : OpenClaim := { program := "ytdpiaibjpaalhaadoor", sum := "81215f71752ded249430213261832037d87c99249a481cdc9c207ca795689462", func := "keepsake/keepsakelaw10.EepromNew", spec := "eepromNew", unfollowed := true, recurses := true, named := ["keepsake/geo.rows"], apart := false, laid := [("keepsake/geo.rows", laid_keepsake_geo_rows)], narrowed := true }
def EepromNewUptoSaid : Prop := eepromNewUptoRow.holds Tryd.pinned (OpenSpec.upto eepromNewSpec)

/-- 'keepsakelaw10.EepromCut', WHERE WHAT IT READS IS OF BULK AT MOST 1048576: true; the input reads as it did. -/
def eepromCutUptoRow : OpenClaim := { program := "ytdpiaibjpaalhaadoor", sum := "81215f71752ded249430213261832037d87c99249a481cdc9c207ca795689462", func := "keepsake/keepsakelaw10.EepromCut", spec := "eepromCut", unfollowed := true, recurses := true, named := ["keepsake/geo.rows"], apart := false, laid := [("keepsake/geo.rows", laid_keepsake_geo_rows)], narrowed := true }
def EepromCutUptoSaid : Prop := eepromCutUptoRow.holds Tryd.pinned (OpenSpec.upto eepromCutSpec)

end Rows
end Go.Proofs.YtdpiaibjpaalhaaDoor
