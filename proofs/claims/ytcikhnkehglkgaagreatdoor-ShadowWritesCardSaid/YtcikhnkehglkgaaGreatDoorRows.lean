/-
  NARROWER THAN 'FOR EVERY INPUT', by the rows' own cells (each row's printed sentence says how): ShadowTurns: laid · ShadowStale: laid · ShadowWrites: laid · ShadowFormat: laid · ShadowCrashes: laid · ShadowPlays: laid · ShadowTwice: laid.
  DERIVED. THE GIVEN ROWS OF THIS SEAT. 7 by the template 'for every input the law returns true; each argument reads behind the call as it read before'; 0 by the template 'total and deterministic' (their statements: YtcikhnkehglkgaaGreatDoorTotals.lean).
  GIVEN WITH THE SEED: the statements are not yours to turn. If you find one false, say at which input.
  Laid BY PROGRAM, IN A SANDBOX (cutbox-rows.mjs): the forced cells as the released guide's own fill.sh prints them over the translation bc60bd3b66b75727… (all of the seat's roots in one cut). By AI agents, Wed Nov 11 2026. No macro, syntax, notation, axiom, sorry.
-/
import Derived.Test.YtcikhnkehglkgaaGreatDoorChecked
import GoSem.Claim
import GoSem.ClaimJoined
import GoSem.ClaimMapViews
import Derived.JoinedTies
import Derived.KernelRfl
namespace Go.Proofs.YtcikhnkehglkgaaGreatDoor
/- THE CELL 'sum', in the pinned program and in every row, IS THE sha256 OF THE DUMP (.gsa) THAT YtcikhnkehglkgaaGreatDoorProg.lean LOADS. Nothing in Lean hashes anything: it is a label: what it is worth is what the hold of that sum in a sandbox is worth. -/
noncomputable def Tryz.pinned : Pinned := { name := "ytcikhnkehglkgaagreatdoor", sum := "bc60bd3b66b75727107040f85e6ac3664f664fd53c41075055a7d688cc4c41d0", checked := Tryz.checked }
namespace Rows
def none {H : Type} : Left H := { results := [], args := [] }

/- WHAT THE LISTED PACKAGE-LEVEL VARIABLES READ AS WHEN THE CALL BEGINS. Each datum BY PROGRAM (the guide's laid-datum.mjs) off the statement by which the dump's own 'gosem.cut.vars' lays the variable. In a bare row this is a premise. The card (YtcikhnkehglkgaaGreatDoorCards.lean) ties it to the program's text. -/
def laid_keepsake_geo_rows {H : Type} : DataW H := .agg [.agg [.lit (.int .i64 0), .lit (.int .i64 0), .lit (.int .i64 0), .lit (.int .i64 0)], .agg [.lit (.int .i64 7), .lit (.int .i64 3), .lit (.int .i64 1), .lit (.int .i64 0)], .agg [.lit (.int .i64 8), .lit (.int .i64 3), .lit (.int .i64 1), .lit (.int .i64 0)], .agg [.lit (.int .i64 9), .lit (.int .i64 4), .lit (.int .i64 1), .lit (.int .i64 1)], .agg [.lit (.int .i64 10), .lit (.int .i64 4), .lit (.int .i64 1), .lit (.int .i64 2)], .agg [.lit (.int .i64 11), .lit (.int .i64 4), .lit (.int .i64 1), .lit (.int .i64 3)], .agg [.lit (.int .i64 12), .lit (.int .i64 5), .lit (.int .i64 2), .lit (.int .i64 0)], .agg [.lit (.int .i64 13), .lit (.int .i64 5), .lit (.int .i64 2), .lit (.int .i64 0)], .agg [.lit (.int .i64 14), .lit (.int .i64 6), .lit (.int .i64 2), .lit (.int .i64 0)], .agg [.lit (.int .i64 15), .lit (.int .i64 6), .lit (.int .i64 2), .lit (.int .i64 0)], .agg [.lit (.int .i64 16), .lit (.int .i64 7), .lit (.int .i64 2), .lit (.int .i64 0)]]

/-- 'keepsakelaw07.ShadowTurns': WHATEVER THE INPUT: true; the input reads as it did. -/
def shadowTurnsSpec : ChangeSpec := { name := "shadowTurns", fn := fun _ => fun
  | [d1, d2, d3] => { results := [.lit (.bool true)], args := [d1, d2, d3] }
  | _ => none }
def shadowTurnsRow : OpenClaim := { program := "ytcikhnkehglkgaagreatdoor", sum := "bc60bd3b66b75727107040f85e6ac3664f664fd53c41075055a7d688cc4c41d0", func := "keepsake/keepsakelaw07.ShadowTurns", spec := "shadowTurns", inPlace := ["internal/bytealg.MakeNoZero"], unfollowed := true, recurses := true, named := ["keepsake/geo.rows"], apart := false, laid := [("keepsake/geo.rows", laid_keepsake_geo_rows)] }
def ShadowTurnsSaid : Prop := shadowTurnsRow.holds Tryz.pinned (OpenSpec.ofChange shadowTurnsSpec)

/-- ITS FALSE NEIGHBOUR: 'it returns false'. Refute it at one input. -/
def shadowTurnsWrong : ChangeSpec := { name := "shadowTurns", fn := fun _ => fun
  | [d1, d2, d3] => { results := [.lit (.bool false)], args := [d1, d2, d3] }
  | _ => none }
def ShadowTurnsWrongFalsely : Prop := shadowTurnsRow.holds Tryz.pinned (OpenSpec.ofChange shadowTurnsWrong)

/-- 'keepsakelaw07.ShadowStale': WHATEVER THE INPUT: true; the input reads as it did. -/
def shadowStaleSpec : ChangeSpec := { name := "shadowStale", fn := fun _ => fun
  | [d1, d2, d3] => { results := [.lit (.bool true)], args := [d1, d2, d3] }
  | _ => none }
def shadowStaleRow : OpenClaim := { program := "ytcikhnkehglkgaagreatdoor", sum := "bc60bd3b66b75727107040f85e6ac3664f664fd53c41075055a7d688cc4c41d0", func := "keepsake/keepsakelaw07.ShadowStale", spec := "shadowStale", inPlace := ["internal/bytealg.MakeNoZero"], unfollowed := true, recurses := true, named := ["keepsake/geo.rows"], apart := false, laid := [("keepsake/geo.rows", laid_keepsake_geo_rows)] }
def ShadowStaleSaid : Prop := shadowStaleRow.holds Tryz.pinned (OpenSpec.ofChange shadowStaleSpec)

/-- ITS FALSE NEIGHBOUR: 'it returns false'. Refute it at one input. -/
def shadowStaleWrong : ChangeSpec := { name := "shadowStale", fn := fun _ => fun
  | [d1, d2, d3] => { results := [.lit (.bool false)], args := [d1, d2, d3] }
  | _ => none }
def ShadowStaleWrongFalsely : Prop := shadowStaleRow.holds Tryz.pinned (OpenSpec.ofChange shadowStaleWrong)

/-- 'keepsakelaw07.ShadowWrites': WHATEVER THE INPUT: true; the input reads as it did. -/
def shadowWritesSpec : ChangeSpec := { name := "shadowWrites", fn := fun _ => fun
  | [d1, d2, d3, d4] => { results := [.lit (.bool true)], args := [d1, d2, d3, d4] }
  | _ => none }
def shadowWritesRow : OpenClaim := { program := "ytcikhnkehglkgaagreatdoor", sum := "bc60bd3b66b75727107040f85e6ac3664f664fd53c41075055a7d688cc4c41d0", func := "keepsake/keepsakelaw07.ShadowWrites", spec := "shadowWrites", inPlace := ["internal/bytealg.MakeNoZero"], unfollowed := true, recurses := true, named := ["keepsake/geo.rows"], apart := false, laid := [("keepsake/geo.rows", laid_keepsake_geo_rows)] }
def ShadowWritesSaid : Prop := shadowWritesRow.holds Tryz.pinned (OpenSpec.ofChange shadowWritesSpec)

/-- ITS FALSE NEIGHBOUR: 'it returns false'. Refute it at one input. -/
def shadowWritesWrong : ChangeSpec := { name := "shadowWrites", fn := fun _ => fun
  | [d1, d2, d3, d4] => { results := [.lit (.bool false)], args := [d1, d2, d3, d4] }
  | _ => none }
def ShadowWritesWrongFalsely : Prop := shadowWritesRow.holds Tryz.pinned (OpenSpec.ofChange shadowWritesWrong)

/-- 'keepsakelaw07.ShadowFormat': WHATEVER THE INPUT: true; the input reads as it did. -/
def shadowFormatSpec : ChangeSpec := { name := "shadowFormat", fn := fun _ => fun
  | [d1, d2, d3, d4, d5] => { results := [.lit (.bool true)], args := [d1, d2, d3, d4, d5] }
  | _ => none }
def shadowFormatRow : OpenClaim := { program := "ytcikhnkehglkgaagreatdoor", sum := "bc60bd3b66b75727107040f85e6ac3664f664fd53c41075055a7d688cc4c41d0", func := "keepsake/keepsakelaw07.ShadowFormat", spec := "shadowFormat", inPlace := ["internal/bytealg.MakeNoZero"], unfollowed := true, recurses := true, named := ["keepsake/geo.rows"], apart := false, laid := [("keepsake/geo.rows", laid_keepsake_geo_rows)] }
def ShadowFormatSaid : Prop := shadowFormatRow.holds Tryz.pinned (OpenSpec.ofChange shadowFormatSpec)

/-- ITS FALSE NEIGHBOUR: 'it returns false'. Refute it at one input. -/
def shadowFormatWrong : ChangeSpec := { name := "shadowFormat", fn := fun _ => fun
  | [d1, d2, d3, d4, d5] => { results := [.lit (.bool false)], args := [d1, d2, d3, d4, d5] }
  | _ => none }
def ShadowFormatWrongFalsely : Prop := shadowFormatRow.holds Tryz.pinned (OpenSpec.ofChange shadowFormatWrong)

/-- 'keepsakelaw07.ShadowCrashes': WHATEVER THE INPUT: true; the input reads as it did. -/
def shadowCrashesSpec : ChangeSpec := { name := "shadowCrashes", fn := fun _ => fun
  | [d1, d2, d3] => { results := [.lit (.bool true)], args := [d1, d2, d3] }
  | _ => none }
def shadowCrashesRow : OpenClaim := { program := "ytcikhnkehglkgaagreatdoor", sum := "bc60bd3b66b75727107040f85e6ac3664f664fd53c41075055a7d688cc4c41d0", func := "keepsake/keepsakelaw07.ShadowCrashes", spec := "shadowCrashes", inPlace := ["internal/bytealg.MakeNoZero"], unfollowed := true, recurses := true, named := ["keepsake/geo.rows"], apart := false, laid := [("keepsake/geo.rows", laid_keepsake_geo_rows)] }
def ShadowCrashesSaid : Prop := shadowCrashesRow.holds Tryz.pinned (OpenSpec.ofChange shadowCrashesSpec)

/-- ITS FALSE NEIGHBOUR: 'it returns false'. Refute it at one input. -/
def shadowCrashesWrong : ChangeSpec := { name := "shadowCrashes", fn := fun _ => fun
  | [d1, d2, d3] => { results := [.lit (.bool false)], args := [d1, d2, d3] }
  | _ => none }
def ShadowCrashesWrongFalsely : Prop := shadowCrashesRow.holds Tryz.pinned (OpenSpec.ofChange shadowCrashesWrong)

/-- 'keepsakelaw07.ShadowPlays': WHATEVER THE INPUT: true; the input reads as it did. -/
def shadowPlaysSpec : ChangeSpec := { name := "shadowPlays", fn := fun _ => fun
  | [d1, d2, d3, d4] => { results := [.lit (.bool true)], args := [d1, d2, d3, d4] }
  | _ => none }
def shadowPlaysRow : OpenClaim := { program := "ytcikhnkehglkgaagreatdoor", sum := "bc60bd3b66b75727107040f85e6ac3664f664fd53c41075055a7d688cc4c41d0", func := "keepsake/keepsakelaw07.ShadowPlays", spec := "shadowPlays", inPlace := ["internal/bytealg.MakeNoZero"], unfollowed := true, recurses := true, named := ["keepsake/geo.rows"], apart := false, laid := [("keepsake/geo.rows", laid_keepsake_geo_rows)] }
def ShadowPlaysSaid : Prop := shadowPlaysRow.holds Tryz.pinned (OpenSpec.ofChange shadowPlaysSpec)

/-- ITS FALSE NEIGHBOUR: 'it returns false'. Refute it at one input. -/
def shadowPlaysWrong : ChangeSpec := { name := "shadowPlays", fn := fun _ => fun
  | [d1, d2, d3, d4] => { results := [.lit (.bool false)], args := [d1, d2, d3, d4] }
  | _ => none }
def ShadowPlaysWrongFalsely : Prop := shadowPlaysRow.holds Tryz.pinned (OpenSpec.ofChange shadowPlaysWrong)

/-- 'keepsakelaw07.ShadowTwice': WHATEVER THE INPUT: true; the input reads as it did. -/
def shadowTwiceSpec : ChangeSpec := { name := "shadowTwice", fn := fun _ => fun
  | [d1, d2, d3, d4, d5] => { results := [.lit (.bool true)], args := [d1, d2, d3, d4, d5] }
  | _ => none }
def shadowTwiceRow : OpenClaim := { program := "ytcikhnkehglkgaagreatdoor", sum := "bc60bd3b66b75727107040f85e6ac3664f664fd53c41075055a7d688cc4c41d0", func := "keepsake/keepsakelaw07.ShadowTwice", spec := "shadowTwice", inPlace := ["internal/bytealg.MakeNoZero"], unfollowed := true, recurses := true, named := ["keepsake/geo.rows"], apart := false, laid := [("keepsake/geo.rows", laid_keepsake_geo_rows)] }
def ShadowTwiceSaid : Prop := shadowTwiceRow.holds Tryz.pinned (OpenSpec.ofChange shadowTwiceSpec)

/-- ITS FALSE NEIGHBOUR: 'it returns false'. Refute it at one input. -/
def shadowTwiceWrong : ChangeSpec := { name := "shadowTwice", fn := fun _ => fun
  | [d1, d2, d3, d4, d5] => { results := [.lit (.bool false)], args := [d1, d2, d3, d4, d5] }
  | _ => none }
def ShadowTwiceWrongFalsely : Prop := shadowTwiceRow.holds Tryz.pinned (OpenSpec.ofChange shadowTwiceWrong)

/- THE SECOND FORM. 'bulk': how many values and letters a reading holds, each counted each time it is reached (what is shared counts as often as it is met; a slice's spare places count too). A statement '..UptoSaid' is the law's where the arguments, and the package variables that the reading takes, are together of bulk at most 1048576: NARROWER than '..Said'. Prove '..Said' where nothing that the law and all that it calls make is longer than what came in: it says more and counts as full. Else prove '..UptoSaid'. A law counts once. -/
mutual
def uptoBulk {H : Type} : DataW H → Nat
  | .lit (.string bytes) => bytes.length + 1
  | .lit _ => 1
  | .nil => 1
  | .ptr d => uptoBulk d + 1
  | .slice elems spare => uptoBulkAll elems + uptoBulkAll spare + 1
  | .agg parts => uptoBulkAll parts + 1
  | .iface _ d => uptoBulk d + 1
  | .map entries => uptoBulkEntries entries + 1
  | .held _ => 1
def uptoBulkAll {H : Type} : List (DataW H) → Nat
  | [] => 0
  | d :: r => uptoBulk d + uptoBulkAll r
def uptoBulkEntries {H : Type} : List (Lit × DataW H) → Nat
  | [] => 0
  | x :: r => uptoBulkEntry x + uptoBulkEntries r
def uptoBulkEntry {H : Type} : Lit × DataW H → Nat
  | (.string bytes, d) => bytes.length + uptoBulk d + 1
  | (_, d) => uptoBulk d + 1
 end
def uptoSmall : (H : Type) → List (DataW H) → Bool := fun _ ds => decide (uptoBulkAll ds ≤ 1048576)
def OpenSpec.upto (s : _root_.Go.ChangeSpec) : _root_.Go.OpenSpec := { _root_.Go.OpenSpec.ofChange s with cond := some uptoSmall }

/-- 'keepsakelaw07.ShadowTurns', WHERE WHAT IT READS IS OF BULK AT MOST 1048576: true; the input reads as it did. -/
def shadowTurnsUptoRow : OpenClaim := { program := "ytcikhnkehglkgaagreatdoor", sum := "bc60bd3b66b75727107040f85e6ac3664f664fd53c41075055a7d688cc4c41d0", func := "keepsake/keepsakelaw07.ShadowTurns", spec := "shadowTurns", inPlace := ["internal/bytealg.MakeNoZero"], unfollowed := true, recurses := true, named := ["keepsake/geo.rows"], apart := false, laid := [("keepsake/geo.rows", laid_keepsake_geo_rows)], narrowed := true }
def ShadowTurnsUptoSaid : Prop := shadowTurnsUptoRow.holds Tryz.pinned (OpenSpec.upto shadowTurnsSpec)

/-- 'keepsakelaw07.ShadowStale', WHERE WHAT IT READS IS OF BULK AT MOST 1048576: true; the input reads as it did. -/
def shadowStaleUptoRow : OpenClaim := { program := "ytcikhnkehglkgaagreatdoor", sum := "bc60bd3b66b75727107040f85e6ac3664f664fd53c41075055a7d688cc4c41d0", func := "keepsake/keepsakelaw07.ShadowStale", spec := "shadowStale", inPlace := ["internal/bytealg.MakeNoZero"], unfollowed := true, recurses := true, named := ["keepsake/geo.rows"], apart := false, laid := [("keepsake/geo.rows", laid_keepsake_geo_rows)], narrowed := true }
def ShadowStaleUptoSaid : Prop := shadowStaleUptoRow.holds Tryz.pinned (OpenSpec.upto shadowStaleSpec)

/-- 'keepsakelaw07.ShadowWrites', WHERE WHAT IT READS IS OF BULK AT MOST 1048576: true; the input reads as it did. -/
def shadowWritesUptoRow : OpenClaim := { program := "ytcikhnkehglkgaagreatdoor", sum := "bc60bd3b66b75727107040f85e6ac3664f664fd53c41075055a7d688cc4c41d0", func := "keepsake/keepsakelaw07.ShadowWrites", spec := "shadowWrites", inPlace := ["internal/bytealg.MakeNoZero"], unfollowed := true, recurses := true, named := ["keepsake/geo.rows"], apart := false, laid := [("keepsake/geo.rows", laid_keepsake_geo_rows)], narrowed := true }
def ShadowWritesUptoSaid : Prop := shadowWritesUptoRow.holds Tryz.pinned (OpenSpec.upto shadowWritesSpec)

/-- 'keepsakelaw07.ShadowFormat', WHERE WHAT IT READS IS OF BULK AT MOST 1048576: true; the input reads as it did. -/
def shadowFormatUptoRow : OpenClaim := { program := "ytcikhnkehglkgaagreatdoor", sum := "bc60bd3b66b75727107040f85e6ac3664f664fd53c41075055a7d688cc4c41d0", func := "keepsake/keepsakelaw07.ShadowFormat", spec := "shadowFormat", inPlace := ["internal/bytealg.MakeNoZero"], unfollowed := true, recurses := true, named := ["keepsake/geo.rows"], apart := false, laid := [("keepsake/geo.rows", laid_keepsake_geo_rows)], narrowed := true }
def ShadowFormatUptoSaid : Prop := shadowFormatUptoRow.holds Tryz.pinned (OpenSpec.upto shadowFormatSpec)

/-- 'keepsakelaw07.ShadowCrashes', WHERE WHAT IT READS IS OF BULK AT MOST 1048576: true; the input reads as it did. -/
def shadowCrashesUptoRow : OpenClaim := { program := "ytcikhnkehglkgaagreatdoor", sum := "bc60bd3b66b75727107040f85e6ac3664f664fd53c41075055a7d688cc4c41d0", func := "keepsake/keepsakelaw07.ShadowCrashes", spec := "shadowCrashes", inPlace := ["internal/bytealg.MakeNoZero"], unfollowed := true, recurses := true, named := ["keepsake/geo.rows"], apart := false, laid := [("keepsake/geo.rows", laid_keepsake_geo_rows)], narrowed := true }
def ShadowCrashesUptoSaid : Prop := shadowCrashesUptoRow.holds Tryz.pinned (OpenSpec.upto shadowCrashesSpec)

/-- 'keepsakelaw07.ShadowPlays', WHERE WHAT IT READS IS OF BULK AT MOST 1048576: true; the input reads as it did. -/
def shadowPlaysUptoRow : OpenClaim := { program := "ytcikhnkehglkgaagreatdoor", sum := "bc60bd3b66b75727107040f85e6ac3664f664fd53c41075055a7d688cc4c41d0", func := "keepsake/keepsakelaw07.ShadowPlays", spec := "shadowPlays", inPlace := ["internal/bytealg.MakeNoZero"], unfollowed := true, recurses := true, named := ["keepsake/geo.rows"], apart := false, laid := [("keepsake/geo.rows", laid_keepsake_geo_rows)], narrowed := true }
def ShadowPlaysUptoSaid : Prop := shadowPlaysUptoRow.holds Tryz.pinned (OpenSpec.upto shadowPlaysSpec)

/-- 'keepsakelaw07.ShadowTwice', WHERE WHAT IT READS IS OF BULK AT MOST 1048576: true; the input reads as it did. -/
def shadowTwiceUptoRow : OpenClaim := { program := "ytcikhnkehglkgaagreatdoor", sum := "bc60bd3b66b75727107040f85e6ac3664f664fd53c41075055a7d688cc4c41d0", func := "keepsake/keepsakelaw07.ShadowTwice", spec := "shadowTwice", inPlace := ["internal/bytealg.MakeNoZero"], unfollowed := true, recurses := true, named := ["keepsake/geo.rows"], apart := false, laid := [("keepsake/geo.rows", laid_keepsake_geo_rows)], narrowed := true }
def ShadowTwiceUptoSaid : Prop := shadowTwiceUptoRow.holds Tryz.pinned (OpenSpec.upto shadowTwiceSpec)

end Rows
end Go.Proofs.YtcikhnkehglkgaaGreatDoor
