/-
  No cell of these rows narrows 'for every input' (looked for: loops, veiled, ifaces, maps, wideKeys, modest, calm, conditions, laid).
  DERIVED. THE GIVEN ROWS OF THIS SEAT. 8 by the template 'for every input the law returns true; each argument reads behind the call as it read before'; 0 by the template 'total and deterministic' (their statements: YtmiihcaccejklaaTotals.lean).
  GIVEN WITH THE SEED: the statements are not yours to turn. If you find one false, say at which input.
  Laid BY PROGRAM, IN A SANDBOX (cutbox-rows.mjs): the forced cells as the released guide's own fill.sh prints them over the translation b63a33ad11b7bad8… (all of the seat's roots in one cut). By AI agents, Wed Nov 11 2026. No macro, syntax, notation, axiom, sorry.
-/
import Derived.Test.YtmiihcaccejklaaChecked
import GoSem.Claim
import GoSem.ClaimJoined
import GoSem.ClaimMapViews
import Derived.JoinedTies
import Derived.KernelRfl
namespace Go.Proofs.Ytmiihcaccejklaa
/- THE CELL 'sum', in the pinned program and in every row, IS THE sha256 OF THE DUMP (.gsa) THAT YtmiihcaccejklaaProg.lean LOADS. Nothing in Lean hashes anything: it is a label: what it is worth is what the hold of that sum in a sandbox is worth. -/
noncomputable def Try.pinned : Pinned := { name := "ytmiihcaccejklaa", sum := "b63a33ad11b7bad858d996cebaab456d7f33e954a69a106b209473534adb4b46", checked := Try.checked }
namespace Rows
def none {H : Type} : Left H := { results := [], args := [] }

/-- 'keepsakelaw15.EffectBranches': WHATEVER THE INPUT: true; the input reads as it did. -/
def effectBranchesSpec : ChangeSpec := { name := "effectBranches", fn := fun _ => fun
  | [d1, d2] => { results := [.lit (.bool true)], args := [d1, d2] }
  | _ => none }
def effectBranchesRow : OpenClaim := { program := "ytmiihcaccejklaa", sum := "b63a33ad11b7bad858d996cebaab456d7f33e954a69a106b209473534adb4b46", func := "keepsake/keepsakelaw15.EffectBranches", spec := "effectBranches", unfollowed := true, recurses := true, apart := false }
def EffectBranchesSaid : Prop := effectBranchesRow.holds Try.pinned (OpenSpec.ofChange effectBranchesSpec)

/-- ITS FALSE NEIGHBOUR: 'it returns false'. Refute it at one input. -/
def effectBranchesWrong : ChangeSpec := { name := "effectBranches", fn := fun _ => fun
  | [d1, d2] => { results := [.lit (.bool false)], args := [d1, d2] }
  | _ => none }
def EffectBranchesWrongFalsely : Prop := effectBranchesRow.holds Try.pinned (OpenSpec.ofChange effectBranchesWrong)

/-- 'keepsakelaw15.EffectModifies': WHATEVER THE INPUT: true; the input reads as it did. -/
def effectModifiesSpec : ChangeSpec := { name := "effectModifies", fn := fun _ => fun
  | [d1, d2, d3, d4, d5] => { results := [.lit (.bool true)], args := [d1, d2, d3, d4, d5] }
  | _ => none }
def effectModifiesRow : OpenClaim := { program := "ytmiihcaccejklaa", sum := "b63a33ad11b7bad858d996cebaab456d7f33e954a69a106b209473534adb4b46", func := "keepsake/keepsakelaw15.EffectModifies", spec := "effectModifies", unfollowed := true, recurses := true, apart := false }
def EffectModifiesSaid : Prop := effectModifiesRow.holds Try.pinned (OpenSpec.ofChange effectModifiesSpec)

/-- ITS FALSE NEIGHBOUR: 'it returns false'. Refute it at one input. -/
def effectModifiesWrong : ChangeSpec := { name := "effectModifies", fn := fun _ => fun
  | [d1, d2, d3, d4, d5] => { results := [.lit (.bool false)], args := [d1, d2, d3, d4, d5] }
  | _ => none }
def EffectModifiesWrongFalsely : Prop := effectModifiesRow.holds Try.pinned (OpenSpec.ofChange effectModifiesWrong)

/-- 'keepsakelaw15.EffectStacks': WHATEVER THE INPUT: true; the input reads as it did. -/
def effectStacksSpec : ChangeSpec := { name := "effectStacks", fn := fun _ => fun
  | [d1, d2, d3, d4, d5] => { results := [.lit (.bool true)], args := [d1, d2, d3, d4, d5] }
  | _ => none }
def effectStacksRow : OpenClaim := { program := "ytmiihcaccejklaa", sum := "b63a33ad11b7bad858d996cebaab456d7f33e954a69a106b209473534adb4b46", func := "keepsake/keepsakelaw15.EffectStacks", spec := "effectStacks", unfollowed := true, recurses := true, apart := false }
def EffectStacksSaid : Prop := effectStacksRow.holds Try.pinned (OpenSpec.ofChange effectStacksSpec)

/-- ITS FALSE NEIGHBOUR: 'it returns false'. Refute it at one input. -/
def effectStacksWrong : ChangeSpec := { name := "effectStacks", fn := fun _ => fun
  | [d1, d2, d3, d4, d5] => { results := [.lit (.bool false)], args := [d1, d2, d3, d4, d5] }
  | _ => none }
def EffectStacksWrongFalsely : Prop := effectStacksRow.holds Try.pinned (OpenSpec.ofChange effectStacksWrong)

/-- 'keepsakelaw15.EffectBoth': WHATEVER THE INPUT: true; the input reads as it did. -/
def effectBothSpec : ChangeSpec := { name := "effectBoth", fn := fun _ => fun
  | [d1, d2] => { results := [.lit (.bool true)], args := [d1, d2] }
  | _ => none }
def effectBothRow : OpenClaim := { program := "ytmiihcaccejklaa", sum := "b63a33ad11b7bad858d996cebaab456d7f33e954a69a106b209473534adb4b46", func := "keepsake/keepsakelaw15.EffectBoth", spec := "effectBoth", unfollowed := true, recurses := true, apart := false }
def EffectBothSaid : Prop := effectBothRow.holds Try.pinned (OpenSpec.ofChange effectBothSpec)

/-- ITS FALSE NEIGHBOUR: 'it returns false'. Refute it at one input. -/
def effectBothWrong : ChangeSpec := { name := "effectBoth", fn := fun _ => fun
  | [d1, d2] => { results := [.lit (.bool false)], args := [d1, d2] }
  | _ => none }
def EffectBothWrongFalsely : Prop := effectBothRow.holds Try.pinned (OpenSpec.ofChange effectBothWrong)

/-- 'keepsakelaw15.EffectReads': WHATEVER THE INPUT: true; the input reads as it did. -/
def effectReadsSpec : ChangeSpec := { name := "effectReads", fn := fun _ => fun
  | [d1, d2, d3, d4, d5] => { results := [.lit (.bool true)], args := [d1, d2, d3, d4, d5] }
  | _ => none }
def effectReadsRow : OpenClaim := { program := "ytmiihcaccejklaa", sum := "b63a33ad11b7bad858d996cebaab456d7f33e954a69a106b209473534adb4b46", func := "keepsake/keepsakelaw15.EffectReads", spec := "effectReads", unfollowed := true, recurses := true, apart := false }
def EffectReadsSaid : Prop := effectReadsRow.holds Try.pinned (OpenSpec.ofChange effectReadsSpec)

/-- ITS FALSE NEIGHBOUR: 'it returns false'. Refute it at one input. -/
def effectReadsWrong : ChangeSpec := { name := "effectReads", fn := fun _ => fun
  | [d1, d2, d3, d4, d5] => { results := [.lit (.bool false)], args := [d1, d2, d3, d4, d5] }
  | _ => none }
def EffectReadsWrongFalsely : Prop := effectReadsRow.holds Try.pinned (OpenSpec.ofChange effectReadsWrong)

/-- 'keepsakelaw15.EffectStays': WHATEVER THE INPUT: true; the input reads as it did. -/
def effectStaysSpec : ChangeSpec := { name := "effectStays", fn := fun _ => fun
  | [d1, d2, d3] => { results := [.lit (.bool true)], args := [d1, d2, d3] }
  | _ => none }
def effectStaysRow : OpenClaim := { program := "ytmiihcaccejklaa", sum := "b63a33ad11b7bad858d996cebaab456d7f33e954a69a106b209473534adb4b46", func := "keepsake/keepsakelaw15.EffectStays", spec := "effectStays", unfollowed := true, recurses := true, apart := false }
def EffectStaysSaid : Prop := effectStaysRow.holds Try.pinned (OpenSpec.ofChange effectStaysSpec)

/-- ITS FALSE NEIGHBOUR: 'it returns false'. Refute it at one input. -/
def effectStaysWrong : ChangeSpec := { name := "effectStays", fn := fun _ => fun
  | [d1, d2, d3] => { results := [.lit (.bool false)], args := [d1, d2, d3] }
  | _ => none }
def EffectStaysWrongFalsely : Prop := effectStaysRow.holds Try.pinned (OpenSpec.ofChange effectStaysWrong)

/-- 'keepsakelaw15.EffectBack': WHATEVER THE INPUT: true; the input reads as it did. -/
def effectBackSpec : ChangeSpec := { name := "effectBack", fn := fun _ => fun
  | [d1, d2] => { results := [.lit (.bool true)], args := [d1, d2] }
  | _ => none }
def effectBackRow : OpenClaim := { program := "ytmiihcaccejklaa", sum := "b63a33ad11b7bad858d996cebaab456d7f33e954a69a106b209473534adb4b46", func := "keepsake/keepsakelaw15.EffectBack", spec := "effectBack", unfollowed := true, recurses := true, apart := false }
def EffectBackSaid : Prop := effectBackRow.holds Try.pinned (OpenSpec.ofChange effectBackSpec)

/-- ITS FALSE NEIGHBOUR: 'it returns false'. Refute it at one input. -/
def effectBackWrong : ChangeSpec := { name := "effectBack", fn := fun _ => fun
  | [d1, d2] => { results := [.lit (.bool false)], args := [d1, d2] }
  | _ => none }
def EffectBackWrongFalsely : Prop := effectBackRow.holds Try.pinned (OpenSpec.ofChange effectBackWrong)

/-- 'keepsakelaw15.EffectOthers': WHATEVER THE INPUT: true; the input reads as it did. -/
def effectOthersSpec : ChangeSpec := { name := "effectOthers", fn := fun _ => fun
  | [d1, d2, d3] => { results := [.lit (.bool true)], args := [d1, d2, d3] }
  | _ => none }
def effectOthersRow : OpenClaim := { program := "ytmiihcaccejklaa", sum := "b63a33ad11b7bad858d996cebaab456d7f33e954a69a106b209473534adb4b46", func := "keepsake/keepsakelaw15.EffectOthers", spec := "effectOthers", unfollowed := true, recurses := true, apart := false }
def EffectOthersSaid : Prop := effectOthersRow.holds Try.pinned (OpenSpec.ofChange effectOthersSpec)

/-- ITS FALSE NEIGHBOUR: 'it returns false'. Refute it at one input. -/
def effectOthersWrong : ChangeSpec := { name := "effectOthers", fn := fun _ => fun
  | [d1, d2, d3] => { results := [.lit (.bool false)], args := [d1, d2, d3] }
  | _ => none }
def EffectOthersWrongFalsely : Prop := effectOthersRow.holds Try.pinned (OpenSpec.ofChange effectOthersWrong)

/- THE SECOND FORM. 'bulk': how many values and letters a reading holds, each counted each time it is reached (what is shared counts as often as it is met; a slice's spare places count too). A statement '..UptoSaid' is the law's where the arguments, and the package variables that the reading takes, are together of bulk at most 1048576: NARROWER than '..Said'. Prove '..Said' where nothing that the law and all that it calls make is longer than what came in: it says more and counts as full. Else prove '..UptoSaid'. A law counts once. -/
mutual
def uptoBulk {H : Type} : DataW H → Nat
  | .lit (.string bytes) => bytes.length + 1
  | .lit _ => 1
  | .nil => 1
  | .ptr d => uptoBulk d + 1
  | .slice elems spare => uptoBulkAll elems + uptoBulkAll spare + 1
  | .agg parts => uptoBulkAll parts + 1
  | .iface _ d => uptoBulk d + 1
  | .map entries => uptoBulkEntries entries + 1
  | .held _ => 1
def uptoBulkAll {H : Type} : List (DataW H) → Nat
  | [] => 0
  | d :: r => uptoBulk d + uptoBulkAll r
def uptoBulkEntries {H : Type} : List (Lit × DataW H) → Nat
  | [] => 0
  | x :: r => uptoBulkEntry x + uptoBulkEntries r
def uptoBulkEntry {H : Type} : Lit × DataW H → Nat
  | (.string bytes, d) => bytes.length + uptoBulk d + 1
  | (_, d) => uptoBulk d + 1
 end
def uptoSmall : (H : Type) → List (DataW H) → Bool := fun _ ds => decide (uptoBulkAll ds ≤ 1048576)
def OpenSpec.upto (s : _root_.Go.ChangeSpec) : _root_.Go.OpenSpec := { _root_.Go.OpenSpec.ofChange s with cond := some uptoSmall }

/-- 'keepsakelaw15.EffectBranches', WHERE WHAT IT READS IS OF BULK AT MOST 1048576: true; the input reads as it did. -/
def effectBranchesUptoRow : OpenClaim := { program := "ytmiihcaccejklaa", sum := "b63a33ad11b7bad858d996cebaab456d7f33e954a69a106b209473534adb4b46", func := "keepsake/keepsakelaw15.EffectBranches", spec := "effectBranches", unfollowed := true, recurses := true, apart := false, narrowed := true }
def EffectBranchesUptoSaid : Prop := effectBranchesUptoRow.holds Try.pinned (OpenSpec.upto effectBranchesSpec)

/-- 'keepsakelaw15.EffectModifies', WHERE WHAT IT READS IS OF BULK AT MOST 1048576: true; the input reads as it did. -/
def effectModifiesUptoRow : OpenClaim := { program := "ytmiihcaccejklaa", sum := "b63a33ad11b7bad858d996cebaab456d7f33e954a69a106b209473534adb4b46", func := "keepsake/keepsakelaw15.EffectModifies", spec := "effectModifies", unfollowed := true, recurses := true, apart := false, narrowed := true }
def EffectModifiesUptoSaid : Prop := effectModifiesUptoRow.holds Try.pinned (OpenSpec.upto effectModifiesSpec)

/-- 'keepsakelaw15.EffectStacks', WHERE WHAT IT READS IS OF BULK AT MOST 1048576: true; the input reads as it did. -/
def effectStacksUptoRow : OpenClaim := { program := "ytmiihcaccejklaa", sum := "b63a33ad11b7bad858d996cebaab456d7f33e954a69a106b209473534adb4b46", func := "keepsake/keepsakelaw15.EffectStacks", spec := "effectStacks", unfollowed := true, recurses := true, apart := false, narrowed := true }
def EffectStacksUptoSaid : Prop := effectStacksUptoRow.holds Try.pinned (OpenSpec.upto effectStacksSpec)

/-- 'keepsakelaw15.EffectBoth', WHERE WHAT IT READS IS OF BULK AT MOST 1048576: true; the input reads as it did. -/
def effectBothUptoRow : OpenClaim := { program := "ytmiihcaccejklaa", sum := "b63a33ad11b7bad858d996cebaab456d7f33e954a69a106b209473534adb4b46", func := "keepsake/keepsakelaw15.EffectBoth", spec := "effectBoth", unfollowed := true, recurses := true, apart := false, narrowed := true }
def EffectBothUptoSaid : Prop := effectBothUptoRow.holds Try.pinned (OpenSpec.upto effectBothSpec)

/-- 'keepsakelaw15.EffectReads', WHERE WHAT IT READS IS OF BULK AT MOST 1048576: true; the input reads as it did. -/
def effectReadsUptoRow : OpenClaim := { program := "ytmiihcaccejklaa", sum := "b63a33ad11b7bad858d996cebaab456d7f33e954a69a106b209473534adb4b46", func := "keepsake/keepsakelaw15.EffectReads", spec := "effectReads", unfollowed := true, recurses := true, apart := false, narrowed := true }
def EffectReadsUptoSaid : Prop := effectReadsUptoRow.holds Try.pinned (OpenSpec.upto effectReadsSpec)

/-- 'keepsakelaw15.EffectStays', WHERE WHAT IT READS IS OF BULK AT MOST 1048576: true; the input reads as it did. -/
def effectStaysUptoRow : OpenClaim := { program := "ytmiihcaccejklaa", sum := "b63a33ad11b7bad858d996cebaab456d7f33e954a69a106b209473534adb4b46", func := "keepsake/keepsakelaw15.EffectStays", spec := "effectStays", unfollowed := true, recurses := true, apart := false, narrowed := true }
def EffectStaysUptoSaid : Prop := effectStaysUptoRow.holds Try.pinned (OpenSpec.upto effectStaysSpec)

/-- 'keepsakelaw15.EffectBack', WHERE WHAT IT READS IS OF BULK AT MOST 1048576: true; the input reads as it did. -/
def effectBackUptoRow : OpenClaim := { program := "ytmiihcaccejklaa", sum := "b63a33ad11b7bad858d996cebaab456d7f33e954a69a106b209473534adb4b46", func := "keepsake/keepsakelaw15.EffectBack", spec := "effectBack", unfollowed := true, recurses := true, apart := false, narrowed := true }
def EffectBackUptoSaid : Prop := effectBackUptoRow.holds Try.pinned (OpenSpec.upto effectBackSpec)

/-- 'keepsakelaw15.EffectOthers', WHERE WHAT IT READS IS OF BULK AT MOST 1048576: true; the input reads as it did. -/
def effectOthersUptoRow : OpenClaim := { program := "ytmiihcaccejklaa", sum := "b63a33ad11b7bad858d996cebaab456d7f33e954a69a106b209473534adb4b46", func := "keepsake/keepsakelaw15.EffectOthers", spec := "effectOthers", unfollowed := true, recurses := true, apart := false, narrowed := true }
def EffectOthersUptoSaid : Prop := effectOthersUptoRow.holds Try.pinned (OpenSpec.upto effectOthersSpec)

end Rows
end Go.Proofs.Ytmiihcaccejklaa
