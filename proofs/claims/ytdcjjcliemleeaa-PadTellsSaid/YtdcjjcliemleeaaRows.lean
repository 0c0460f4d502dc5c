/-
  No cell of these rows narrows 'for every input' (looked for: loops, veiled, ifaces, maps, wideKeys, modest, calm, conditions, laid).
  DERIVED. THE GIVEN ROWS OF THIS SEAT. 4 by the template 'for every input the law returns true; each argument reads behind the call as it read before'; 0 by the template 'total and deterministic' (their statements: YtdcjjcliemleeaaTotals.lean).
  GIVEN WITH THE SEED: the statements are not yours to turn. If you find one false, say at which input.
  Laid BY PROGRAM, IN A SANDBOX (cutbox-rows.mjs): the forced cells as the released guide's own fill.sh prints them over the translation 04902317491e10c1… (all of the seat's roots in one cut). By AI agents, Wed Nov 11 2026. No macro, syntax, notation, axiom, sorry.
-/
import Derived.Test.YtdcjjcliemleeaaChecked
import GoSem.Claim
import GoSem.ClaimJoined
import GoSem.ClaimMapViews
import Derived.JoinedTies
import Derived.KernelRfl
namespace Go.Proofs.Ytdcjjcliemleeaa
/- THE CELL 'sum', in the pinned program and in every row, IS THE sha256 OF THE DUMP (.gsa) THAT YtdcjjcliemleeaaProg.lean LOADS. Nothing in Lean hashes anything: it is a label: what it is worth is what the hold of that sum in a sandbox is worth. -/
noncomputable def Try.pinned : Pinned := { name := "ytdcjjcliemleeaa", sum := "04902317491e10c1f82f12abb69f99b74017f77df9bef24e6b4300450ed08651", checked := Try.checked }
namespace Rows
def none {H : Type} : Left H := { results := [], args := [] }

/-- 'keepsakelaw19.PadPlays': WHATEVER THE INPUT: true; the input reads as it did. -/
def padPlaysSpec : ChangeSpec := { name := "padPlays", fn := fun _ => fun
  | [d] => { results := [.lit (.bool true)], args := [d] }
  | _ => none }
def padPlaysRow : OpenClaim := { program := "ytdcjjcliemleeaa", sum := "04902317491e10c1f82f12abb69f99b74017f77df9bef24e6b4300450ed08651", func := "keepsake/keepsakelaw19.PadPlays", spec := "padPlays", apart := false }
def PadPlaysSaid : Prop := padPlaysRow.holds Try.pinned (OpenSpec.ofChange padPlaysSpec)

/-- ITS FALSE NEIGHBOUR: 'it returns false'. Refute it at one input. -/
def padPlaysWrong : ChangeSpec := { name := "padPlays", fn := fun _ => fun
  | [d] => { results := [.lit (.bool false)], args := [d] }
  | _ => none }
def PadPlaysWrongFalsely : Prop := padPlaysRow.holds Try.pinned (OpenSpec.ofChange padPlaysWrong)

/-- 'keepsakelaw19.PadTells': WHATEVER THE INPUT: true; the input reads as it did. -/
def padTellsSpec : ChangeSpec := { name := "padTells", fn := fun _ => fun
  | [d1, d2, d3, d4] => { results := [.lit (.bool true)], args := [d1, d2, d3, d4] }
  | _ => none }
def padTellsRow : OpenClaim := { program := "ytdcjjcliemleeaa", sum := "04902317491e10c1f82f12abb69f99b74017f77df9bef24e6b4300450ed08651", func := "keepsake/keepsakelaw19.PadTells", spec := "padTells", apart := false }
def PadTellsSaid : Prop := padTellsRow.holds Try.pinned (OpenSpec.ofChange padTellsSpec)

/-- ITS FALSE NEIGHBOUR: 'it returns false'. Refute it at one input. -/
def padTellsWrong : ChangeSpec := { name := "padTells", fn := fun _ => fun
  | [d1, d2, d3, d4] => { results := [.lit (.bool false)], args := [d1, d2, d3, d4] }
  | _ => none }
def PadTellsWrongFalsely : Prop := padTellsRow.holds Try.pinned (OpenSpec.ofChange padTellsWrong)

/-- 'keepsakelaw19.PadHigh': WHATEVER THE INPUT: true; the input reads as it did. -/
def padHighSpec : ChangeSpec := { name := "padHigh", fn := fun _ => fun
  | [d1, d2, d3] => { results := [.lit (.bool true)], args := [d1, d2, d3] }
  | _ => none }
def padHighRow : OpenClaim := { program := "ytdcjjcliemleeaa", sum := "04902317491e10c1f82f12abb69f99b74017f77df9bef24e6b4300450ed08651", func := "keepsake/keepsakelaw19.PadHigh", spec := "padHigh", apart := false }
def PadHighSaid : Prop := padHighRow.holds Try.pinned (OpenSpec.ofChange padHighSpec)

/-- ITS FALSE NEIGHBOUR: 'it returns false'. Refute it at one input. -/
def padHighWrong : ChangeSpec := { name := "padHigh", fn := fun _ => fun
  | [d1, d2, d3] => { results := [.lit (.bool false)], args := [d1, d2, d3] }
  | _ => none }
def PadHighWrongFalsely : Prop := padHighRow.holds Try.pinned (OpenSpec.ofChange padHighWrong)

/-- 'keepsakelaw19.PadCopies': WHATEVER THE INPUT: true; the input reads as it did. -/
def padCopiesSpec : ChangeSpec := { name := "padCopies", fn := fun _ => fun
  | [d1, d2] => { results := [.lit (.bool true)], args := [d1, d2] }
  | _ => none }
def padCopiesRow : OpenClaim := { program := "ytdcjjcliemleeaa", sum := "04902317491e10c1f82f12abb69f99b74017f77df9bef24e6b4300450ed08651", func := "keepsake/keepsakelaw19.PadCopies", spec := "padCopies", apart := false }
def PadCopiesSaid : Prop := padCopiesRow.holds Try.pinned (OpenSpec.ofChange padCopiesSpec)

/-- ITS FALSE NEIGHBOUR: 'it returns false'. Refute it at one input. -/
def padCopiesWrong : ChangeSpec := { name := "padCopies", fn := fun _ => fun
  | [d1, d2] => { results := [.lit (.bool false)], args := [d1, d2] }
  | _ => none }
def PadCopiesWrongFalsely : Prop := padCopiesRow.holds Try.pinned (OpenSpec.ofChange padCopiesWrong)

/- THE SECOND FORM. 'bulk': how many values and letters a reading holds, each counted each time it is reached (what is shared counts as often as it is met; a slice's spare places count too). A statement '..UptoSaid' is the law's where the arguments, and the package variables that the reading takes, are together of bulk at most 1048576: NARROWER than '..Said'. Prove '..Said' where nothing that the law and all that it calls make is longer than what came in: it says more and counts as full. Else prove '..UptoSaid'. A law counts once. -/
mutual
def uptoBulk {H : Type} : DataW H → Nat
  | .lit (.string bytes) => bytes.length + 1
  | .lit _ => 1
  | .nil => 1
  | .ptr d => uptoBulk d + 1
  | .slice elems spare => uptoBulkAll elems + uptoBulkAll spare + 1
  | .agg parts => uptoBulkAll parts + 1
  | .iface _ d => uptoBulk d + 1
  | .map entries => uptoBulkEntries entries + 1
  | .held _ => 1
def uptoBulkAll {H : Type} : List (DataW H) → Nat
  | [] => 0
  | d :: r => uptoBulk d + uptoBulkAll r
def uptoBulkEntries {H : Type} : List (Lit × DataW H) → Nat
  | [] => 0
  | x :: r => uptoBulkEntry x + uptoBulkEntries r
def uptoBulkEntry {H : Type} : Lit × DataW H → Nat
  | (.string bytes, d) => bytes.length + uptoBulk d + 1
  | (_, d) => uptoBulk d + 1
 end
def uptoSmall : (H : Type) → List (DataW H) → Bool := fun _ ds => decide (uptoBulkAll ds ≤ 1048576)
def OpenSpec.upto (s : _root_.Go.ChangeSpec) : _root_.Go.OpenSpec := { _root_.Go.OpenSpec.ofChange s with cond := some uptoSmall }

/-- 'keepsakelaw19.PadPlays', WHERE WHAT IT READS IS OF BULK AT MOST 1048576: true; the input reads as it did. -/
def padPlaysUptoRow : OpenClaim := { program := "ytdcjjcliemleeaa", sum := "04902317491e10c1f82f12abb69f99b74017f77df9bef24e6b4300450ed08651", func := "keepsake/keepsakelaw19.PadPlays", spec := "padPlays", apart := false, narrowed := true }
def PadPlaysUptoSaid : Prop := padPlaysUptoRow.holds Try.pinned (OpenSpec.upto padPlaysSpec)

/-- 'keepsakelaw19.PadTells', WHERE WHAT IT READS IS OF BULK AT MOST 1048576: true; the input reads as it did. -/
def padTellsUptoRow : OpenClaim := { program := "ytdcjjcliemleeaa", sum := "04902317491e10c1f82f12abb69f99b74017f77df9bef24e6b4300450ed08651", func := "keepsake/keepsakelaw19.PadTells", spec := "padTells", apart := false, narrowed := true }
def PadTellsUptoSaid : Prop := padTellsUptoRow.holds Try.pinned (OpenSpec.upto padTellsSpec)

/-- 'keepsakelaw19.PadHigh', WHERE WHAT IT READS IS OF BULK AT MOST 1048576: true; the input reads as it did. -/
def padHighUptoRow : OpenClaim := { program := "ytdcjjcliemleeaa", sum := "04902317491e10c1f82f12abb69f99b74017f77df9bef24e6b4300450ed08651", func := "keepsake/keepsakelaw19.PadHigh", spec := "padHigh", apart := false, narrowed := true }
def PadHighUptoSaid : Prop := padHighUptoRow.holds Try.pinned (OpenSpec.upto padHighSpec)

/-- 'keepsakelaw19.PadCopies', WHERE WHAT IT READS IS OF BULK AT MOST 1048576: true; the input reads as it did. -/
def padCopiesUptoRow : OpenClaim := { program := "ytdcjjcliemleeaa", sum := "04902317491e10c1f82f12abb69f99b74017f77df9bef24e6b4300450ed08651", func := "keepsake/keepsakelaw19.PadCopies", spec := "padCopies", apart := false, narrowed := true }
def PadCopiesUptoSaid : Prop := padCopiesUptoRow.holds Try.pinned (OpenSpec.upto padCopiesSpec)

end Rows
end Go.Proofs.Ytdcjjcliemleeaa
