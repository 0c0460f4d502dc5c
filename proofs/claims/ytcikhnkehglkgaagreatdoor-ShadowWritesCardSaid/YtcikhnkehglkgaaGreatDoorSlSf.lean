/- PROVED: plain lemmas on spans. No conditions beyond those that each theorem states. -/
import Derived.Test.YtcikhnkehglkgaaGreatDoorSlU
namespace Go.Proofs.YtcikhnkehglkgaaGreatDoor
open Go.RowKit Go.Proofs.YtcikhnkehglkgaaGreatDoorLib
set_option linter.unusedSimpArgs false
set_option linter.unusedVariables false

def freshM (sz : Int) : Nat := (32 + sz % 100).toNat
theorem freshM_bd (sz : Int) : 32 ≤ freshM sz ∧ freshM sz ≤ 131 ∧ (freshM sz : Int) = 32 + sz % 100 := by unfold freshM; omega
theorem span_few {e f g : Int} (hr : gRight e f g = true) (ht : gTotal e f g ≤ 500) (m : Nat) (h1 : 32 ≤ m) (h2 : m ≤ 4096) : spanN m e f g ≤ 17 ∧ 1 ≤ spanN m e f g := by
  rw [spanN_eq hr h1 h2]
  have h3 : secs (gTotal e f g) m ≤ 16 := by
    unfold secs
    apply Nat.le_of_lt_succ
    rw [Nat.div_lt_iff_lt_mul (by omega)]
    omega
  omega
end Go.Proofs.YtcikhnkehglkgaaGreatDoor
