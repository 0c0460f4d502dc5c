/- PROVED: an append within a drawn region. No conditions beyond those that each theorem states. -/
import Derived.Test.YtcbngmfbbdmlgaaRw
import Derived.Deep.RegionLaw
namespace Go.Proofs.Ytcbngmfbbdmlgaa
open Go.RowKit Go.Proofs.YtcbngmfbbdmlgaaLib
set_option linter.unusedSimpArgs false
set_option linter.unusedVariables false

theorem step_append_at {P : Program} {ops : Array Oper} {o : Oper} {a : Act} {w w' W0 : World} {K : Act → World → Prop} {Q : Exit → Act → World → Prop} {E : Prop} {v1 v2 v' : Value} (t ty : TypeId) (hr : (Builtin.append_ #[t, t] ty #[v1, v2]).run P W0 = .ok v' w') (s x : Operand) (hW : w = W0) (hgd : o.guard = none)
    (ho : o.op = .call { callee := .builtin .append, args := #[s, x], argTypes := #[t, t] }) (hty : o.type = ty) (hs : a.eval s = v1) (hx : a.eval x = v2)
    (h : K (a.put o.dst v') w') : if Region.wanted o (yielded ops a.tmps) = true then Oper.wp P o a w K Q else E := by
  subst hW
  subst hty
  have hw : Region.wanted o (yielded ops a.tmps) = true := by simp [Region.wanted, hgd]
  rw [if_pos hw]
  unfold Oper.wp
  simp [execOp, ho, resolve, invoke, builtin, hs, hx, hr, Result.andThen]
  exact h
end Go.Proofs.Ytcbngmfbbdmlgaa
