/- Contract: lighterageref02.block. Conditions: its own. -/
import Derived.Test.YtdfahblgnbdndaaDoorG2
namespace Go.Proofs.YtdfahblgnbdndaaDoor
open Go.RowKit Go.Proofs.YtdfahblgnbdndaaDoorW.PrintWords Go.Proofs.YtdfahblgnbdndaaDoorW.PrintMore
set_option linter.unusedVariables false
set_option linter.unusedSimpArgs false
section
variable {ops : Array Oper} {Q : Exit → Act → World → Prop}
end
theorem wrap_ad (a b : Int) : IntKind.u32.wrap (a + b) = ad a b := by rw [IntKind.wrap_u32]; rfl
end Go.Proofs.YtdfahblgnbdndaaDoor
