/- The law IndexSame: its walk. Conditions: what its arguments read, and what sha's table of roots holds. -/
import Derived.Test.YtdfahblgnbdndaaDoorIdxC
import Derived.Test.YtdfahblgnbdndaaDoorG12
import Derived.Test.YtdfahblgnbdndaaDoorG11
import Derived.Test.YtdfahblgnbdndaaDoorG13
import Derived.Deep.CutBlock
import Derived.Deep.DeepCutAuto
namespace Go.Proofs.YtdfahblgnbdndaaDoor
open Go.RowKit Go.Shelf Go.Proofs.YtdfahblgnbdndaaDoorW.PrintWords Go.Proofs.YtdfahblgnbdndaaDoorW.PrintMore
set_option linter.unusedVariables false
set_option linter.unusedSimpArgs false
section
variable {w : World} {g T : Nat} {a b c : Int} {im : List Int} {v : Value}
theorem ld_rx {fr : Nat × Nat} (hg : w.heap[g]? = some (.cells (Xc a b c im v).toArray T fr)) (hn : im.length = 32) : (Instr.loadAt 38 (.pointer (some ⟨g, 0, none⟩))).run Tryd.prog w = .ok (.agg (Xc a b c im v).toArray) w :=
  ld_row hg 38 _ Tryd.underlying38 rfl (by rw [List.size_toArray]; exact size_RX hn)
variable {ops : Array Oper} {rest : List Oper} {o : Oper} {ac : Act} {Q : Exit → Act → World → Prop}
end
/-- An index's cells that are read whole, of any image. -/
def YRow (W : World) (cs : List Value) : Prop := ∃ (a b c : Int) (im : List Int) (A : Option Addr) (n cp : Nat) (its : List Itm), cs = Xc a b c im (.slice A n cp) ∧ im.length = 32 ∧ RdI W A n its ∧ n ≤ 8
theorem YRow.len {W : World} {cs : List Value} (h : YRow W cs) : cs.length = 36 := by
  obtain ⟨_, _, _, _, _, _, _, _, rfl, hn, _⟩ := h
  exact Xc_len hn
end Go.Proofs.YtdfahblgnbdndaaDoor
