/- Arguments that are api.Params, opened. Plain lemmas. -/
import Derived.Test.YtdbgbbodkoppdaaDoorCut9
import Derived.OpenShut
import Derived.ChangeSame
namespace Go.Proofs.YtdbgbbodkoppdaaDoor
open Go.RowKit Go.Proofs.YtdbgbbodkoppdaaDoorW.PrintWords Go.Proofs.YtdbgbbodkoppdaaDoorW.PrintMore
open Go.ChangeShapes Go.WideShapes
set_option linter.unusedVariables false
set_option linter.unusedSimpArgs false
section
variable {H : Type} {enc : TypeId × Value → H} {w : World} {base : Nat} {spare : Nat → Bool} {held : Bool}
set_option maxRecDepth 100000 in
theorem open_P {r : Reach} {b0 : Nat} {v : Value} {d : DataW H} {p : List MemPlace} (hv : Value.okWide Tryd.prog w r b0 23 v) (h : DataW.Trod enc Tryd.prog w base spare held 23 v d p) :
    ∃ (a b c : Int), v = .agg #[.int .i64 a, .int .i64 b, .int .i64 c] ∧ (Lit.int .i64 a).wf = true ∧ (Lit.int .i64 b).wf = true ∧ (Lit.int .i64 c).wf = true := by
  obtain ⟨C, rfl, hsz⟩ := okWide_struct Tryd.underlying23 hv
  rw [show Tryd.prog.cellsOf 23 = 3 by kernel_rfl] at hsz
  obtain ⟨fuel, hf⟩ := h
  obtain ⟨xs, n, _, _, hl, hn, hi⟩ := DataW.trod_struct Tryd.underlying23 hf
  have hn3 : xs.length = 3 := hn
  obtain ⟨l⟩ := C
  have hl3 : l.length = 3 := by simpa using hsz
  have f0 := hi 0 _ rfl
  have f1 := hi 1 _ rfl
  have f2 := hi 2 _ rfl
  rw [List.getElem?_eq_getElem (by omega)] at f0 f1 f2
  obtain ⟨a, c0, _, w0⟩ := DataW.trod_int Tryd.underlying3 f0
  obtain ⟨b, c1, _, w1⟩ := DataW.trod_int Tryd.underlying3 f1
  obtain ⟨c, c2, _, w2⟩ := DataW.trod_int Tryd.underlying3 f2
  change List.take (Tryd.prog.cellsOf 3) (List.drop 0 l) = _ at c0
  change List.take (Tryd.prog.cellsOf 3) (List.drop 1 l) = _ at c1
  change List.take (Tryd.prog.cellsOf 3) (List.drop 2 l) = _ at c2
  rw [show Tryd.prog.cellsOf 3 = 1 by kernel_rfl] at c0 c1 c2
  have d0 : (l.drop 0).take 1 = [Value.int .i64 a] := c0
  have d1 : (l.drop 1).take 1 = [Value.int .i64 b] := c1
  have d2 : (l.drop 2).take 1 = [Value.int .i64 c] := c2
  refine ⟨a, b, c, ?_, w0, w1, w2⟩
  match l, hl3 with
  | [x, y, z], _ =>
    simp at d0 d1 d2
    rw [d0, d1, d2]
end
end Go.Proofs.YtdbgbbodkoppdaaDoor
