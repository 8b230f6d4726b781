/- Arguments that are lighterageref18's messages, opened. Plain lemmas. -/
import Derived.Test.YtbagphegelbgcaaOpenM
import Derived.Test.YtbagphegelbgcaaMsg
namespace Go.Proofs.Ytbagphegelbgcaa
open Go.RowKit Go.Proofs.YtbagphegelbgcaaW.PrintWords Go.Proofs.YtbagphegelbgcaaW.PrintMore
open Go.ChangeShapes Go.WideShapes
set_option linter.unusedVariables false
set_option linter.unusedSimpArgs false
section
variable {H : Type} {enc : TypeId × Value → H} {w : World} {base : Nat} {spare : Nat → Bool} {held : Bool}
theorem open_M {r : Reach} {b0 : Nat} {v : Value} {d : DataW H} {p : List MemPlace} (hv : Value.okWide Try.prog w r b0 25 v) (h : DataW.Trod enc Try.prog w base spare held 25 v d p) :
    ∃ (k s : Int) (nm : List Int) (b : ByteArray), v = .agg (Mc k s nm (.string b)).toArray ∧ (Lit.int .i64 k).wf = true ∧ (Lit.int .i64 s).wf = true ∧ nm.length = 32 ∧ Bytes nm ∧ b.size ≤ maxLen := by
  obtain ⟨C, rfl, hsz⟩ := okWide_struct Try.underlying25 hv
  rw [show Try.prog.cellsOf 25 = 35 by kernel_rfl] at hsz
  obtain ⟨fuel, hf⟩ := h
  obtain ⟨xs, n, _, _, hl, hn, hi⟩ := DataW.trod_struct Try.underlying25 hf
  have hn4 : xs.length = 4 := hn
  obtain ⟨l⟩ := C
  have hl35 : l.length = 35 := by simpa using hsz
  have f0 := hi 0 _ rfl
  have f1 := hi 1 _ rfl
  have f2 := hi 2 _ rfl
  have f3 := hi 3 _ rfl
  rw [List.getElem?_eq_getElem (by omega)] at f0 f1 f2 f3
  obtain ⟨k, c0, _, w0⟩ := DataW.trod_int Try.underlying3 f0
  obtain ⟨s, c1, _, w1⟩ := DataW.trod_int Try.underlying3 f1
  obtain ⟨nm, c2, hnl, hnb⟩ := trod_dig f2
  obtain ⟨b, c3, _, hb⟩ := DataW.trod_string Try.underlying9 f3
  change List.take (Try.prog.cellsOf 3) (List.drop 0 l) = _ at c0
  change List.take (Try.prog.cellsOf 3) (List.drop 1 l) = _ at c1
  change List.take (Try.prog.cellsOf 23) (List.drop 2 l) = _ at c2
  change List.take (Try.prog.cellsOf 9) (List.drop 34 l) = _ at c3
  rw [show Try.prog.cellsOf 3 = 1 by kernel_rfl] at c0 c1
  rw [show Try.prog.cellsOf 9 = 1 by kernel_rfl] at c3
  rw [cells32] at c2
  have d0 : (l.drop 0).take 1 = [Value.int .i64 k] := c0
  have d1 : (l.drop 1).take 1 = [Value.int .i64 s] := c1
  have d2 : (l.drop 2).take 32 = Nm nm := c2
  have d3 : (l.drop 34).take 1 = [Value.string b] := c3
  refine ⟨k, s, nm, b, ?_, w0, w1, hnl, hnb, hb⟩
  have e : l = Mc k s nm (.string b) := by
    have e1 : l = l.take 1 ++ ((l.drop 1).take 1 ++ ((l.drop 2).take 32 ++ (l.drop 34).take 1)) := by
      have a1 : (l.drop 34).take 1 = l.drop 34 := List.take_of_length_le (by rw [List.length_drop]; omega)
      have a2 : (l.drop 2).take 32 ++ l.drop 34 = l.drop 2 := by
        have := List.take_append_drop 32 (l.drop 2)
        rwa [List.drop_drop] at this
      have a3 : (l.drop 1).take 1 ++ l.drop 2 = l.drop 1 := by
        have := List.take_append_drop 1 (l.drop 1)
        rwa [List.drop_drop] at this
      rw [a1, a2, a3, List.take_append_drop]
    rw [e1, d1, d2, d3]
    rw [List.drop_zero] at d0
    rw [d0]
    rfl
  rw [e]
end
end Go.Proofs.Ytbagphegelbgcaa
