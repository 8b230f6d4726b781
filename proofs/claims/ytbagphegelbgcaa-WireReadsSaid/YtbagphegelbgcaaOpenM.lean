/- Arguments that are messages or digests, opened. Plain lemmas. -/
import Derived.Test.YtbagphegelbgcaaWireBase
import Derived.OpenShut
import Derived.ChangeSame
import Derived.ShutString
namespace Go.Proofs.Ytbagphegelbgcaa
open Go.RowKit Go.Proofs.YtbagphegelbgcaaW.PrintWords Go.Proofs.YtbagphegelbgcaaW.PrintMore
open Go.ChangeShapes Go.WideShapes
set_option linter.unusedVariables false
set_option linter.unusedSimpArgs false
section
variable {H : Type} {enc : TypeId × Value → H} {w : World} {base : Nat} {spare : Nat → Bool} {held : Bool}
theorem cells1 : Try.prog.cellsOf 5 = 1 := by kernel_rfl
theorem cells32 : Try.prog.cellsOf 23 = 32 := by kernel_rfl
def numAt : Option Value → Int
  | some (Value.int _ n) => n
  | _ => 0
theorem trod_dig {fuel : Nat} {cs : List Value} {x : DataW H × List MemPlace} (h : DataW.trod enc Try.prog w base spare held fuel 23 cs = some x) : ∃ nm : List Int, cs = Nm nm ∧ nm.length = 32 ∧ Bytes nm := by
  obtain ⟨xs, m, _, _, hl, hn, hi⟩ := DataW.trod_array Try.underlying23 h
  rw [cells32] at hl
  simp only [cells1, Nat.mul_one] at hi
  have hat : ∀ i, i < 32 → ∃ n : Int, cs[i]? = some (.int .u8 n) ∧ 0 ≤ n ∧ n < 256 := fun i hlt => by
    have h1 := hi i hlt
    rw [List.getElem?_eq_getElem (by omega)] at h1
    obtain ⟨n, hc, _, hw⟩ := DataW.trod_int Try.underlying5 h1
    rw [List.drop_eq_getElem_cons (by omega), List.take_succ_cons] at hc
    have hc2 : cs[i]'(by omega) = .int .u8 n := (List.cons.inj hc).1
    exact ⟨n, by rw [List.getElem?_eq_getElem (by omega), hc2], wf_u8 hw⟩
  refine ⟨(List.range 32).map (fun i => numAt (cs[i]?)), ?_, by simp, ?_⟩
  · apply List.ext_getElem?
    intro i
    rcases Nat.lt_or_ge i 32 with hlt | hge
    · obtain ⟨n, h1, _⟩ := hat i hlt
      simp only [Nm, List.getElem?_map, List.getElem?_range hlt, Option.map_some, h1, numAt]
    · rw [List.getElem?_eq_none (by omega), List.getElem?_eq_none (by simp [Nm]; omega)]
  · intro x hx
    obtain ⟨i, hir, rfl⟩ := List.mem_map.1 hx
    obtain ⟨n, h1, h2⟩ := hat i (List.mem_range.1 hir)
    simp only [h1, numAt]
    exact h2
theorem open_dig {r : Reach} {b0 : Nat} {v : Value} {d : DataW H} {p : List MemPlace} (hv : Value.okWide Try.prog w r b0 23 v) (h : DataW.Trod enc Try.prog w base spare held 23 v d p) :
    ∃ nm : List Int, v = .agg (Nm nm).toArray ∧ nm.length = 32 ∧ Bytes nm := by
  obtain ⟨C, rfl⟩ : ∃ C, v = .agg C := by
    simp only [Value.okWide, Try.underlying23] at hv
    obtain ⟨cs, h1, _⟩ := hv
    exact ⟨cs, h1⟩
  obtain ⟨fuel, hf⟩ := h
  obtain ⟨nm, h1, h2, h3⟩ := trod_dig hf
  obtain ⟨l⟩ := C
  have e : l = Nm nm := h1
  exact ⟨nm, by rw [e], h2, h3⟩
end
end Go.Proofs.Ytbagphegelbgcaa
