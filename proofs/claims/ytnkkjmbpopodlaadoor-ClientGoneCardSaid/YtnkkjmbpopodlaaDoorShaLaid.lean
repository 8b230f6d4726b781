/- What the row lists of sha's table, and what the door's own run leaves. -/
import Derived.Test.YtnkkjmbpopodlaaDoorRows
import Derived.Test.YtnkkjmbpopodlaaDoorG5
import Derived.ProofKit
import Derived.LaidMore
import Derived.OpenShut
import Derived.Stop.Joined
namespace Go.Proofs.YtnkkjmbpopodlaaDoor
open Go.ChangeShapes Go.WideShapes Go.ChangeAt Go.WideMaps Go.WideElems Go.RowKit Go.Proofs.YtnkkjmbpopodlaaDoorW.PrintWords
set_option linter.unusedVariables false
def laidL : List (String × DataW Unit) := [("lighterage/sha.roots", Rows.laid_lighterage_sha_roots)]
theorem gRoots : Tryd.prog.globalNamed "lighterage/sha.roots" = some 0 := by kernel_rfl
theorem tRoots : (Tryd.prog.globals[0]?).map (·.type) = some 151 := by kernel_rfl
theorem door_met (os : Os) (args : Array Value) : laidMetH Tryd.prog laidL ((World.doorLaid Tryd.prog 400 os).forCall (fun _ _ => 0) ⟨#[], args, []⟩).memory :=
  laidMetH_of_parts3 (fuel := 8) (laidMet_of_run' 8 (by kernel_rfl) (by kernel_rfl)) (by kernel_rfl) (by kernel_rfl)
theorem of_laid {W : World} (h : laidMetH Tryd.prog laidL W) : Roots W := by
  rw [MakeChecks.laidMetH_plain _ _ _ (by kernel_rfl)] at h
  obtain ⟨ps, ⟨g0, t0, cs0, f0, p0, q0, hg0, ht0, hv0, hd0, _, _⟩, _, _⟩ := h
  obtain rfl := Option.some.inj (gRoots.symm.trans hg0)
  obtain rfl := Option.some.inj (tRoots.symm.trans ht0)
  obtain ⟨xs, m1, rfl, hx1, hlen, hn, hel⟩ := DataW.trod_array Tryd.underlying151 hd0
  have c1 : Tryd.prog.cellsOf 93 = 1 := by kernel_rfl
  simp only [Prod.mk.injEq] at hx1
  obtain ⟨hx1, _⟩ := hx1
  have hK : (Rows.laid_lighterage_sha_roots : DataW Unit) = .agg (Kc.map fun x => .lit (.int .u32 x)) := rfl
  rw [hK] at hx1
  simp only [DataW.agg.injEq] at hx1
  intro i hi
  have h0 := hel i hi
  rw [c1] at h0
  obtain ⟨x, hx⟩ : ∃ x, xs[i]? = some x := ⟨xs[i]'(by omega), List.getElem?_eq_getElem (by omega)⟩
  rw [hx] at h0
  obtain ⟨k, e1, e2, _⟩ := DataW.trod_int Tryd.underlying93 h0
  have h3 : (xs.map (·.1))[i]? = some (.lit (.int .u32 k)) := by rw [List.getElem?_map, hx, e2]; rfl
  rw [← hx1, List.getElem?_map] at h3
  have hk : rd Kc i = k := by
    unfold Go.Proofs.YtnkkjmbpopodlaaDoorW.PrintWords.rd
    rw [List.getD_eq_getElem?_getD]
    rw [Int.toNat_natCast]
    rcases hq : Kc[i]? with _ | y
    · rw [hq] at h3; simp at h3
    · rw [hq] at h3
      simpa using h3
  rw [hk]
  have := World.var?_cell hg0 hv0 i
  rw [this]
  have h4 : ((cs0.toList.drop (i * 1)).take 1)[0]? = some (.int .u32 k) := by rw [e1]; rfl
  simpa using h4
end Go.Proofs.YtnkkjmbpopodlaaDoor
