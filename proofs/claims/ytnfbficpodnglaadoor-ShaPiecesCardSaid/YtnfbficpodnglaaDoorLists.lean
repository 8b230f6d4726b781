/- Slices of slices of bytes that came in. Plain lemmas. -/
import Derived.Test.YtnfbficpodnglaaDoorBase
import Derived.WalkKit
import Derived.OpenShut
import Derived.ChangeSlices
namespace Go.Proofs.YtnfbficpodnglaaDoor
open Go.RowKit Go.Proofs.YtnfbficpodnglaaDoorW.PrintWords Go.Proofs.YtnfbficpodnglaaDoorW.PrintMore Go.ChangeShapes Go.WideShapes
set_option linter.unusedVariables false
def LsIn (w : World) (A : Option Addr) (n : Nat) : Prop := ∀ i : Nat, i < n → ∃ ad B m c ys, A = some ad ∧ w.cell? (ad.add i) = some (.slice B m c) ∧ RdB w B m ys ∧ m ≤ c ∧ Bytes ys
theorem LsIn.below {w w1 : World} {A : Option Addr} {n : Nat} (h : LsIn w A n) (hb : Below w.heap.size w w1) : LsIn w1 A n := fun i hi => by
  obtain ⟨ad, B, m, c, ys, e, h1, h2, h3⟩ := h i hi
  exact ⟨ad, B, m, c, ys, e, pw_cell_below hb h1, Kd.C_below h2 hb, h3⟩
theorem lsIn_of_trod {H : Type} {enc : TypeId × Value → H} {W : World} {t : TypeId} {a : Option Addr} {len cap : Nat} {d : DataW H} {p : List MemPlace} (ht : Tryd.prog.underlying t = some (.slice 22))
    (h : DataW.Trod enc Tryd.prog W 0 (fun _ => true) true t (.slice a len cap) d p) : LsIn W a len ∧ len ≤ cap ∧ cap ≤ maxLen := by
  obtain ⟨fuel, hf⟩ := h
  rcases DataW.trod_slice ht hf with ⟨hcs, _⟩ | ⟨x, l, cp, elems, rest, n, _, hcs, _, hb, hl, hm, hlen, hel, _, _⟩
  · simp [Value.cells] at hcs
    obtain ⟨rfl, rfl, rfl⟩ := hcs
    exact ⟨fun i hi => by omega, Nat.le_refl _, by unfold maxLen; omega⟩
  · simp [Value.cells] at hcs
    obtain ⟨rfl, rfl, rfl⟩ := hcs
    refine ⟨fun i hi => ?_, hl, hm⟩
    have h1 := hel i hi
    rw [show Tryd.prog.cellsOf 22 = 1 by kernel_rfl, Nat.mul_one, List.getElem?_eq_getElem (by omega), Option.bind_eq_some_iff] at h1
    obtain ⟨cs, hc, ht1⟩ := h1
    rcases open_ints Tryd.underlying22 Tryd.underlying5 (by kernel_rfl) ht1 with ⟨rfl, _⟩ | ⟨y, l1, c1, zs, rfl, _, hl1, hm1, hz1, _, hcell, hwz⟩
    · have := cell_of_cells?_one hc
      exact ⟨x, none, 0, 0, [], rfl, this, Kd.C_nil _ _, Nat.le_refl _, Bytes.nil⟩
    · have := cell_of_cells?_one hc
      obtain ⟨r1, r2, r3⟩ := isRow_read (w := W) (.inr ⟨y, rfl, hl1, hm1, by simpa using hz1, hcell, hwz⟩)
      exact ⟨x, some y, l1, c1, zs.take l1, rfl, this, r1, r2, r3⟩
end Go.Proofs.YtnfbficpodnglaaDoor
