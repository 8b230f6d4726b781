/- Drawn regions that write whole variables. Plain theorems over any program. -/
import Derived.Test.YtnohkhaagkkhjaaRegion
import Derived.Test.YtnohkhaagkkhjaaMem
namespace Go.Proofs.Ytnohkhaagkkhjaa
open Go.RowKit Go.Proofs.YtnohkhaagkkhjaaW.PrintWords Go.Proofs.YtnohkhaagkkhjaaW.PrintMore
set_option linter.unusedVariables false
section
variable {P : Program} {ops : Array Oper} {Q : Exit → Act → World → Prop} {ds : List Nat}
/-- A whole variable is written, in a drawn region. -/
theorem do_blk {i : Nat} {o : Oper} {a : Act} {w : World} {K : Act → World → Prop} (hi : ops[i]? = some o) (hN : o.dst = none) (hw : Region.wanted o (yielded ops a.tmps) = true) (ty : TypeId) (x y : Operand) (ho : o.op = .store ty x y) {g : Nat} {vs : List Value} (hx : a.eval x = .pointer (some ⟨g, 0, none⟩)) (hy : a.eval y = .agg vs.toArray)
    {cur : Array Value} {e : TypeId} (hg : w.heap[g]? = some (.cells cur e (0, 0))) (hs : cur.size = vs.length) (hi' : (P.info? ty).map (·.size) = some vs.length) (h1 : ∀ v ∈ vs, v.oneCell' = true)
    (h : ∀ w1, SetBlk w w1 g (.cells vs.toArray e (0, 0)) → K a w1) : wpOp P ops Q i K a w :=
  do_store hi hN hw (store_run ho hx hy (st_row hg ty vs hs hi' h1)) (h _ (setBlk_cells hg vs hs))
end
theorem Later.heap {w w' : World} {g : Nat} {o : Obj} (h : Later w w') (hg : w.heap[g]? = some o) : w'.heap[g]? = some o := by
  rw [h.block g (Array.getElem?_eq_some_iff.1 hg).1]
  exact hg
theorem new3 (w : World) (a b c : Obj) : (((w.alloc a).alloc b).alloc c).drew.heap[w.heap.size + 1 + 1]? = some c := by
  show (((w.alloc a).alloc b).alloc c).heap[w.heap.size + 1 + 1]? = some c
  rw [show w.heap.size + 1 + 1 = ((w.alloc a).alloc b).heap.size by simp]
  show (((w.alloc a).alloc b).heap.push c)[_]? = some c
  exact Array.getElem?_push_size
theorem mid3 (w : World) (a b c : Obj) : (((w.alloc a).alloc b).alloc c).drew.heap[w.heap.size + 1]? = some b := by
  show (((w.alloc a).alloc b).alloc c).heap[w.heap.size + 1]? = some b
  have h := heap_alloc2_new w a b
  have hl := (Array.getElem?_eq_some_iff.1 h).1
  exact ((Below.refl _ _).alloc (Nat.le_refl _) _ : Below ((w.alloc a).alloc b).heap.size _ (((w.alloc a).alloc b).alloc c)).block _ hl |>.trans h
theorem old3 (w : World) (a b c : Obj) : (((w.alloc a).alloc b).alloc c).drew.heap[w.heap.size]? = some a := by
  show (((w.alloc a).alloc b).alloc c).heap[w.heap.size]? = some a
  have h := heap_alloc2_old w a b
  have hl := (Array.getElem?_eq_some_iff.1 h).1
  exact ((Below.refl _ _).alloc (Nat.le_refl _) _ : Below ((w.alloc a).alloc b).heap.size _ (((w.alloc a).alloc b).alloc c)).block _ hl |>.trans h
theorem below3 (w : World) (a b c : Obj) : Below w.heap.size w (((w.alloc a).alloc b).alloc c).drew :=
  Below.drew ((((Below.refl _ _).alloc (Nat.le_refl _) _).alloc (by simp) _).alloc (by simp; omega) _)
end Go.Proofs.Ytnohkhaagkkhjaa
