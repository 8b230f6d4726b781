/- cut.Sizes; lighterageref01.SameInts. Conditions: their own. -/
import Derived.Test.YtdfahblgnbdndaaDoorCut7
namespace Go.Proofs.YtdfahblgnbdndaaDoor
open Go.RowKit Go.Shelf Go.Proofs.YtdfahblgnbdndaaDoorW.PrintWords Go.Proofs.YtdfahblgnbdndaaDoorW.PrintMore
set_option linter.unusedVariables false
set_option linter.unusedSimpArgs false
attribute [local go_sem] Oper.semAt_some
abbrev OwN (w : World) (base : Nat) (v : Value) (xs : List Int) : Prop := (Kd.int .i64).R 3 w base (fun _ => True) v xs
abbrev RdN (w : World) (A : Option Addr) (n : Nat) (xs : List Int) : Prop := (Kd.int .i64).C w A n xs
theorem infoN : (Tryd.prog.info? 3).map (fun i => (i.zero, i.size, i.bytes)) = some (some (.int .i64 0), 1, 8) := by kernel_rfl
theorem OwN.move {w w1 : World} {base : Nat} {v : Value} {xs : List Int} (h : OwN w base v xs) (hm : ∀ k cells, base ≤ k → w.heap[k]? = some (.cells cells 3 (0, 0)) → w1.heap[k]? = w.heap[k]?) : OwN w1 base v xs :=
  Kd.R_mono (Kd.R_move (Kd.R_bound h) (fun k hk => by
    obtain ⟨_, hb, _, q, hq, cells, hc⟩ := hk
    rcases List.mem_cons.1 hq with rfl | hq
    · exact hm k cells hb hc
    · cases hq)) (fun _ hk => hk.1)
def lens (L : List (List Int)) : List Int := L.map fun c => (c.length : Int)
theorem three_new (w : World) (c2 c3 c4 : Array Value) (t2 t3 t4 : Nat) :
    let w4 := ((w.alloc (.cells c2 t2)).alloc (.cells c3 t3)).alloc (.cells c4 t4)
    (w4.heap[w.heap.size]? = some (.cells c2 t2 (0, 0))) ∧ (w4.heap[w.heap.size + 1]? = some (.cells c3 t3 (0, 0))) ∧ (w4.heap[w.heap.size + 1 + 1]? = some (.cells c4 t4 (0, 0))) ∧ Below w.heap.size w w4 ∧ w4.heap.size = w.heap.size + 3 := by
  have s2 : (w.alloc (.cells c2 t2)).heap.size = w.heap.size + 1 := by simp
  have s3 : ((w.alloc (.cells c2 t2)).alloc (.cells c3 t3)).heap.size = w.heap.size + 1 + 1 := by simp
  refine ⟨?_, ?_, ?_, ?_, by simp⟩
  · rw [Below.heap_alloc _ _ _ (by omega), Below.heap_alloc _ _ _ (by omega)]
    exact blk_new w (.cells c2 t2)
  · rw [Below.heap_alloc _ _ _ (by omega)]
    have := blk_new (w.alloc (.cells c2 t2)) (.cells c3 t3)
    rwa [s2] at this
  · have := blk_new ((w.alloc (.cells c2 t2)).alloc (.cells c3 t3)) (.cells c4 t4)
    rwa [s3] at this
  · exact (((Below.refl _ w).alloc (Nat.le_refl _) _).alloc (by omega) _).alloc (by omega) _
end Go.Proofs.YtdfahblgnbdndaaDoor
