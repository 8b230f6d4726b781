/- Contracts: roll.Word, Hash; lighterageref04's Word, Words, left, Over, Hash. Conditions: each contract's own. -/
import Derived.Test.YtdbgbbodkoppdaaRoll5
import Derived.Test.YtdbgbbodkoppdaaG1
namespace Go.Proofs.Ytdbgbbodkoppdaa
open Go.RowKit Go.Proofs.YtdbgbbodkoppdaaW.PrintWords Go.Proofs.YtdbgbbodkoppdaaW.PrintMore
set_option linter.unusedVariables false
set_option linter.unusedSimpArgs false
section
variable {P : Program} {ops : Array Oper} {rest : List Oper} {o : Oper} {a : Act} {Q : Exit → Act → World → Prop} {w : World}
theorem at_alr {d : Option Tmp} {ty0 : TypeId} {ps : String} {af : Array Edge} (ty : TypeId) (h : wpList P ops Q ({ dst := d, op := .alloc ty, type := ty0, pos := ps, after := af, guard := none } :: rest) a w) : wpList P ops Q ({ dst := d, op := .alloc ty, type := ty0, pos := ps, after := af, guard := none } :: rest) a w := h
theorem alloc_arm (hgd : o.guard = none) {N : Tmp} (hd : o.dst = some N) (t : TypeId) (ho : o.op = .alloc t) {C : Array Value} (hC : (P.info? t).bind (fun i => i.zero.map (·.cells)) = some C)
    (h : wpList P ops Q rest (a.put (some N) (.pointer (some ⟨w.heap.size, 0, none⟩))) (w.alloc (.cells C t))) : wpList P ops Q (o :: rest) a w := by
  refine wpList_plain hgd fun K hK => ?_
  unfold Oper.wp
  obtain ⟨i, hi, hz⟩ := Option.bind_eq_some_iff.1 hC
  obtain ⟨z, hz2, rfl⟩ := Option.map_eq_some_iff.1 hz
  have hr : (execOp a.eval o).run P w = .ok (.value (.pointer (some ⟨w.heap.size, 0, none⟩))) (w.alloc (.cells z.cells t)) := by
    unfold execOp
    simp only [ho, Sem.run_bind, alloc_run hi hz2, Result.andThen_ok, Sem.run_pure]
  rw [hr]
  refine hK _ _ ?_
  rw [hd]
  exact h
end
set_option maxRecDepth 20000 in
theorem zero_wd : (Try.prog.info? 77).bind (fun i => i.zero.map (·.cells)) = some (Oc 0 0 (List.replicate 256 0) []).toArray := by kernel_rfl
theorem take_snoc_ {xs : List Int} {k : Nat} (h : k < xs.length) : xs.take (k + 1) = xs.take k ++ [rd xs k] := by
  unfold Go.Proofs.YtdbgbbodkoppdaaW.PrintWords.rd
  rw [Int.toNat_natCast, List.take_add_one, List.getD_eq_getElem?_getD, List.getElem?_eq_getElem h]
  rfl
theorem wst_div (x : Int) (h : 0 ≤ x ∧ x < 4294967296) : Go.bits .xor .u32 (Go.bits .xor .u32 (Go.bits .xor .u32 x (x * 8192 % 4294967296)) ((Go.bits .xor .u32 x (x * 8192 % 4294967296)).tdiv 131072 % 4294967296)) (Go.bits .xor .u32 (Go.bits .xor .u32 x (x * 8192 % 4294967296)) ((Go.bits .xor .u32 x (x * 8192 % 4294967296)).tdiv 131072 % 4294967296) * 32 % 4294967296) = wst x := by
  have h1 := xs1_range h
  have e : (Go.bits .xor .u32 x (x * 8192 % 4294967296)).tdiv 131072 % 4294967296 = Go.bits .xor .u32 x (x * 8192 % 4294967296) / 131072 := by
    have h2 : 0 ≤ Go.bits .xor .u32 x (x * 8192 % 4294967296) ∧ Go.bits .xor .u32 x (x * 8192 % 4294967296) < 4294967296 := h1
    rw [Int.tdiv_eq_ediv_of_nonneg h2.1]
    omega
  rw [e]
  rfl
end Go.Proofs.Ytdbgbbodkoppdaa
