/- Contracts: the deferred closure of frame.Open: where a bad panicked, where nothing did. Conditions: its cells. -/
import Derived.Test.YtcbcoaafdggniaaFrm7
import Derived.Test.YtcbcoaafdggniaaG1
import Derived.Laws.Pointers
namespace Go.Proofs.Ytcbcoaafdggniaa
open Go.RowKit Go.Shelf Go.Proofs.YtcbcoaafdggniaaW.PrintWords Go.Proofs.YtcbcoaafdggniaaW.PrintMore
set_option linter.unusedVariables false
set_option linter.unusedSimpArgs false
theorem assert_nil (W : World) : (Instr.typeAssert .nilIface 20 47 true).run Try.prog W = .ok (.tuple #[.agg #[.int .i64 0], .bool false]) W := by
  simp [Instr.typeAssert, go_sem]
theorem assert_bad (x : Int) (W : World) : (Instr.typeAssert (.iface 47 (.agg #[.int .i64 x])) 20 47 true).run Try.prog W = .ok (.tuple #[.agg #[.int .i64 x], .bool true]) W := by
  simp [Instr.typeAssert, go_sem]
theorem catch_idle (p q : Addr) (w : World) :
    CallsD Try.prog 24 #[.pointer (some p), .pointer (some q)] .returning w fun e u' w' => e = .returned (.tuple #[]) ∧ u' = .returning ∧ Below w.heap.size w w' := by
  refine callsD_of_wpS Try.func24 rfl fun c₀ cs hu => ?_
  simp only [Try.ntmps24, List.size_toArray, List.length_cons, List.length_nil, Nat.reduceAdd, Nat.reduceSub, Array.replicate_succ, Array.replicate_zero, List.push_toArray, List.append_toArray, List.nil_append, List.cons_append]
  refine wpS_recover (v := .nilIface) (cs' := c₀ :: cs) rfl (by rfl) (by rfl) (.inr ⟨by simp [recoverD, hu], rfl, rfl⟩) ?_ ?_
  · rintro ⟨a, w, u, h, _⟩
    cases h
  have hta := assert_nil
  go_wp2
  exact ⟨rfl, .returning, by cases c₀; simp_all, _, results_none rfl _ _ _, rfl, rfl, below_alloc (Below.refl _ _) _⟩
theorem catch_bad (g : Nat) (x : Int) (e0 : Int) (v0 : Value) (h1 : v0.oneCell' = true) (w : World) (hc : w.heap[g]? = some (.cells #[v0] 22 (0, 0))) (hd : w.heap[g + 1]? = some (.cells #[.int .i64 e0] 28 (0, 0))) :
    CallsD Try.prog 24 #[.pointer (some ⟨g, 0, none⟩), .pointer (some ⟨g + 1, 0, none⟩)] (.panicking [{ v := .iface 47 (.agg #[.int .i64 x]), recovered := false }]) w fun e u' w' =>
      e = .returned (.tuple #[]) ∧ u' = .panicking [{ v := .iface 47 (.agg #[.int .i64 x]), recovered := true }] ∧ Below g w w' ∧
      w'.heap[g]? = some (.cells #[.slice none 0 0] 22 (0, 0)) ∧ w'.heap[g + 1]? = some (.cells #[.int .i64 x] 28 (0, 0)) := by
  refine callsD_of_wpS Try.func24 rfl fun c₀ cs hu => ?_
  simp only [Try.ntmps24, List.size_toArray, List.length_cons, List.length_nil, Nat.reduceAdd, Nat.reduceSub, Array.replicate_succ, Array.replicate_zero, List.push_toArray, List.append_toArray, List.nil_append, List.cons_append]
  refine wpS_recover (v := .iface 47 (.agg #[.int .i64 x])) (cs' := { c₀ with mode := .panicking [{ v := .iface 47 (.agg #[.int .i64 x]), recovered := true }] } :: cs) rfl (by rfl) (by rfl) (.inl (by simp [recoverD, hu])) ?_ ?_
  · rintro ⟨a, w, u, h, _⟩
    cases h
  have hta := assert_bad
  go_wp2
  have hg : g < w.heap.size := (Array.getElem?_eq_some_iff.1 hc).1
  have hg1 : g + 1 < w.heap.size := (Array.getElem?_eq_some_iff.1 hd).1
  have c1 : w.cell? ⟨g, 0, none⟩ = some v0 := blk_cell hc 0
  have c2 : w.cell? ⟨g + 1, 0, none⟩ = some (.int .i64 e0) := blk_cell hd 0
  have f1 := blk_frozen hc 0
  have f2 := blk_frozen hd 0
  go_region
  have hs1 := blk_far (blk_set hc 0 (.slice none 0 0)) (p := ⟨g + 1, 0, none⟩) (Nat.ne_of_lt (Nat.lt_succ_self g)) (.int .i64 x)
  have hs2 := blk_set (blk_far hd (p := ⟨g, 0, none⟩) (Nat.succ_ne_self g) (.slice none 0 0)) 0 (.int .i64 x)
  exact ⟨rfl, _, rfl, _, results_none rfl _ _ _, rfl, rfl, Below.drew (Below.trans (((Below.refl g w).setCell (p := ⟨g, 0, none⟩) (Nat.le_refl g) _).setCell (p := ⟨g + 1, 0, none⟩) (Nat.le_succ g) _) (Below.mono (below_alloc (Below.refl _ _) _) (by simp; omega))), (Later.heap (below_alloc (Below.refl _ _) _) hs1 :), (Later.heap (below_alloc (Below.refl _ _) _) hs2 :)⟩
end Go.Proofs.Ytcbcoaafdggniaa
