/- client.Client's Step: who is due; one is asked for. Conditions: their own. -/
import Derived.Test.YtnkkjmbpopodlaaCl3
namespace Go.Proofs.Ytnkkjmbpopodlaa
open Go.RowKit Go.Proofs.YtnkkjmbpopodlaaW.PrintWords Go.Proofs.YtnkkjmbpopodlaaW.PrintMore
set_option linter.unusedVariables false
set_option linter.unusedSimpArgs false
section
variable {P : Program} {ops : Array Oper} {Q : Exit → Act → World → Prop}
/-- A call of a func value, in a drawn region. -/
theorem do_callV {i : Nat} {o : Oper} {N : Tmp} {a : Act} {w : World} {K : Act → World → Prop} {f : FuncId} {fn : Func} {ars : Array Operand} {ts : Array TypeId} (hi : ops[i]? = some o) (hN : o.dst = some N) (hw : Region.wanted o (yielded ops a.tmps) = true)
    (x : Operand) (K0 : Array Value) (hop : o.op = .call { callee := .value x, args := ars, argTypes := ts }) (hx : a.eval x = .func (.func f) #[] K0) (hf : P.funcs[f]? = some fn) (hname : (fn.name == "runtime.NumGoroutine") = false) (hb : fn.body.isSome = true) (args : Array Value)
    (hargs : ars.map a.eval ++ K0 = args)
    (h : Calls P f args w fun e w' => ∃ v a', e = .returned v ∧ a.put (some N) v = a' ∧ K a' w') : wpOp P ops Q i K a w := by
  refine do_ hi hw ?_
  have he := Go.Proofs.YtnkkjmbpopodlaaW.PrintLast.enters_ hf hname hb args w
  have hr : (execOp a.eval o).run P w = .ok (.enter f args) w := by
    unfold execOp
    simp [hop, resolve, Deferred.ofValue, invoke, hx, hargs, he]
  unfold Oper.wp
  rw [hr, Oper.upon_enter]
  refine h.mono fun e w'' hh => ?_
  obtain ⟨v, a', rfl, rfl, hk⟩ := hh
  rw [← hN] at hk
  exact hk
end
theorem step1_calls (x : Wt) (m t : Int) (q : Nat) (C : Array Value) (w : World) (hC : C = (pcells x).toArray) (hx : x.ok m) (hq : w.heap[q]? = some (.cells #[.int .i64 t] 3 (0, 0))) :
    Calls Try.prog 28 #[.agg C, .pointer (some ⟨q, 0, none⟩)] w fun e w' => e = .returned (.bool (late t x)) ∧ Below w.heap.size w w' := by
  obtain ⟨w1, hw1⟩ : ∃ w1, w1 = w.alloc (.cells C 55) := ⟨_, rfl⟩
  have HB : Aside0 (Below w.heap.size w w1) := ⟨by rw [hw1]; exact below_alloc (Below.refl _ w) _⟩
  have hF : w1.heap[w.heap.size]? = some (.cells (pcells x).toArray 55 (0, 0)) := by rw [hw1, hC]; exact blk_new w _
  obtain ⟨c0, c1, c2, c3⟩ := p_cells hF hx.1
  have ct : w1.cell? ⟨q, 0, none⟩ = some (.int .i64 t) := by rw [blk_cell (Later.heap HB.out hq)]; rfl
  have HI : Aside0 (Calls Try.prog 20 #[.pointer (some ⟨w.heap.size, 0, none⟩)] w1 fun e w' => e = .returned (.bool (x.st == 1)) ∧ w1 = w') := ⟨by rw [← hx.asked]; exact isa_calls w.heap.size 0 _ _ w1 (by simpa using c0) (by simpa using c1)⟩
  clear hC hF hx hq c0 c1 c2
  by_cases hst : x.st = 1
  · have HE : Aside0 (late t x = decide (x.due ≤ t)) := ⟨by simp [late, hst]⟩
    rw [show (x.st == 1) = true by simp [hst]] at HI
    go_enter Try.func28, Try.ntmps28
    go_upto_region 1 with fail
    refine at_w1 (w := w1) hw1 ?_
    clear hw1
    go_wp2_with (go_at_call 20; refine HI.out.mono ?_; rintro e w2 ⟨rfl, rfl⟩)
    go_ret
    exact ⟨by rw [HE.out]; rfl, HB.out⟩
  · have HE : Aside0 (late t x = false) := ⟨by simp [late, hst]⟩
    rw [show (x.st == 1) = false by simp [hst]] at HI
    go_enter Try.func28, Try.ntmps28
    go_upto_region 1 with fail
    refine at_w1 (w := w1) hw1 ?_
    clear hw1 hst
    go_wp2_with (go_at_call 20; refine HI.out.mono ?_; rintro e w2 ⟨rfl, rfl⟩)
    go_ret
    exact ⟨by rw [HE.out]; rfl, HB.out⟩
/-- What Step's closures stand on: the tick's block, the variable that holds the first closure, the receiver's. -/
structure StV (w : World) (q qo qc g : Nat) (t : Int) : Prop where
  tick : w.heap[q]? = some (.cells #[.int .i64 t] 3 (0, 0))
  ov : w.heap[qo]? = some (.cells #[.func (.func 28) #[] #[.pointer (some ⟨q, 0, none⟩)]] 68 (0, 0))
  rc : w.heap[qc]? = some (.cells #[.pointer (some ⟨g, 0, none⟩)] 24 (0, 0))
theorem StV.below {w w1 : World} {q qo qc g : Nat} {t : Int} (h : StV w q qo qc g t) (k : Below w.heap.size w w1) : StV w1 q qo qc g t := ⟨Later.heap k h.tick, Later.heap k h.ov, Later.heap k h.rc⟩
theorem StV.cells {w : World} {q qo qc g : Nat} {t : Int} (h : StV w q qo qc g t) : w.cell? ⟨q, 0, none⟩ = some (.int .i64 t) ∧ w.cell? ⟨qo, 0, none⟩ = some (.func (.func 28) #[] #[.pointer (some ⟨q, 0, none⟩)]) ∧ w.cell? ⟨qc, 0, none⟩ = some (.pointer (some ⟨g, 0, none⟩)) := by
  refine ⟨?_, ?_, ?_⟩
  case _ => rw [blk_cell h.tick]; rfl
  case _ => rw [blk_cell h.ov]; rfl
  case _ => rw [blk_cell h.rc]; rfl
set_option maxRecDepth 20000 in
theorem step2_calls (x : Wt) (m t : Int) (B g tb q qo qc : Nat) (c : Cl) (v : Value) (C : Array Value) (w : World) (hC : C = (pcells x).toArray) (hx : x.ok m) (hS : StV w q qo qc g t) (hP : PCl w B g tb c v) :
    Calls Try.prog 30 #[.agg C, .pointer (some ⟨qo, 0, none⟩), .pointer (some ⟨qc, 0, none⟩)] w fun e w' => e = .returned (.bool (late t x && decide (c.tries ≤ x.asks))) ∧ Below w.heap.size w w' := by
  obtain ⟨w1, hw1⟩ : ∃ w1, w1 = w.alloc (.cells C 55) := ⟨_, rfl⟩
  have HB : Aside0 (Below w.heap.size w w1) := ⟨by rw [hw1]; exact below_alloc (Below.refl _ w) _⟩
  have HF : Aside0 (w1.heap[w.heap.size]? = some (.cells (pcells x).toArray 55 (0, 0))) := ⟨by rw [hw1, hC]; exact blk_new w _⟩
  have HS := Aside0.mk (hS.below HB.out)
  have HP := Aside0.mk (hP.below HB.out)
  have HX := Aside0.mk hx
  have HX32 := Aside0.mk hx.1
  have HC1 : Aside0 (∀ W, Later w1.drew W → Calls Try.prog 28 #[.agg (pcells x).toArray, .pointer (some ⟨q, 0, none⟩)] W fun e w' => e = .returned (.bool (late t x)) ∧ Below W.heap.size W w') := ⟨fun W hW => step1_calls x m t q _ W rfl HX.out (HS.out.below ((Below.drew (Later.refl w1)).trans hW)).tick⟩
  clear hC hx hS hP
  rcases hl : late t x with _ | _
  · have HE : Aside0 ((false && decide (c.tries ≤ x.asks)) = false) := ⟨rfl⟩
    rw [hl] at HC1
    go_enter Try.func30, Try.ntmps30
    go_upto_region 1 with fail
    refine at_w1 (w := w1) hw1 ?_
    clear hw1 hl
    refine seq_startN [] (.take 0 (.take 1 (.run 2 (.take 3 (.take 4 (.take 5 (.take 6 (.take 7 (.take 8 (.take 9 (.take 10 (.take 11 (.take 12 .done))))))))))))) (by kernel_rfl) (by kernel_rfl) ?_
    refine seq_take (v := ?_) (a' := ?_) rfl rfl (by rfl) (fun w' hw' => ?_) ?_ ?_
    rotate_left 2
    · obtain ⟨s0, s1, s2⟩ := (HS.out.below ((Below.drew (Later.refl w1)).trans hw')).cells; go_simp
      with_reducible rfl
    · simp only [Act.put, List.setIfInBounds_toArray, List.set_cons_zero, List.set_cons_succ, Go.Proofs.YtnkkjmbpopodlaaW.PrintLast.i64_w, Go.Proofs.YtnkkjmbpopodlaaW.PrintLast.i32_w]
      rfl
    refine seq_take (v := _) (a' := ?_) rfl rfl (by rfl) (fun w' hw' => load_run rfl rfl (ld_row (Later.heap hw' (show w1.drew.heap[w.heap.size]? = _ from HF.out)) 55 _ Try.underlying55 rfl (by rw [List.size_toArray]; exact size_p HX32.out))) ?_ ?_
    rotate_left
    · simp only [Act.put, List.setIfInBounds_toArray, List.set_cons_zero, List.set_cons_succ, Go.Proofs.YtnkkjmbpopodlaaW.PrintLast.i64_w, Go.Proofs.YtnkkjmbpopodlaaW.PrintLast.i32_w]
      rfl
    refine seq_run ?_
    refine do_callV rfl rfl (by rfl) (.tmp 5) _ rfl rfl Try.func28 (by kernel_rfl) rfl #[.agg (pcells x).toArray, .pointer (some ⟨q, 0, none⟩)] (by simp only [List.map_toArray, List.map_cons, List.map_nil]; rfl) ?_
    with_reducible refine (HC1.out _ (Later.refl _)).mono ?_
    rintro e w2 ⟨rfl, hB2⟩
    refine ⟨_, ?_, rfl, ?_, fun _ => hB2, ?_⟩
    rotate_left
    · simp only [Act.put, List.setIfInBounds_toArray, List.set_cons_zero, List.set_cons_succ]
      rfl
    have HB2 : Aside0 (Below w.heap.size w w2) := ⟨below_tr HB.out (Later.trans (Below.drew (Later.refl w1)) hB2) HB.out.size⟩
    clear hB2
    refine seq_take (v := ?_) (a' := ?_) rfl rfl (by rfl) (fun w' hw' => ?_) ?_ ?_
    rotate_left 2
    · go_simp
      with_reducible rfl
    · simp only [Act.put, List.setIfInBounds_toArray, List.set_cons_zero, List.set_cons_succ, Go.Proofs.YtnkkjmbpopodlaaW.PrintLast.i64_w, Go.Proofs.YtnkkjmbpopodlaaW.PrintLast.i32_w]
      rfl
    refine seq_off (a' := ?_) rfl rfl (by rfl) ?_ ?_
    rotate_left
    · simp only [Act.put, List.setIfInBounds_toArray, List.set_cons_zero, List.set_cons_succ, Go.Proofs.YtnkkjmbpopodlaaW.PrintLast.i64_w, Go.Proofs.YtnkkjmbpopodlaaW.PrintLast.i32_w]
      rfl
    refine seq_off (a' := ?_) rfl rfl (by rfl) ?_ ?_
    rotate_left
    · simp only [Act.put, List.setIfInBounds_toArray, List.set_cons_zero, List.set_cons_succ, Go.Proofs.YtnkkjmbpopodlaaW.PrintLast.i64_w, Go.Proofs.YtnkkjmbpopodlaaW.PrintLast.i32_w]
      rfl
    refine seq_off (a' := ?_) rfl rfl (by rfl) ?_ ?_
    rotate_left
    · simp only [Act.put, List.setIfInBounds_toArray, List.set_cons_zero, List.set_cons_succ, Go.Proofs.YtnkkjmbpopodlaaW.PrintLast.i64_w, Go.Proofs.YtnkkjmbpopodlaaW.PrintLast.i32_w]
      rfl
    refine seq_off (a' := ?_) rfl rfl (by rfl) ?_ ?_
    rotate_left
    · simp only [Act.put, List.setIfInBounds_toArray, List.set_cons_zero, List.set_cons_succ, Go.Proofs.YtnkkjmbpopodlaaW.PrintLast.i64_w, Go.Proofs.YtnkkjmbpopodlaaW.PrintLast.i32_w]
      rfl
    refine seq_off (a' := ?_) rfl rfl (by rfl) ?_ ?_
    rotate_left
    · simp only [Act.put, List.setIfInBounds_toArray, List.set_cons_zero, List.set_cons_succ, Go.Proofs.YtnkkjmbpopodlaaW.PrintLast.i64_w, Go.Proofs.YtnkkjmbpopodlaaW.PrintLast.i32_w]
      rfl
    refine seq_off (a' := ?_) rfl rfl (by rfl) ?_ ?_
    rotate_left
    · simp only [Act.put, List.setIfInBounds_toArray, List.set_cons_zero, List.set_cons_succ, Go.Proofs.YtnkkjmbpopodlaaW.PrintLast.i64_w, Go.Proofs.YtnkkjmbpopodlaaW.PrintLast.i32_w]
      rfl
    refine seq_off (a' := ?_) rfl rfl (by rfl) ?_ ?_
    rotate_left
    · simp only [Act.put, List.setIfInBounds_toArray, List.set_cons_zero, List.set_cons_succ, Go.Proofs.YtnkkjmbpopodlaaW.PrintLast.i64_w, Go.Proofs.YtnkkjmbpopodlaaW.PrintLast.i32_w]
      rfl
    refine seq_take (v := ?_) (a' := ?_) rfl rfl (by rfl) (fun w' hw' => ?_) ?_ ?_
    rotate_left 2
    · go_simp
      with_reducible rfl
    · simp only [Act.put, List.setIfInBounds_toArray, List.set_cons_zero, List.set_cons_succ, Go.Proofs.YtnkkjmbpopodlaaW.PrintLast.i64_w, Go.Proofs.YtnkkjmbpopodlaaW.PrintLast.i32_w]
      rfl
    refine seq_take (v := ?_) (a' := ?_) rfl rfl (by rfl) (fun w' hw' => ?_) ?_ ?_
    rotate_left 2
    · go_simp
      with_reducible rfl
    · simp only [Act.put, List.setIfInBounds_toArray, List.set_cons_zero, List.set_cons_succ, Go.Proofs.YtnkkjmbpopodlaaW.PrintLast.i64_w, Go.Proofs.YtnkkjmbpopodlaaW.PrintLast.i32_w]
      rfl
    refine seq_endN ?_
    go_wp2
    go_ret
    exact ⟨rfl, HB2.out⟩
  · rw [hl] at HC1
    rcases hd : decide (c.tries ≤ x.asks) with _ | _
    all_goals
      have HD := Aside0.mk hd
      clear hd
      go_enter Try.func30, Try.ntmps30
      go_upto_region 1 with fail
      refine at_w1 (w := w1) hw1 ?_
      clear hw1 hl
      refine seq_startN [] (.take 0 (.take 1 (.run 2 (.take 3 (.take 4 (.take 5 (.take 6 (.take 7 (.take 8 (.take 9 (.take 10 (.take 11 (.take 12 .done))))))))))))) (by kernel_rfl) (by kernel_rfl) ?_
      refine seq_take (v := ?_) (a' := ?_) rfl rfl (by rfl) (fun w' hw' => ?_) ?_ ?_
      rotate_left 2
      · obtain ⟨s0, s1, s2⟩ := (HS.out.below ((Below.drew (Later.refl w1)).trans hw')).cells; go_simp
        with_reducible rfl
      · simp only [Act.put, List.setIfInBounds_toArray, List.set_cons_zero, List.set_cons_succ, Go.Proofs.YtnkkjmbpopodlaaW.PrintLast.i64_w, Go.Proofs.YtnkkjmbpopodlaaW.PrintLast.i32_w]
        rfl
      refine seq_take (v := _) (a' := ?_) rfl rfl (by rfl) (fun w' hw' => load_run rfl rfl (ld_row (Later.heap hw' (show w1.drew.heap[w.heap.size]? = _ from HF.out)) 55 _ Try.underlying55 rfl (by rw [List.size_toArray]; exact size_p HX32.out))) ?_ ?_
      rotate_left
      · simp only [Act.put, List.setIfInBounds_toArray, List.set_cons_zero, List.set_cons_succ, Go.Proofs.YtnkkjmbpopodlaaW.PrintLast.i64_w, Go.Proofs.YtnkkjmbpopodlaaW.PrintLast.i32_w]
        rfl
      refine seq_run ?_
      refine do_callV rfl rfl (by rfl) (.tmp 5) _ rfl rfl Try.func28 (by kernel_rfl) rfl #[.agg (pcells x).toArray, .pointer (some ⟨q, 0, none⟩)] (by simp only [List.map_toArray, List.map_cons, List.map_nil]; rfl) ?_
      with_reducible refine (HC1.out _ (Later.refl _)).mono ?_
      rintro e w2 ⟨rfl, hB2⟩
      refine ⟨_, ?_, rfl, ?_, fun _ => hB2, ?_⟩
      rotate_left
      · simp only [Act.put, List.setIfInBounds_toArray, List.set_cons_zero, List.set_cons_succ]
        rfl
      have HB2 : Aside0 (Below w.heap.size w w2) := ⟨below_tr HB.out (Later.trans (Below.drew (Later.refl w1)) hB2) HB.out.size⟩
      have HW2 : Aside0 (Below w1.heap.size w1 w2) := ⟨Later.trans (Below.drew (Later.refl w1)) hB2⟩
      clear hB2
      refine seq_take (v := ?_) (a' := ?_) rfl rfl (by rfl) (fun w' hw' => ?_) ?_ ?_
      rotate_left 2
      · go_simp
        with_reducible rfl
      · simp only [Act.put, List.setIfInBounds_toArray, List.set_cons_zero, List.set_cons_succ, Go.Proofs.YtnkkjmbpopodlaaW.PrintLast.i64_w, Go.Proofs.YtnkkjmbpopodlaaW.PrintLast.i32_w]
        rfl
      refine seq_take (v := ?_) (a' := ?_) rfl rfl (by rfl) (fun w' hw' => ?_) ?_ ?_
      rotate_left 2
      · go_simp
        with_reducible rfl
      · simp only [Act.put, List.setIfInBounds_toArray, List.set_cons_zero, List.set_cons_succ, Go.Proofs.YtnkkjmbpopodlaaW.PrintLast.i64_w, Go.Proofs.YtnkkjmbpopodlaaW.PrintLast.i32_w]
        rfl
      refine seq_take (v := ?_) (a' := ?_) rfl rfl (by rfl) (fun w' hw' => ?_) ?_ ?_
      rotate_left 2
      · obtain ⟨c0, c1, c2, c3⟩ := p_cells (Later.heap hw' (Later.heap HW2.out HF.out)) HX32.out; go_simp
        with_reducible rfl
      · simp only [Act.put, List.setIfInBounds_toArray, List.set_cons_zero, List.set_cons_succ, Go.Proofs.YtnkkjmbpopodlaaW.PrintLast.i64_w, Go.Proofs.YtnkkjmbpopodlaaW.PrintLast.i32_w]
        rfl
      refine seq_take (v := ?_) (a' := ?_) rfl rfl (by rfl) (fun w' hw' => ?_) ?_ ?_
      rotate_left 2
      · obtain ⟨s0, s1, s2⟩ := (HS.out.below (Later.trans HW2.out hw')).cells; go_simp
        with_reducible rfl
      · simp only [Act.put, List.setIfInBounds_toArray, List.set_cons_zero, List.set_cons_succ, Go.Proofs.YtnkkjmbpopodlaaW.PrintLast.i64_w, Go.Proofs.YtnkkjmbpopodlaaW.PrintLast.i32_w]
        rfl
      refine seq_take (v := ?_) (a' := ?_) rfl rfl (by rfl) (fun w' hw' => ?_) ?_ ?_
      rotate_left 2
      · go_simp
        with_reducible rfl
      · simp only [Act.put, List.setIfInBounds_toArray, List.set_cons_zero, List.set_cons_succ, Go.Proofs.YtnkkjmbpopodlaaW.PrintLast.i64_w, Go.Proofs.YtnkkjmbpopodlaaW.PrintLast.i32_w]
        rfl
      refine seq_take (v := ?_) (a' := ?_) rfl rfl (by rfl) (fun w' hw' => ?_) ?_ ?_
      rotate_left 2
      · go_simp
        with_reducible rfl
      · simp only [Act.put, List.setIfInBounds_toArray, List.set_cons_zero, List.set_cons_succ, Go.Proofs.YtnkkjmbpopodlaaW.PrintLast.i64_w, Go.Proofs.YtnkkjmbpopodlaaW.PrintLast.i32_w]
        rfl
      refine seq_take (v := ?_) (a' := ?_) rfl rfl (by rfl) (fun w' hw' => ?_) ?_ ?_
      rotate_left 2
      · obtain ⟨q0, q1, q2, q3, q4, q5, q6⟩ := (HP.out.below (Later.trans HW2.out hw')).cells; go_simp
        with_reducible rfl
      · simp only [Act.put, List.setIfInBounds_toArray, List.set_cons_zero, List.set_cons_succ, Go.Proofs.YtnkkjmbpopodlaaW.PrintLast.i64_w, Go.Proofs.YtnkkjmbpopodlaaW.PrintLast.i32_w]
        rfl
      refine seq_take (v := ?_) (a' := ?_) rfl rfl (by rfl) (fun w' hw' => ?_) ?_ ?_
      rotate_left 2
      · have hd := HD.out; go_simp
        with_reducible rfl
      · simp only [Act.put, List.setIfInBounds_toArray, List.set_cons_zero, List.set_cons_succ, Go.Proofs.YtnkkjmbpopodlaaW.PrintLast.i64_w, Go.Proofs.YtnkkjmbpopodlaaW.PrintLast.i32_w]
        rfl
      refine seq_take (v := ?_) (a' := ?_) rfl rfl (by rfl) (fun w' hw' => ?_) ?_ ?_
      rotate_left 2
      · go_simp
        with_reducible rfl
      · simp only [Act.put, List.setIfInBounds_toArray, List.set_cons_zero, List.set_cons_succ, Go.Proofs.YtnkkjmbpopodlaaW.PrintLast.i64_w, Go.Proofs.YtnkkjmbpopodlaaW.PrintLast.i32_w]
        rfl
      refine seq_take (v := ?_) (a' := ?_) rfl rfl (by rfl) (fun w' hw' => ?_) ?_ ?_
      rotate_left 2
      · go_simp
        with_reducible rfl
      · simp only [Act.put, List.setIfInBounds_toArray, List.set_cons_zero, List.set_cons_succ, Go.Proofs.YtnkkjmbpopodlaaW.PrintLast.i64_w, Go.Proofs.YtnkkjmbpopodlaaW.PrintLast.i32_w]
        rfl
      refine seq_endN ?_
      go_wp2
      go_ret
      exact ⟨by rfl, HB2.out⟩
end Go.Proofs.Ytnkkjmbpopodlaa
