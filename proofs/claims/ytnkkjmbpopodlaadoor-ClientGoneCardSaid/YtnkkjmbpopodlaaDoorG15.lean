/- Plain lemmas and contracts, several texts in one: Cl4, Cl5, Cl6. Conditions: their own. -/
import Derived.Test.YtnkkjmbpopodlaaDoorG14
namespace Go.Proofs.YtnkkjmbpopodlaaDoor
open Go.Proofs.YtnkkjmbpopodlaaDoorW.PrintLast (i64_w i32_w)
open Go.RowKit Go.Proofs.YtnkkjmbpopodlaaDoorW.PrintWords Go.Proofs.YtnkkjmbpopodlaaDoorW.PrintMore
set_option linter.unusedVariables false
set_option linter.unusedSimpArgs false
section
variable {P : Program} {ops : Array Oper} {Q : Exit → Act → World → Prop}
/-- A call of a func value, in a drawn region. -/
theorem do_callV {i : Nat} {o : Oper} {N : Tmp} {a : Act} {w : World} {K : Act → World → Prop} {f : FuncId} {fn : Func} {ars : Array Operand} {ts : Array TypeId} (hi : ops[i]? = some o) (hN : o.dst = some N) (hw : Region.wanted o (yielded ops a.tmps) = true)
    (x : Operand) (K0 : Array Value) (hop : o.op = .call { callee := .value x, args := ars, argTypes := ts }) (hx : a.eval x = .func (.func f) #[] K0) (hf : P.funcs[f]? = some fn) (hname : (fn.name == "runtime.NumGoroutine") = false) (hb : fn.body.isSome = true) (args : Array Value)
    (hargs : ars.map a.eval ++ K0 = args)
    (h : Calls P f args w fun e w' => ∃ v a', e = .returned v ∧ a.put (some N) v = a' ∧ K a' w') : wpOp P ops Q i K a w := by
  refine do_ hi hw ?_
  have he := Go.Proofs.YtnkkjmbpopodlaaDoorW.PrintLast.enters_ hf hname hb args w
  have hr : (execOp a.eval o).run P w = .ok (.enter f args) w := by
    unfold execOp
    simp [hop, resolve, Deferred.ofValue, invoke, hx, hargs, he]
  unfold Oper.wp
  rw [hr, Oper.upon_enter]
  refine h.mono fun e w'' hh => ?_
  obtain ⟨v, a', rfl, rfl, hk⟩ := hh
  rw [← hN] at hk
  exact hk
end
theorem step1_calls (x : Wt) (m t : Int) (q : Nat) (C : Array Value) (w : World) (hC : C = (pcells x).toArray) (hx : x.ok m) (hq : w.heap[q]? = some (.cells #[.int .i64 t] 3 (0, 0))) :
    Calls Tryd.prog 47 #[.agg C, .pointer (some ⟨q, 0, none⟩)] w fun e w' => e = .returned (.bool (late t x)) ∧ Below w.heap.size w w' := by
  obtain ⟨w1, hw1⟩ : ∃ w1, w1 = w.alloc (.cells C 87) := ⟨_, rfl⟩
  have HB : Aside0 (Below w.heap.size w w1) := ⟨by rw [hw1]; exact below_alloc (Below.refl _ w) _⟩
  have hF : w1.heap[w.heap.size]? = some (.cells (pcells x).toArray 87 (0, 0)) := by rw [hw1, hC]; exact blk_new w _
  obtain ⟨c0, c1, c2, c3⟩ := p_cells hF hx.1
  have ct : w1.cell? ⟨q, 0, none⟩ = some (.int .i64 t) := by rw [blk_cell (Later.heap HB.out hq)]; rfl
  have HI : Aside0 (Calls Tryd.prog 42 #[.pointer (some ⟨w.heap.size, 0, none⟩)] w1 fun e w' => e = .returned (.bool (x.st == 1)) ∧ w1 = w') := ⟨by rw [← hx.asked]; exact isa_calls w.heap.size 0 _ _ w1 (by simpa using c0) (by simpa using c1)⟩
  clear hC hF hx hq c0 c1 c2
  by_cases hst : x.st = 1
  · have HE : Aside0 (late t x = decide (x.due ≤ t)) := ⟨by simp [late, hst]⟩
    rw [show (x.st == 1) = true by simp [hst]] at HI
    go_enter Tryd.func47, Tryd.ntmps47
    go_upto_region 1 with fail
    refine at_w1 (w := w1) hw1 ?_
    clear hw1
    go_wp2_with (go_at_call 42; refine HI.out.mono ?_; rintro e w2 ⟨rfl, rfl⟩)
    go_ret
    exact ⟨by rw [HE.out]; rfl, HB.out⟩
  · have HE : Aside0 (late t x = false) := ⟨by simp [late, hst]⟩
    rw [show (x.st == 1) = false by simp [hst]] at HI
    go_enter Tryd.func47, Tryd.ntmps47
    go_upto_region 1 with fail
    refine at_w1 (w := w1) hw1 ?_
    clear hw1 hst
    go_wp2_with (go_at_call 42; refine HI.out.mono ?_; rintro e w2 ⟨rfl, rfl⟩)
    go_ret
    exact ⟨by rw [HE.out]; rfl, HB.out⟩
/-- What Step's closures stand on: the tick's block, the variable that holds the first closure, the receiver's. -/
structure StV (w : World) (q qo qc g : Nat) (t : Int) : Prop where
  tick : w.heap[q]? = some (.cells #[.int .i64 t] 3 (0, 0))
  ov : w.heap[qo]? = some (.cells #[.func (.func 47) #[] #[.pointer (some ⟨q, 0, none⟩)]] 96 (0, 0))
  rc : w.heap[qc]? = some (.cells #[.pointer (some ⟨g, 0, none⟩)] 29 (0, 0))
theorem StV.below {w w1 : World} {q qo qc g : Nat} {t : Int} (h : StV w q qo qc g t) (k : Below w.heap.size w w1) : StV w1 q qo qc g t := ⟨Later.heap k h.tick, Later.heap k h.ov, Later.heap k h.rc⟩
theorem StV.cells {w : World} {q qo qc g : Nat} {t : Int} (h : StV w q qo qc g t) : w.cell? ⟨q, 0, none⟩ = some (.int .i64 t) ∧ w.cell? ⟨qo, 0, none⟩ = some (.func (.func 47) #[] #[.pointer (some ⟨q, 0, none⟩)]) ∧ w.cell? ⟨qc, 0, none⟩ = some (.pointer (some ⟨g, 0, none⟩)) := by
  refine ⟨?_, ?_, ?_⟩
  case _ => rw [blk_cell h.tick]; rfl
  case _ => rw [blk_cell h.ov]; rfl
  case _ => rw [blk_cell h.rc]; rfl
set_option maxRecDepth 20000 in
theorem step2_calls (x : Wt) (m t : Int) (B g tb q qo qc : Nat) (c : Cl) (v : Value) (C : Array Value) (w : World) (hC : C = (pcells x).toArray) (hx : x.ok m) (hS : StV w q qo qc g t) (hP : PCl w B g tb c v) :
    Calls Tryd.prog 49 #[.agg C, .pointer (some ⟨qo, 0, none⟩), .pointer (some ⟨qc, 0, none⟩)] w fun e w' => e = .returned (.bool (late t x && decide (c.tries ≤ x.asks))) ∧ Below w.heap.size w w' := by
  obtain ⟨w1, hw1⟩ : ∃ w1, w1 = w.alloc (.cells C 87) := ⟨_, rfl⟩
  have HB : Aside0 (Below w.heap.size w w1) := ⟨by rw [hw1]; exact below_alloc (Below.refl _ w) _⟩
  have HF : Aside0 (w1.heap[w.heap.size]? = some (.cells (pcells x).toArray 87 (0, 0))) := ⟨by rw [hw1, hC]; exact blk_new w _⟩
  have HS := Aside0.mk (hS.below HB.out)
  have HP := Aside0.mk (hP.below HB.out)
  have HX := Aside0.mk hx
  have HX32 := Aside0.mk hx.1
  have HC1 : Aside0 (∀ W, Later w1.drew W → Calls Tryd.prog 47 #[.agg (pcells x).toArray, .pointer (some ⟨q, 0, none⟩)] W fun e w' => e = .returned (.bool (late t x)) ∧ Below W.heap.size W w') := ⟨fun W hW => step1_calls x m t q _ W rfl HX.out (HS.out.below ((Below.drew (Later.refl w1)).trans hW)).tick⟩
  clear hC hx hS hP
  rcases hl : late t x with _ | _
  · have HE : Aside0 ((false && decide (c.tries ≤ x.asks)) = false) := ⟨rfl⟩
    rw [hl] at HC1
    go_enter Tryd.func49, Tryd.ntmps49
    go_upto_region 1 with fail
    refine at_w1 (w := w1) hw1 ?_
    clear hw1 hl
    refine seq_startN [] (.take 0 (.take 1 (.run 2 (.take 3 (.take 4 (.take 5 (.take 6 (.take 7 (.take 8 (.take 9 (.take 10 (.take 11 (.take 12 .done))))))))))))) (by kernel_rfl) (by kernel_rfl) ?_
    refine seq_take (v := ?_) (a' := ?_) rfl rfl (by rfl) (fun w' hw' => ?_) ?_ ?_
    rotate_left 2
    · obtain ⟨s0, s1, s2⟩ := (HS.out.below ((Below.drew (Later.refl w1)).trans hw')).cells; go_simp
      with_reducible rfl
    · simp only [Act.put, List.setIfInBounds_toArray, List.set_cons_zero, List.set_cons_succ, i64_w, i32_w]
      rfl
    refine seq_take (v := _) (a' := ?_) rfl rfl (by rfl) (fun w' hw' => load_run rfl rfl (ld_row (Later.heap hw' (show w1.drew.heap[w.heap.size]? = _ from HF.out)) 87 _ Tryd.underlying87 rfl (by rw [List.size_toArray]; exact size_p HX32.out))) ?_ ?_
    rotate_left
    · simp only [Act.put, List.setIfInBounds_toArray, List.set_cons_zero, List.set_cons_succ, i64_w, i32_w]
      rfl
    refine seq_run ?_
    refine do_callV rfl rfl (by rfl) (.tmp 5) _ rfl rfl Tryd.func47 (by kernel_rfl) rfl #[.agg (pcells x).toArray, .pointer (some ⟨q, 0, none⟩)] (by simp only [List.map_toArray, List.map_cons, List.map_nil]; rfl) ?_
    with_reducible refine (HC1.out _ (Later.refl _)).mono ?_
    rintro e w2 ⟨rfl, hB2⟩
    refine ⟨_, ?_, rfl, ?_, fun _ => hB2, ?_⟩
    rotate_left
    · simp only [Act.put, List.setIfInBounds_toArray, List.set_cons_zero, List.set_cons_succ]
      rfl
    have HB2 : Aside0 (Below w.heap.size w w2) := ⟨below_tr HB.out (Later.trans (Below.drew (Later.refl w1)) hB2) HB.out.size⟩
    clear hB2
    refine seq_take (v := ?_) (a' := ?_) rfl rfl (by rfl) (fun w' hw' => ?_) ?_ ?_
    rotate_left 2
    · go_simp
      with_reducible rfl
    · simp only [Act.put, List.setIfInBounds_toArray, List.set_cons_zero, List.set_cons_succ, i64_w, i32_w]
      rfl
    refine seq_off (a' := ?_) rfl rfl (by rfl) ?_ ?_
    rotate_left
    · simp only [Act.put, List.setIfInBounds_toArray, List.set_cons_zero, List.set_cons_succ, i64_w, i32_w]
      rfl
    refine seq_off (a' := ?_) rfl rfl (by rfl) ?_ ?_
    rotate_left
    · simp only [Act.put, List.setIfInBounds_toArray, List.set_cons_zero, List.set_cons_succ, i64_w, i32_w]
      rfl
    refine seq_off (a' := ?_) rfl rfl (by rfl) ?_ ?_
    rotate_left
    · simp only [Act.put, List.setIfInBounds_toArray, List.set_cons_zero, List.set_cons_succ, i64_w, i32_w]
      rfl
    refine seq_off (a' := ?_) rfl rfl (by rfl) ?_ ?_
    rotate_left
    · simp only [Act.put, List.setIfInBounds_toArray, List.set_cons_zero, List.set_cons_succ, i64_w, i32_w]
      rfl
    refine seq_off (a' := ?_) rfl rfl (by rfl) ?_ ?_
    rotate_left
    · simp only [Act.put, List.setIfInBounds_toArray, List.set_cons_zero, List.set_cons_succ, i64_w, i32_w]
      rfl
    refine seq_off (a' := ?_) rfl rfl (by rfl) ?_ ?_
    rotate_left
    · simp only [Act.put, List.setIfInBounds_toArray, List.set_cons_zero, List.set_cons_succ, i64_w, i32_w]
      rfl
    refine seq_off (a' := ?_) rfl rfl (by rfl) ?_ ?_
    rotate_left
    · simp only [Act.put, List.setIfInBounds_toArray, List.set_cons_zero, List.set_cons_succ, i64_w, i32_w]
      rfl
    refine seq_take (v := ?_) (a' := ?_) rfl rfl (by rfl) (fun w' hw' => ?_) ?_ ?_
    rotate_left 2
    · go_simp
      with_reducible rfl
    · simp only [Act.put, List.setIfInBounds_toArray, List.set_cons_zero, List.set_cons_succ, i64_w, i32_w]
      rfl
    refine seq_take (v := ?_) (a' := ?_) rfl rfl (by rfl) (fun w' hw' => ?_) ?_ ?_
    rotate_left 2
    · go_simp
      with_reducible rfl
    · simp only [Act.put, List.setIfInBounds_toArray, List.set_cons_zero, List.set_cons_succ, i64_w, i32_w]
      rfl
    refine seq_endN ?_
    go_wp2
    go_ret
    exact ⟨rfl, HB2.out⟩
  · rw [hl] at HC1
    rcases hd : decide (c.tries ≤ x.asks) with _ | _
    all_goals
      have HD := Aside0.mk hd
      clear hd
      go_enter Tryd.func49, Tryd.ntmps49
      go_upto_region 1 with fail
      refine at_w1 (w := w1) hw1 ?_
      clear hw1 hl
      refine seq_startN [] (.take 0 (.take 1 (.run 2 (.take 3 (.take 4 (.take 5 (.take 6 (.take 7 (.take 8 (.take 9 (.take 10 (.take 11 (.take 12 .done))))))))))))) (by kernel_rfl) (by kernel_rfl) ?_
      refine seq_take (v := ?_) (a' := ?_) rfl rfl (by rfl) (fun w' hw' => ?_) ?_ ?_
      rotate_left 2
      · obtain ⟨s0, s1, s2⟩ := (HS.out.below ((Below.drew (Later.refl w1)).trans hw')).cells; go_simp
        with_reducible rfl
      · simp only [Act.put, List.setIfInBounds_toArray, List.set_cons_zero, List.set_cons_succ, i64_w, i32_w]
        rfl
      refine seq_take (v := _) (a' := ?_) rfl rfl (by rfl) (fun w' hw' => load_run rfl rfl (ld_row (Later.heap hw' (show w1.drew.heap[w.heap.size]? = _ from HF.out)) 87 _ Tryd.underlying87 rfl (by rw [List.size_toArray]; exact size_p HX32.out))) ?_ ?_
      rotate_left
      · simp only [Act.put, List.setIfInBounds_toArray, List.set_cons_zero, List.set_cons_succ, i64_w, i32_w]
        rfl
      refine seq_run ?_
      refine do_callV rfl rfl (by rfl) (.tmp 5) _ rfl rfl Tryd.func47 (by kernel_rfl) rfl #[.agg (pcells x).toArray, .pointer (some ⟨q, 0, none⟩)] (by simp only [List.map_toArray, List.map_cons, List.map_nil]; rfl) ?_
      with_reducible refine (HC1.out _ (Later.refl _)).mono ?_
      rintro e w2 ⟨rfl, hB2⟩
      refine ⟨_, ?_, rfl, ?_, fun _ => hB2, ?_⟩
      rotate_left
      · simp only [Act.put, List.setIfInBounds_toArray, List.set_cons_zero, List.set_cons_succ]
        rfl
      have HB2 : Aside0 (Below w.heap.size w w2) := ⟨below_tr HB.out (Later.trans (Below.drew (Later.refl w1)) hB2) HB.out.size⟩
      have HW2 : Aside0 (Below w1.heap.size w1 w2) := ⟨Later.trans (Below.drew (Later.refl w1)) hB2⟩
      clear hB2
      refine seq_take (v := ?_) (a' := ?_) rfl rfl (by rfl) (fun w' hw' => ?_) ?_ ?_
      rotate_left 2
      · go_simp
        with_reducible rfl
      · simp only [Act.put, List.setIfInBounds_toArray, List.set_cons_zero, List.set_cons_succ, i64_w, i32_w]
        rfl
      refine seq_take (v := ?_) (a' := ?_) rfl rfl (by rfl) (fun w' hw' => ?_) ?_ ?_
      rotate_left 2
      · go_simp
        with_reducible rfl
      · simp only [Act.put, List.setIfInBounds_toArray, List.set_cons_zero, List.set_cons_succ, i64_w, i32_w]
        rfl
      refine seq_take (v := ?_) (a' := ?_) rfl rfl (by rfl) (fun w' hw' => ?_) ?_ ?_
      rotate_left 2
      · obtain ⟨c0, c1, c2, c3⟩ := p_cells (Later.heap hw' (Later.heap HW2.out HF.out)) HX32.out; go_simp
        with_reducible rfl
      · simp only [Act.put, List.setIfInBounds_toArray, List.set_cons_zero, List.set_cons_succ, i64_w, i32_w]
        rfl
      refine seq_take (v := ?_) (a' := ?_) rfl rfl (by rfl) (fun w' hw' => ?_) ?_ ?_
      rotate_left 2
      · obtain ⟨s0, s1, s2⟩ := (HS.out.below (Later.trans HW2.out hw')).cells; go_simp
        with_reducible rfl
      · simp only [Act.put, List.setIfInBounds_toArray, List.set_cons_zero, List.set_cons_succ, i64_w, i32_w]
        rfl
      refine seq_take (v := ?_) (a' := ?_) rfl rfl (by rfl) (fun w' hw' => ?_) ?_ ?_
      rotate_left 2
      · go_simp
        with_reducible rfl
      · simp only [Act.put, List.setIfInBounds_toArray, List.set_cons_zero, List.set_cons_succ, i64_w, i32_w]
        rfl
      refine seq_take (v := ?_) (a' := ?_) rfl rfl (by rfl) (fun w' hw' => ?_) ?_ ?_
      rotate_left 2
      · go_simp
        with_reducible rfl
      · simp only [Act.put, List.setIfInBounds_toArray, List.set_cons_zero, List.set_cons_succ, i64_w, i32_w]
        rfl
      refine seq_take (v := ?_) (a' := ?_) rfl rfl (by rfl) (fun w' hw' => ?_) ?_ ?_
      rotate_left 2
      · obtain ⟨q0, q1, q2, q3, q4, q5, q6⟩ := (HP.out.below (Later.trans HW2.out hw')).cells; go_simp
        with_reducible rfl
      · simp only [Act.put, List.setIfInBounds_toArray, List.set_cons_zero, List.set_cons_succ, i64_w, i32_w]
        rfl
      refine seq_take (v := ?_) (a' := ?_) rfl rfl (by rfl) (fun w' hw' => ?_) ?_ ?_
      rotate_left 2
      · have hd := HD.out; go_simp
        with_reducible rfl
      · simp only [Act.put, List.setIfInBounds_toArray, List.set_cons_zero, List.set_cons_succ, i64_w, i32_w]
        rfl
      refine seq_take (v := ?_) (a' := ?_) rfl rfl (by rfl) (fun w' hw' => ?_) ?_ ?_
      rotate_left 2
      · go_simp
        with_reducible rfl
      · simp only [Act.put, List.setIfInBounds_toArray, List.set_cons_zero, List.set_cons_succ, i64_w, i32_w]
        rfl
      refine seq_take (v := ?_) (a' := ?_) rfl rfl (by rfl) (fun w' hw' => ?_) ?_ ?_
      rotate_left 2
      · go_simp
        with_reducible rfl
      · simp only [Act.put, List.setIfInBounds_toArray, List.set_cons_zero, List.set_cons_succ, i64_w, i32_w]
        rfl
      refine seq_endN ?_
      go_wp2
      go_ret
      exact ⟨by rfl, HB2.out⟩
end Go.Proofs.YtnkkjmbpopodlaaDoor
namespace Go.Proofs.YtnkkjmbpopodlaaDoor
open Go.RowKit Go.Proofs.YtnkkjmbpopodlaaDoorW.PrintWords Go.Proofs.YtnkkjmbpopodlaaDoorW.PrintMore
set_option linter.unusedVariables false
set_option linter.unusedSimpArgs false
set_option maxRecDepth 20000 in
theorem ifn2_calls (A : Option Addr) (n cp : Nat) (xs : List Wt) (p : Wt → Bool) (K : Array Value) (w : World) (h : RdP w A n xs) (hn : n ≤ 1048576)
    (hF : ∀ x ∈ xs, ∀ W, Below w.heap.size w W → Calls Tryd.prog 49 (#[.agg (pcells x).toArray] ++ K) W fun e W' => e = .returned (.bool (p x)) ∧ Below W.heap.size W W') :
    Calls Tryd.prog 66 #[.slice A n cp, .func (.func 49) #[] K] w fun e w' => e = .returned (.int .i64 (fst p xs)) ∧ Below w.heap.size w w' := by
  have HX := Aside0.mk h
  obtain rfl : xs.length = n := h.1
  have HF := Aside0.mk hF
  clear h hF
  go_enter Tryd.func66, Tryd.ntmps66
  go_wp2
  go_loopw [5, 8] (fun _ i wr => ∃ k : Nat, k ≤ xs.length ∧ i = .int .i64 k ∧ (∀ x ∈ xs.take k, p x = false) ∧ Below w.heap.size w wr) (fun _ i _ => xs.length - (intOf i).toNat)
  case atStart => exact ⟨0, Nat.zero_le _, rfl, (fun x hx => by simp at hx), Below.refl _ _⟩
  case round =>
    obtain ⟨k, hk, rfl, hT, hB⟩ := hrel
    have HB := Aside0.mk hB
    have HT := Aside0.mk hT
    clear hB hT
    by_cases hlt : k < xs.length
    · obtain ⟨ad, rfl, hx32, hxc⟩ := kf_at (Kd.C_below HX.out HB.out) default k hlt
      have HXC := Aside0.mk hxc
      have HX32 := Aside0.mk hx32
      have HC : Aside0 (Calls Tryd.prog 49 (#[.agg (pcells (xs.getD k default)).toArray] ++ K) wr fun e W' => e = .returned (.bool (p (xs.getD k default))) ∧ Below wr.heap.size wr W') := ⟨HF.out _ (by rw [List.getD_eq_getElem?_getD, List.getElem?_eq_getElem hlt]; exact List.getElem_mem _) wr HB.out⟩
      have HS : Aside0 (p (xs.getD k default) = true → fst p xs = k) := ⟨fun h => fst_some hlt HT.out h⟩
      have HN : Aside0 (p (xs.getD k default) = false → ∀ x ∈ xs.take (k + 1), p x = false) := ⟨fun h x hx => by
        rw [List.take_add_one, List.getElem?_eq_getElem hlt] at hx
        rcases List.mem_append.1 hx with hx | hx
        · exact HT.out x hx
        · rw [List.getD_eq_getElem?_getD, List.getElem?_eq_getElem hlt] at h
          rw [List.mem_singleton.1 hx]; exact h⟩
      generalize xs.getD k default = X at *
      clear hxc hx32
      rcases hp : p X with _ | _
      · have HN := Aside0.mk (HN.out hp)
        rw [hp] at HC
        clear hp HS
        go_wp2_with (first
          | ((with_reducible refine at_ld 87 (.tmp 14) ?_); refine load_arm rfl 87 (.tmp 14) rfl rfl (ld_elem HXC.out 87 _ Tryd.underlying87 rfl (size_p HX32.out)) ?_; simp only [Act.put, List.setIfInBounds_toArray, List.set_cons_zero, List.set_cons_succ])
          | (go_at_call 49; refine (HC.out).mono ?_; rintro e w1 ⟨rfl, hB1⟩; have HB1 : Aside0 (Below w.heap.size w w1) := ⟨below_tr HB.out hB1 HB.out.size⟩; clear hB1)
          | fail)
        go_roundw
        case rel => exact ⟨k + 1, by omega, by go_num, HN.out, HB1.out⟩
        case measure => simp [intOf]; omega
      · have HS := Aside0.mk (HS.out hp)
        rw [hp] at HC
        clear hp HN
        go_wp2_with (first
          | ((with_reducible refine at_ld 87 (.tmp 14) ?_); refine load_arm rfl 87 (.tmp 14) rfl rfl (ld_elem HXC.out 87 _ Tryd.underlying87 rfl (size_p HX32.out)) ?_; simp only [Act.put, List.setIfInBounds_toArray, List.set_cons_zero, List.set_cons_succ])
          | (go_at_call 49; refine (HC.out).mono ?_; rintro e w1 ⟨rfl, hB1⟩; have HB1 : Aside0 (Below w.heap.size w w1) := ⟨below_tr HB.out hB1 HB.out.size⟩; clear hB1)
          | fail)
        go_ret
        exact ⟨by rw [HS.out]; rfl, HB1.out⟩
    · obtain rfl : k = xs.length := by omega
      have HS : Aside0 (fst p xs = -1) := ⟨fst_none (fun x hx => HT.out x (by rw [List.take_length]; exact hx))⟩
      go_wp2
      go_ret
      exact ⟨by rw [HS.out]; rfl, HB.out⟩
theorem lost_calls (t : Int) (B g tb q qo qc : Nat) (c : Cl) (v : Value) (A : Option Addr) (cp : Nat) (w : World) (hok : c.ok) (hS : StV w q qo qc g t) (hP : PCl w B g tb c v) (hv : v = .slice A c.L.length cp) :
    Calls Tryd.prog 48 #[v, .func (.func 49) #[] #[.pointer (some ⟨qo, 0, none⟩), .pointer (some ⟨qc, 0, none⟩)]] w fun e w' => e = .returned (.bool (lostC c t)) ∧ Below w.heap.size w w' := by
  have HF : Aside0 (Calls Tryd.prog 66 #[v, .func (.func 49) #[] #[.pointer (some ⟨qo, 0, none⟩), .pointer (some ⟨qc, 0, none⟩)]] w fun e w' => e = .returned (.int .i64 (fst (fun x => late t x && decide (c.tries ≤ x.asks)) c.L)) ∧ Below w.heap.size w w') := ⟨by
    obtain ⟨A', cp', e, hcp, hr⟩ := hP.reads
    rw [hv] at e
    injection e with e1 _ e3
    subst e1; subst e3
    rw [hv]
    exact ifn2_calls A c.L.length cp c.L _ _ w hr (by have := hok.l1; omega) fun x hx W hW => step2_calls x c.seq t B g tb q qo qc c v _ W rfl (hok.all x hx) (hS.below hW) (hP.below hW)⟩
  have HE : Aside0 (lostC c t = decide (0 ≤ fst (fun x => late t x && decide (c.tries ≤ x.asks)) c.L)) := ⟨(fst_any _ _).symm⟩
  generalize fst (fun x => late t x && decide (c.tries ≤ x.asks)) c.L = k at *
  subst hv
  clear hok hS hP
  go_enter Tryd.func48, Tryd.ntmps48
  go_wp2_with (go_at_call 66; refine HF.out.mono ?_; rintro e w1 ⟨rfl, hB⟩; have HB := Aside0.mk hB; clear hB)
  go_ret
  exact ⟨by rw [HE.out]; rfl, HB.out⟩
theorem own_set {w : World} {B : Nat} {v : Value} {L : List Wt} (h : OwP w B v L) {i : Nat} (hi : i < L.length) {j : Nat} (hj : j < 36) {x' : Wt} {u : Value} (hx : x'.nm.length = 32) (hc : (pcells (wd L i)).take j ++ [u] ++ (pcells (wd L i)).drop (j + 1) = pcells x') :
    OwP (w.setCell ⟨gOf v, i * 36 + j, none⟩ u) B v (L.set i x') := by
  obtain ⟨cp, hv, hcp, hB, hlt⟩ := own_form h (by omega)
  obtain ⟨-, -, -, -, -, h32, hrg, -⟩ := own_cells h hi
  obtain ⟨gr, hgr⟩ : ∃ gr, gOf v = gr := ⟨_, rfl⟩
  rw [hgr] at hv hrg ⊢
  subst hv
  have := (Kd.R_seg (d := KP) (okp := fun _ => False) h (i : Int) (by omega) (by omega) (c := pcells (wd L i)) (seg := [u]) (j := j) (pcells_len h32) (fun j u hu => by rw [Int.toNat_natCast]; exact hrg j u hu) (by show j + 1 ≤ 36; omega) (x' := x') ⟨hx, hc⟩ (fun _ h => h.elim)).1
  rw [Int.toNat_natCast] at this
  exact this
theorem wd_set {L : List Wt} {i : Nat} (h : i < L.length) (x : Wt) : wd (L.set i x) i = x := by
  unfold wd
  rw [List.getD_eq_getElem?_getD, List.getElem?_set_self h]; rfl
theorem set_set {L : List Wt} {i : Nat} (x y : Wt) : (L.set i x).set i y = L.set i y := List.set_set ..
/-- A client's block and row are not each other's. -/
theorem PCl.gne {w : World} {B g tb : Nat} {c : Cl} {v : Value} (h : PCl w B g tb c v) (hp : 0 < c.L.length) : g ≠ gOf v ∧ tb ≠ gOf v ∧ B ≤ gOf v ∧ gOf v < w.heap.size := by
  obtain ⟨cp, hv, hcp, hB, hlt⟩ := own_form h.own hp
  have h1 := Kd.R_ne h.own h.blk (by decide)
  have h2 := Kd.R_ne h.own h.tim (by decide)
  have hob : v.ownBlock = some (gOf v) := by
    obtain ⟨gr, hgr⟩ : ∃ gr, gOf v = gr := ⟨_, rfl⟩
    rw [hgr] at hv ⊢
    rw [hv]; simp [Value.ownBlock]
  rw [hob] at h1 h2
  exact ⟨fun e => h1 (by rw [e]), fun e => h2 (by rw [e]), hB, hlt⟩
theorem PCl.tne {w : World} {B g tb : Nat} {c : Cl} {v : Value} (h : PCl w B g tb c v) : tb ≠ g := fun e => by
  subst e
  have := h.tim
  rw [h.blk] at this
  injection this with this
  injection this with _ this
  exact absurd this (by decide)
/-- A cell of one that is wanted is written. -/
theorem PCl.el {w : World} {B g tb : Nat} {c : Cl} {v : Value} (h : PCl w B g tb c v) {i : Nat} (hi : i < c.L.length) {j : Nat} (hj : j < 36) {x' : Wt} {u : Value} (hx : x'.nm.length = 32) (hc : (pcells (wd c.L i)).take j ++ [u] ++ (pcells (wd c.L i)).drop (j + 1) = pcells x') :
    PCl (w.setCell ⟨gOf v, i * 36 + j, none⟩ u) B g tb { c with L := c.L.set i x' } v ∧ Fr w (w.setCell ⟨gOf v, i * 36 + j, none⟩ u) (fun k => k = g ∨ k = gOf v) := by
  obtain ⟨n1, n2, _, hlt⟩ := h.gne (by omega)
  have hb := fun k (hk : k ≠ gOf v) => Below.heap_setCell w ⟨gOf v, i * 36 + j, none⟩ u k hk
  refine ⟨⟨(hb g n1).trans h.blk, (hb tb n2).trans h.tim, own_set h.own hi hj hx hc, h.hg, h.ht⟩, rfl, rfl, rfl, by simp [World.setCell], fun k hk hS => hb k (fun e => hS (.inr e))⟩
/-- A client's own cell is written. -/
theorem PCl.seqS {w : World} {B g tb : Nat} {c : Cl} {v : Value} (h : PCl w B g tb c v) (s : Int) :
    PCl (w.setCell ⟨g, 3, none⟩ (.int .i64 s)) B g tb { c with seq := s } v ∧ Fr w (w.setCell ⟨g, 3, none⟩ (.int .i64 s)) (fun k => k = g ∨ k = gOf v) := by
  have hS := setBlk_cell (i := 3) h.blk (.int .i64 s)
  exact ⟨⟨hS.at_, hS.blk h.tne h.tim, Kd.R_set h.own h.blk (by decide) 3 _, h.hg, h.ht⟩, (Fr.refl w _).set hS (.inl (.inl rfl))⟩
theorem PCl.errS {w : World} {B g tb : Nat} {c : Cl} {v : Value} (h : PCl w B g tb c v) (s : Int) :
    PCl (w.setCell ⟨g, 5, none⟩ (.int .i64 s)) B g tb { c with e := s } v ∧ Fr w (w.setCell ⟨g, 5, none⟩ (.int .i64 s)) (fun k => k = g) := by
  have hS := setBlk_cell (i := 5) h.blk (.int .i64 s)
  exact ⟨⟨hS.at_, hS.blk h.tne h.tim, Kd.R_set h.own h.blk (by decide) 5 _, h.hg, h.ht⟩, (Fr.refl w _).set hS (.inl rfl)⟩
theorem set_at4 (nm : List Int) (a b c d u : Value) (h : nm.length = 32) : (Nm nm ++ [a, b, c, d]).take 32 ++ [u] ++ (Nm nm ++ [a, b, c, d]).drop 33 = Nm nm ++ [u, b, c, d] ∧ (Nm nm ++ [a, b, c, d]).take 33 ++ [u] ++ (Nm nm ++ [a, b, c, d]).drop 34 = Nm nm ++ [a, u, c, d] ∧ (Nm nm ++ [a, b, c, d]).take 34 ++ [u] ++ (Nm nm ++ [a, b, c, d]).drop 35 = Nm nm ++ [a, b, u, d] ∧ (Nm nm ++ [a, b, c, d]).take 35 ++ [u] ++ (Nm nm ++ [a, b, c, d]).drop 36 = Nm nm ++ [a, b, c, u] := by
  have hl : (Nm nm).length = 32 := by rw [Nm_len, h]
  have ht : ∀ k (l : List Value), (Nm nm ++ l).take (32 + k) = Nm nm ++ l.take k := fun k l => by rw [← hl, List.take_length_add_append]
  have hd : ∀ k (l : List Value), (Nm nm ++ l).drop (32 + k) = l.drop k := fun k l => by rw [← hl, List.drop_length_add_append]
  refine ⟨?_, ?_, ?_, ?_⟩
  · rw [ht 0, hd 1]; simp
  · rw [ht 1, hd 2]; simp
  · rw [ht 2, hd 3]; simp
  · rw [ht 3, hd 4]; simp
theorem due_calls (t T : Int) (tb : Nat) (w : World) (h : w.heap[tb]? = some (.cells #[.int .i64 T] 3 (0, 0))) (h0 : 0 ≤ t) (h1 : t ≤ 1099511627776) (h2 : 0 ≤ T) (h3 : T ≤ 1000) :
    Calls Tryd.prog 59 #[.int .i64 t, .pointer (some ⟨tb, 0, none⟩)] w fun e w' => e = .returned (.int .i64 (t + T)) ∧ w = w' := by
  have c0 : w.cell? ⟨tb, 0, none⟩ = some (.int .i64 T) := by rw [blk_cell h]; rfl
  have hw : IntKind.i64.wrap (t + T) = t + T := by rw [IntKind.wrap_i64]; omega
  clear h
  go_enter Tryd.func59, Tryd.ntmps59
  go_wp2
  go_ret
  exact ⟨rfl, rfl⟩
theorem add_calls (g : Nat) (s : Int) (w : World) (hc : w.cell? ⟨g, 3, none⟩ = some (.int .i64 s)) (hf : w.frozen? ⟨g, 3, none⟩ = false) (h0 : 0 ≤ s) (h1 : s ≤ 4294967296) :
    Calls Tryd.prog 82 #[.pointer (some ⟨g, 3, none⟩), .int .i64 1] w fun e w' => e = .returned (.int .i64 (s + 1)) ∧ w' = w.setCell ⟨g, 3, none⟩ (.int .i64 (s + 1)) := by
  have hw : IntKind.i64.wrap (s + 1) = s + 1 := by rw [IntKind.wrap_i64]; omega
  have hs : (Op.intArith .add .i64 s 1).run Tryd.prog w = .ok (.int .i64 (s + 1)) w := by simp [Op.intArith, hw]
  have hld := run_call_add (P := Tryd.prog) Tryd.func95 (by kernel_rfl) (by kernel_rfl) (by kernel_rfl) .i64 (by kernel_rfl) hc hf hs
  clear hs hw
  go_enter Tryd.func82, Tryd.ntmps82
  go_wp2
  go_ret
  exact ⟨rfl, rfl⟩
end Go.Proofs.YtnkkjmbpopodlaaDoor
namespace Go.Proofs.YtnkkjmbpopodlaaDoor
open Go.Proofs.YtnkkjmbpopodlaaDoorW.PrintLast (i64_w i32_w)
open Go.RowKit Go.Proofs.YtnkkjmbpopodlaaDoorW.PrintWords Go.Proofs.YtnkkjmbpopodlaaDoorW.PrintMore
set_option linter.unusedVariables false
set_option linter.unusedSimpArgs false
/-- The client's worlds in ask, one behind the other. -/
structure AskCh (B g tb gr : Nat) (v : Value) (i : Nat) (x : Wt) (s t T : Int) (c cq c1 c2 c3 : Cl) : Prop where
  hA : ∀ W, PCl W B g tb c v → PCl (W.setCell ⟨g, 3, none⟩ (.int .i64 (s + 1))) B g tb cq v ∧ Fr W (W.setCell ⟨g, 3, none⟩ (.int .i64 (s + 1))) (fun k => k = g ∨ k = gr)
  h1 : ∀ W, PCl W B g tb cq v → PCl (W.setCell ⟨gr, i * 36 + 34, none⟩ (.int .i64 (s + 1))) B g tb c1 v ∧ Fr W (W.setCell ⟨gr, i * 36 + 34, none⟩ (.int .i64 (s + 1))) (fun k => k = g ∨ k = gr)
  h2 : ∀ W, PCl W B g tb c1 v → PCl (W.setCell ⟨gr, i * 36 + 33, none⟩ (.int .i64 (x.asks + 1))) B g tb c2 v ∧ Fr W (W.setCell ⟨gr, i * 36 + 33, none⟩ (.int .i64 (x.asks + 1))) (fun k => k = g ∨ k = gr)
  h3 : ∀ W, PCl W B g tb c2 v → PCl (W.setCell ⟨gr, i * 36 + 35, none⟩ (.int .i64 (t + T))) B g tb c3 v ∧ Fr W (W.setCell ⟨gr, i * 36 + 35, none⟩ (.int .i64 (t + T))) (fun k => k = g ∨ k = gr)
  r0 : ∀ W, PCl W B g tb c v → W.cell? ⟨g, 3, none⟩ = some (.int .i64 s) ∧ W.frozen? ⟨g, 3, none⟩ = false
  r1 : ∀ W, PCl W B g tb cq v → (∃ u, W.cell? ⟨gr, i * 36 + 34, none⟩ = some u) ∧ W.frozen? ⟨gr, i * 36 + 34, none⟩ = false
  r2 : ∀ W, PCl W B g tb c1 v → W.cell? ⟨gr, i * 36 + 33, none⟩ = some (.int .i64 x.asks) ∧ W.frozen? ⟨gr, i * 36 + 33, none⟩ = false
  r3 : ∀ W, PCl W B g tb c2 v → W.cell? ⟨g, 4, none⟩ = some (.func (.func 59) #[] #[.pointer (some ⟨tb, 0, none⟩)]) ∧ W.heap[tb]? = some (.cells #[.int .i64 T] 3 (0, 0)) ∧ (∃ u, W.cell? ⟨gr, i * 36 + 35, none⟩ = some u) ∧ W.frozen? ⟨gr, i * 36 + 35, none⟩ = false
  r4 : ∀ W, PCl W B g tb c3 v → W.cell? ⟨gr, i * 36 + 34, none⟩ = some (.int .i64 (s + 1)) ∧ W.rangeAt gr (i * 36) (Nm x.nm)
theorem ask_chain (B g tb : Nat) (c : Cl) (v : Value) (i : Nat) (t : Int) (x : Wt) (hx : wd c.L i = x) (hi : i < c.L.length) (k1 : x.nm.length = 32) (hst : x.st ≠ 2) : ∃ cq c1 c2, AskCh B g tb (gOf v) v i x c.seq t c.timeout c cq c1 c2 (askC c i t) := by
  have h2f : (x.st == 2) = false := by simp [hst]
  have hls : ∀ y : Wt, (c.L.set i y).length = c.L.length := fun y => List.length_set
  have hcs := fun W c' (hW : PCl W B g tb c' v) (hl : c'.L.length = c.L.length) => own_cells hW.own (i := i) (by omega)
  have e3 : askC c i t = { c with seq := c.seq + 1, L := c.L.set i (askW x (c.seq + 1) (t + c.timeout)) } := by unfold askC; rw [hx]
  rw [e3]
  refine ⟨{ c with seq := c.seq + 1 }, { c with seq := c.seq + 1, L := c.L.set i ⟨x.nm, 1, c.seq + 1, x.due, x.asks⟩ }, { c with seq := c.seq + 1, L := c.L.set i ⟨x.nm, 1, c.seq + 1, x.due, x.asks + 1⟩ }, ⟨fun W hW => hW.seqS _, fun W hW => ?_, fun W hW => ?_, fun W hW => ?_, fun W hW => ⟨hW.cells.2.2.2.1, blk_frozen hW.blk 3⟩, fun W hW => ?_, fun W hW => ?_, fun W hW => ?_, fun W hW => ?_⟩⟩
  · obtain ⟨f0, f1, f2, f3⟩ := set_at4 x.nm (.bool (x.st == 2)) (.int .i64 x.asks) (.int .i64 x.seq) (.int .i64 x.due) (.int .i64 (c.seq + 1)) k1
    exact hW.el (x' := ⟨x.nm, 1, c.seq + 1, x.due, x.asks⟩) hi (by omega) k1 (by rw [show wd ({ c with seq := c.seq + 1 } : Cl).L i = x from hx]; unfold pcells; rw [f2, h2f]; rfl)
  · obtain ⟨f0, f1, f2, f3⟩ := set_at4 x.nm (.bool false) (.int .i64 x.asks) (.int .i64 (c.seq + 1)) (.int .i64 x.due) (.int .i64 (x.asks + 1)) k1
    have := hW.el (x' := ⟨x.nm, 1, c.seq + 1, x.due, x.asks + 1⟩) (i := i) (j := 33) (u := .int .i64 (x.asks + 1)) (by show i < (c.L.set _ _).length; rw [hls]; exact hi) (by omega) k1 (by rw [show wd (c.L.set i ⟨x.nm, 1, c.seq + 1, x.due, x.asks⟩) i = _ from wd_set hi _]; unfold pcells; exact f1)
    rwa [show (({ c with seq := c.seq + 1, L := c.L.set i ⟨x.nm, 1, c.seq + 1, x.due, x.asks⟩ } : Cl).L.set i ⟨x.nm, 1, c.seq + 1, x.due, x.asks + 1⟩) = c.L.set i ⟨x.nm, 1, c.seq + 1, x.due, x.asks + 1⟩ from set_set _ _] at this
  · obtain ⟨f0, f1, f2, f3⟩ := set_at4 x.nm (.bool false) (.int .i64 (x.asks + 1)) (.int .i64 (c.seq + 1)) (.int .i64 x.due) (.int .i64 (t + c.timeout)) k1
    have := hW.el (x' := askW x (c.seq + 1) (t + c.timeout)) (i := i) (j := 35) (u := .int .i64 (t + c.timeout)) (by show i < (c.L.set _ _).length; rw [hls]; exact hi) (by omega) k1 (by rw [show wd (c.L.set i ⟨x.nm, 1, c.seq + 1, x.due, x.asks + 1⟩) i = _ from wd_set hi _]; unfold pcells; exact f3)
    rwa [show (({ c with seq := c.seq + 1, L := c.L.set i ⟨x.nm, 1, c.seq + 1, x.due, x.asks + 1⟩ } : Cl).L.set i (askW x (c.seq + 1) (t + c.timeout))) = c.L.set i (askW x (c.seq + 1) (t + c.timeout)) from set_set _ _] at this
  · obtain ⟨_, _, a2, _, _, _, _, a5⟩ := hcs W _ hW rfl
    exact ⟨⟨_, a2⟩, a5 34⟩
  · obtain ⟨_, a1, _, _, _, _, _, a5⟩ := hcs W _ hW (hls _)
    rw [show wd (c.L.set i ⟨x.nm, 1, c.seq + 1, x.due, x.asks⟩) i = _ from wd_set hi _] at a1
    exact ⟨a1, a5 33⟩
  · obtain ⟨_, _, _, a3, _, _, _, a5⟩ := hcs W _ hW (hls _)
    exact ⟨hW.cells.2.2.2.2.1, hW.tim, ⟨_, a3⟩, a5 35⟩
  · obtain ⟨_, _, a2, _, a4, _, _, _⟩ := hcs W _ hW (hls _)
    rw [show wd (c.L.set i (askW x (c.seq + 1) (t + c.timeout))) i = _ from wd_set hi _] at a2 a4
    exact ⟨a2, a4⟩
set_option maxRecDepth 20000 in
set_option maxHeartbeats 1600000 in
theorem ask_calls (B g tb : Nat) (c : Cl) (v : Value) (i : Nat) (t : Int) (w : World) (h : PCl w B g tb c v) (hok : c.ok) (hi : i < c.L.length) (hst : (wd c.L i).st ≠ 2) (hs : c.seq < 4294967295) (ht0 : 0 ≤ t) (ht1 : t ≤ 1099511627776) :
    Calls Tryd.prog 50 #[.pointer (some ⟨g, 0, none⟩), .pointer (some ⟨gOf v, i * 36, none⟩), .int .i64 t] w fun e w' => ∃ u, e = .returned u ∧ OwB w' w.heap.size u (askB (c.seq + 1) (wd c.L i).nm) ∧ PCl w' B g tb (askC c i t) v ∧ Fr w w' (fun k => k = g ∨ k = gOf v) := by
  obtain ⟨x, hx⟩ : ∃ x, wd c.L i = x := ⟨_, rfl⟩
  have HP := Aside0.mk h
  have hxk := hok.at hi
  rw [hx] at hxk hst ⊢
  obtain ⟨k1, k2, k3, k4, k5, k6, k7⟩ := hxk
  have h0 := hok.s0
  have hT := hok.t0
  have hT1 := hok.t1
  obtain ⟨cq, c1, c2, hch⟩ := ask_chain B g tb c v i t x hx hi k1 hst
  generalize askC c i t = c3 at *
  generalize gOf v = gr at *
  generalize c.seq = s at *
  generalize c.timeout = T at *
  have HCH := Aside0.mk hch
  have hw1 : IntKind.i64.wrap (x.asks + 1) = x.asks + 1 := by rw [IntKind.wrap_i64]; omega
  have HMB : Aside0 (mayB 1 (s + 1) 0 = true) := ⟨by unfold mayB; simp; omega⟩
  obtain ⟨a0, a1⟩ := HCH.out.r0 w HP.out
  have HADD := Aside0.mk (add_calls g s w a0 a1 h0 (by omega))
  have hT0 : 0 ≤ T := by omega
  clear h hok hi hx hst hch k3 k4 k6 k7 a0 a1
  go_enter Tryd.func50, Tryd.ntmps50
  go_upto_region 2 with (first
    | (go_at_call 82; refine HADD.out.mono ?_; rintro e w1 ⟨rfl, hw1⟩; have HP1 := Aside0.mk (HCH.out.hA w HP.out); rw [← hw1] at HP1; clear hw1; obtain ⟨⟨u1, d1⟩, d2⟩ := HCH.out.r1 w1 HP1.out.1)
    | fail)
  clear d1 d2
  obtain ⟨w2, hw2⟩ : ∃ w2, w2 = w1.setCell ⟨gr, i * 36 + 34, none⟩ (.int .i64 (s + 1)) := ⟨_, rfl⟩
  have HP2 := Aside0.mk (HCH.out.h1 w1 HP1.out.1)
  rw [← hw2] at HP2
  refine at_w1 (w := w2) hw2 ?_
  clear hw2
  obtain ⟨d1, d2⟩ := HCH.out.r2 w2 HP2.out.1
  go_upto_region 3 with fail
  clear d1 d2
  obtain ⟨w3, hw3⟩ : ∃ w3, w3 = w2.setCell ⟨gr, i * 36 + 33, none⟩ (.int .i64 (x.asks + 1)) := ⟨_, rfl⟩
  have HP3 := Aside0.mk (HCH.out.h2 w2 HP2.out.1)
  rw [← hw3] at HP3
  refine at_w1 (w := w3) hw3 ?_
  clear hw3
  obtain ⟨d1, d2, ⟨u3, d3⟩, d4⟩ := HCH.out.r3 w3 HP3.out.1
  have HD2 := Aside0.mk d2
  clear d2
  go_upto_region 4 with (first
    | (go_at_call 59; refine (due_calls t T tb w3 HD2.out ht0 ht1 hT0 hT1).mono ?_; rintro e u0 ⟨rfl, rfl⟩)
    | fail)
  clear d1 d3 d4
  obtain ⟨w4, hw4⟩ : ∃ w4, w4 = w3.setCell ⟨gr, i * 36 + 35, none⟩ (.int .i64 (t + T)) := ⟨_, rfl⟩
  have HP4 := Aside0.mk (HCH.out.h3 w3 HP3.out.1)
  rw [← hw4] at HP4
  refine at_w1 (w := w4) hw4 ?_
  clear hw4
  have HF4 : Aside0 (Fr w w4 (fun k => k = g ∨ k = gr)) := ⟨((HP1.out.2.trans HP2.out.2).trans HP3.out.2).trans HP4.out.2⟩
  have HR4 : Aside0 (∀ W, Later w4.drew W → W.cell? ⟨gr, i * 36 + 34, none⟩ = some (.int .i64 (s + 1)) ∧ W.rangeAt gr (i * 36) (Nm x.nm)) := ⟨fun W hW => HCH.out.r4 W (HP4.out.1.below ((Below.drew (Later.refl w4)).trans hW))⟩
  clear HP1 HP2 HP3
  refine seq_startN [] (.take 0 (.take 1 (.take 2 (.take 3 (.take 4 (.take 5 (.take 6 (.take 7 (.take 8 (.run 9 (.take 10 (.take 11 (.take 12 (.take 13 (.take 14 .done))))))))))))))) (by kernel_rfl) (by kernel_rfl) ?_
  refine seq_take (v := ?_) (a' := ?_) rfl rfl (by rfl) (fun w' hw' => ?_) ?_ ?_
  rotate_left 2
  · go_simp
    with_reducible rfl
  · simp only [Act.put, List.setIfInBounds_toArray, List.set_cons_zero, List.set_cons_succ, i64_w, i32_w]
    rfl
  refine seq_take (v := ?_) (a' := ?_) rfl rfl (by rfl) (fun w' hw' => ?_) ?_ ?_
  rotate_left 2
  · go_simp
    with_reducible rfl
  · simp only [Act.put, List.setIfInBounds_toArray, List.set_cons_zero, List.set_cons_succ, i64_w, i32_w]
    rfl
  refine seq_take (v := ?_) (a' := ?_) rfl rfl (by rfl) (fun w' hw' => ?_) ?_ ?_
  rotate_left 2
  · go_simp
    with_reducible rfl
  · simp only [Act.put, List.setIfInBounds_toArray, List.set_cons_zero, List.set_cons_succ, i64_w, i32_w]
    rfl
  refine seq_take (v := ?_) (a' := ?_) rfl rfl (by rfl) (fun w' hw' => ?_) ?_ ?_
  rotate_left 2
  · obtain ⟨r1, r2⟩ := HR4.out w' hw'; go_simp
    with_reducible rfl
  · simp only [Act.put, List.setIfInBounds_toArray, List.set_cons_zero, List.set_cons_succ, i64_w, i32_w]
    rfl
  refine seq_take (v := ?_) (a' := ?_) rfl rfl (by rfl) (fun w' hw' => ?_) ?_ ?_
  rotate_left 2
  · go_simp
    with_reducible rfl
  · simp only [Act.put, List.setIfInBounds_toArray, List.set_cons_zero, List.set_cons_succ, i64_w, i32_w]
    rfl
  refine seq_take (v := ?_) (a' := ?_) rfl rfl (by rfl) (fun w' hw' => ?_) ?_ ?_
  rotate_left 2
  · go_simp
    with_reducible rfl
  · simp only [Act.put, List.setIfInBounds_toArray, List.set_cons_zero, List.set_cons_succ, i64_w, i32_w]
    rfl
  refine seq_take (v := ?_) (a' := ?_) rfl rfl (by rfl) (fun w' hw' => ?_) ?_ ?_
  rotate_left 2
  · go_simp
    with_reducible rfl
  · simp only [Act.put, List.setIfInBounds_toArray, List.set_cons_zero, List.set_cons_succ, i64_w, i32_w]
    rfl
  refine seq_take (v := _) (a' := ?_) rfl rfl (by rfl) (fun w' hw' => load_run rfl (p := .pointer (some ⟨gr, i * 36, none⟩)) rfl (run_loadAt_mid _ gr (i * 36) _ (Nm x.nm) _ (HR4.out w' hw').2 Tryd.underlying40 rfl (size_d x.nm k1))) ?_ ?_
  rotate_left
  · simp only [Act.put, List.setIfInBounds_toArray, List.set_cons_zero, List.set_cons_succ, i64_w, i32_w]
    rfl
  refine seq_take (v := _) (a' := ?_) rfl rfl (by rfl) (fun w' hw' => build_run 66 #[(0, .const (.int .i64 1)), (1, .tmp 36), (2, .tmp 40)] rfl (built_w3 1 (s + 1) x.nm k1)) ?_ ?_
  rotate_left
  · simp only [Act.put, List.setIfInBounds_toArray, List.set_cons_zero, List.set_cons_succ, i64_w, i32_w]
    rfl
  refine seq_run ?_
  refine do_call rfl rfl (by rfl) rfl Tryd.func83 (by kernel_rfl) rfl #[.agg (Mc 1 (s + 1) x.nm (.slice none 0 0)).toArray] (by simp only [List.map_toArray, List.map_cons, List.map_nil]; rfl) ?_
  with_reducible refine (wwrite_calls 1 (s + 1) x.nm none 0 0 [] _ w4.drew rfl k1 k2 (Kd.C_nil _ _) Bytes.nil (by omega)).mono ?_
  rw [HMB.out]
  rintro e w5 ⟨u, rfl, hO, hB⟩
  have HB5 : Aside0 (Below w4.heap.size w4 w5) := ⟨(Below.drew (Below.refl _ w4)).trans hB⟩
  have HO5 : Aside0 (OwB w5 w4.heap.size u (askB (s + 1) x.nm)) := ⟨hO⟩
  obtain ⟨A5, cp5, rfl, -, -⟩ := OwB.reads HO5.out
  refine ⟨_, ?_, rfl, ?_, fun _ => hB, ?_⟩
  rotate_left
  · simp only [Act.put, List.setIfInBounds_toArray, List.set_cons_zero, List.set_cons_succ]
    rfl
  clear hO hB
  refine seq_take (v := ?_) (a' := ?_) rfl rfl (by rfl) (fun w' hw' => ?_) ?_ ?_
  rotate_left 2
  · go_simp
    with_reducible rfl
  · simp only [Act.put, List.setIfInBounds_toArray, List.set_cons_zero, List.set_cons_succ, i64_w, i32_w]
    rfl
  refine seq_take (v := ?_) (a' := ?_) rfl rfl (by rfl) (fun w' hw' => ?_) ?_ ?_
  rotate_left 2
  · go_simp
    with_reducible rfl
  · simp only [Act.put, List.setIfInBounds_toArray, List.set_cons_zero, List.set_cons_succ, i64_w, i32_w]
    rfl
  refine seq_take (v := ?_) (a' := ?_) rfl rfl (by rfl) (fun w' hw' => ?_) ?_ ?_
  rotate_left 2
  · go_simp
    with_reducible rfl
  · simp only [Act.put, List.setIfInBounds_toArray, List.set_cons_zero, List.set_cons_succ, i64_w, i32_w]
    rfl
  refine seq_take (v := ?_) (a' := ?_) rfl rfl (by rfl) (fun w' hw' => ?_) ?_ ?_
  rotate_left 2
  · go_simp
    with_reducible rfl
  · simp only [Act.put, List.setIfInBounds_toArray, List.set_cons_zero, List.set_cons_succ, i64_w, i32_w]
    rfl
  refine seq_take (v := ?_) (a' := ?_) rfl rfl (by rfl) (fun w' hw' => ?_) ?_ ?_
  rotate_left 2
  · go_simp
    with_reducible rfl
  · simp only [Act.put, List.setIfInBounds_toArray, List.set_cons_zero, List.set_cons_succ, i64_w, i32_w]
    rfl
  refine seq_endN ?_
  go_wp2
  go_ret
  exact ⟨_, rfl, Kd.R_lower HO5.out HF4.out.size, HP4.out.1.below HB5.out, HF4.out.call HB5.out⟩
end Go.Proofs.YtnkkjmbpopodlaaDoor
