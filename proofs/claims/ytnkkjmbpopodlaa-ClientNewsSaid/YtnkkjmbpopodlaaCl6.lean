/- client.Client's ask. Conditions: a client that may be, one that is not done. -/
import Derived.Test.YtnkkjmbpopodlaaCl5
namespace Go.Proofs.Ytnkkjmbpopodlaa
open Go.RowKit Go.Proofs.YtnkkjmbpopodlaaW.PrintWords Go.Proofs.YtnkkjmbpopodlaaW.PrintMore
set_option linter.unusedVariables false
set_option linter.unusedSimpArgs false
theorem st_run {w : World} {b o : Nat} {u : Value} {z : Int} (hc : w.cell? ⟨b, o, none⟩ = some u) (hf : w.frozen? ⟨b, o, none⟩ = false) : (Instr.storeAt 3 (.pointer (some ⟨b, o, none⟩)) (.int .i64 z)).run Try.prog w = .ok () (w.setCell ⟨b, o, none⟩ (.int .i64 z)) := by
  go_simp
/-- The client's worlds in ask, one behind the other. -/
structure AskCh (B g tb gr : Nat) (v : Value) (i : Nat) (x : Wt) (s t T : Int) (c cq c1 c2 c3 : Cl) : Prop where
  hA : ∀ W, PCl W B g tb c v → PCl (W.setCell ⟨g, 3, none⟩ (.int .i64 (s + 1))) B g tb cq v ∧ Fr W (W.setCell ⟨g, 3, none⟩ (.int .i64 (s + 1))) (fun k => k = g ∨ k = gr)
  h1 : ∀ W, PCl W B g tb cq v → PCl (W.setCell ⟨gr, i * 36 + 34, none⟩ (.int .i64 (s + 1))) B g tb c1 v ∧ Fr W (W.setCell ⟨gr, i * 36 + 34, none⟩ (.int .i64 (s + 1))) (fun k => k = g ∨ k = gr)
  h2 : ∀ W, PCl W B g tb c1 v → PCl (W.setCell ⟨gr, i * 36 + 33, none⟩ (.int .i64 (x.asks + 1))) B g tb c2 v ∧ Fr W (W.setCell ⟨gr, i * 36 + 33, none⟩ (.int .i64 (x.asks + 1))) (fun k => k = g ∨ k = gr)
  h3 : ∀ W, PCl W B g tb c2 v → PCl (W.setCell ⟨gr, i * 36 + 35, none⟩ (.int .i64 (t + T))) B g tb c3 v ∧ Fr W (W.setCell ⟨gr, i * 36 + 35, none⟩ (.int .i64 (t + T))) (fun k => k = g ∨ k = gr)
  r0 : ∀ W, PCl W B g tb c v → W.cell? ⟨g, 3, none⟩ = some (.int .i64 s) ∧ W.frozen? ⟨g, 3, none⟩ = false
  r1 : ∀ W, PCl W B g tb cq v → (∃ u, W.cell? ⟨gr, i * 36 + 34, none⟩ = some u) ∧ W.frozen? ⟨gr, i * 36 + 34, none⟩ = false
  r2 : ∀ W, PCl W B g tb c1 v → W.cell? ⟨gr, i * 36 + 33, none⟩ = some (.int .i64 x.asks) ∧ W.frozen? ⟨gr, i * 36 + 33, none⟩ = false
  r3 : ∀ W, PCl W B g tb c2 v → W.cell? ⟨g, 4, none⟩ = some (.func (.func 15) #[] #[.pointer (some ⟨tb, 0, none⟩)]) ∧ W.heap[tb]? = some (.cells #[.int .i64 T] 3 (0, 0)) ∧ (∃ u, W.cell? ⟨gr, i * 36 + 35, none⟩ = some u) ∧ W.frozen? ⟨gr, i * 36 + 35, none⟩ = false
  r4 : ∀ W, PCl W B g tb c3 v → W.cell? ⟨gr, i * 36 + 34, none⟩ = some (.int .i64 (s + 1)) ∧ W.rangeAt gr (i * 36) (Nm x.nm)
theorem ask_chain (B g tb : Nat) (c : Cl) (v : Value) (i : Nat) (t : Int) (x : Wt) (hx : wd c.L i = x) (hi : i < c.L.length) (k1 : x.nm.length = 32) (hst : x.st ≠ 2) : ∃ cq c1 c2, AskCh B g tb (gOf v) v i x c.seq t c.timeout c cq c1 c2 (askC c i t) := by
  have h2f : (x.st == 2) = false := by simp [hst]
  have hls : ∀ y : Wt, (c.L.set i y).length = c.L.length := fun y => List.length_set
  have hcs := fun W c' (hW : PCl W B g tb c' v) (hl : c'.L.length = c.L.length) => own_cells hW.own (i := i) (by omega)
  have e3 : askC c i t = { c with seq := c.seq + 1, L := c.L.set i (askW x (c.seq + 1) (t + c.timeout)) } := by unfold askC; rw [hx]
  rw [e3]
  refine ⟨{ c with seq := c.seq + 1 }, { c with seq := c.seq + 1, L := c.L.set i ⟨x.nm, 1, c.seq + 1, x.due, x.asks⟩ }, { c with seq := c.seq + 1, L := c.L.set i ⟨x.nm, 1, c.seq + 1, x.due, x.asks + 1⟩ }, ⟨fun W hW => hW.seqS _, fun W hW => ?_, fun W hW => ?_, fun W hW => ?_, fun W hW => ⟨hW.cells.2.2.2.1, blk_frozen hW.blk 3⟩, fun W hW => ?_, fun W hW => ?_, fun W hW => ?_, fun W hW => ?_⟩⟩
  · obtain ⟨f0, f1, f2, f3⟩ := set_at4 x.nm (.bool (x.st == 2)) (.int .i64 x.asks) (.int .i64 x.seq) (.int .i64 x.due) (.int .i64 (c.seq + 1)) k1
    exact hW.el (x' := ⟨x.nm, 1, c.seq + 1, x.due, x.asks⟩) hi (by omega) k1 (by rw [show wd ({ c with seq := c.seq + 1 } : Cl).L i = x from hx]; unfold pcells; rw [f2, h2f]; rfl)
  · obtain ⟨f0, f1, f2, f3⟩ := set_at4 x.nm (.bool false) (.int .i64 x.asks) (.int .i64 (c.seq + 1)) (.int .i64 x.due) (.int .i64 (x.asks + 1)) k1
    have := hW.el (x' := ⟨x.nm, 1, c.seq + 1, x.due, x.asks + 1⟩) (i := i) (j := 33) (u := .int .i64 (x.asks + 1)) (by show i < (c.L.set _ _).length; rw [hls]; exact hi) (by omega) k1 (by rw [show wd (c.L.set i ⟨x.nm, 1, c.seq + 1, x.due, x.asks⟩) i = _ from wd_set hi _]; unfold pcells; exact f1)
    rwa [show (({ c with seq := c.seq + 1, L := c.L.set i ⟨x.nm, 1, c.seq + 1, x.due, x.asks⟩ } : Cl).L.set i ⟨x.nm, 1, c.seq + 1, x.due, x.asks + 1⟩) = c.L.set i ⟨x.nm, 1, c.seq + 1, x.due, x.asks + 1⟩ from set_set _ _] at this
  · obtain ⟨f0, f1, f2, f3⟩ := set_at4 x.nm (.bool false) (.int .i64 (x.asks + 1)) (.int .i64 (c.seq + 1)) (.int .i64 x.due) (.int .i64 (t + c.timeout)) k1
    have := hW.el (x' := askW x (c.seq + 1) (t + c.timeout)) (i := i) (j := 35) (u := .int .i64 (t + c.timeout)) (by show i < (c.L.set _ _).length; rw [hls]; exact hi) (by omega) k1 (by rw [show wd (c.L.set i ⟨x.nm, 1, c.seq + 1, x.due, x.asks + 1⟩) i = _ from wd_set hi _]; unfold pcells; exact f3)
    rwa [show (({ c with seq := c.seq + 1, L := c.L.set i ⟨x.nm, 1, c.seq + 1, x.due, x.asks + 1⟩ } : Cl).L.set i (askW x (c.seq + 1) (t + c.timeout))) = c.L.set i (askW x (c.seq + 1) (t + c.timeout)) from set_set _ _] at this
  · obtain ⟨_, _, a2, _, _, _, _, a5⟩ := hcs W _ hW rfl
    exact ⟨⟨_, a2⟩, a5 34⟩
  · obtain ⟨_, a1, _, _, _, _, _, a5⟩ := hcs W _ hW (hls _)
    rw [show wd (c.L.set i ⟨x.nm, 1, c.seq + 1, x.due, x.asks⟩) i = _ from wd_set hi _] at a1
    exact ⟨a1, a5 33⟩
  · obtain ⟨_, _, _, a3, _, _, _, a5⟩ := hcs W _ hW (hls _)
    exact ⟨hW.cells.2.2.2.2.1, hW.tim, ⟨_, a3⟩, a5 35⟩
  · obtain ⟨_, _, a2, _, a4, _, _, _⟩ := hcs W _ hW (hls _)
    rw [show wd (c.L.set i (askW x (c.seq + 1) (t + c.timeout))) i = _ from wd_set hi _] at a2 a4
    exact ⟨a2, a4⟩
set_option maxRecDepth 20000 in
set_option maxHeartbeats 1600000 in
theorem ask_calls (B g tb : Nat) (c : Cl) (v : Value) (i : Nat) (t : Int) (w : World) (h : PCl w B g tb c v) (hok : c.ok) (hi : i < c.L.length) (hst : (wd c.L i).st ≠ 2) (hs : c.seq < 4294967295) (ht0 : 0 ≤ t) (ht1 : t ≤ 1099511627776) :
    Calls Try.prog 31 #[.pointer (some ⟨g, 0, none⟩), .pointer (some ⟨gOf v, i * 36, none⟩), .int .i64 t] w fun e w' => ∃ u, e = .returned u ∧ OwB w' w.heap.size u (askB (c.seq + 1) (wd c.L i).nm) ∧ PCl w' B g tb (askC c i t) v ∧ Fr w w' (fun k => k = g ∨ k = gOf v) := by
  obtain ⟨x, hx⟩ : ∃ x, wd c.L i = x := ⟨_, rfl⟩
  have HP := Aside0.mk h
  have hxk := hok.at hi
  rw [hx] at hxk hst ⊢
  obtain ⟨k1, k2, k3, k4, k5, k6, k7⟩ := hxk
  have h0 := hok.s0
  have hT := hok.t0
  have hT1 := hok.t1
  obtain ⟨cq, c1, c2, hch⟩ := ask_chain B g tb c v i t x hx hi k1 hst
  generalize askC c i t = c3 at *
  generalize gOf v = gr at *
  generalize c.seq = s at *
  generalize c.timeout = T at *
  have HCH := Aside0.mk hch
  have hw1 : IntKind.i64.wrap (x.asks + 1) = x.asks + 1 := by rw [IntKind.wrap_i64]; omega
  have HMB : Aside0 (mayB 1 (s + 1) 0 = true) := ⟨by unfold mayB; simp; omega⟩
  obtain ⟨a0, a1⟩ := HCH.out.r0 w HP.out
  have HADD := Aside0.mk (add_calls g s w a0 a1 h0 (by omega))
  have hT0 : 0 ≤ T := by omega
  clear h hok hi hx hst hch k3 k4 k6 k7 a0 a1
  go_enter Try.func31, Try.ntmps31
  go_upto_region 2 with (first
    | (go_at_call 35; refine HADD.out.mono ?_; rintro e w1 ⟨rfl, hw1⟩; have HP1 := Aside0.mk (HCH.out.hA w HP.out); rw [← hw1] at HP1; clear hw1; obtain ⟨⟨u1, d1⟩, d2⟩ := HCH.out.r1 w1 HP1.out.1)
    | fail)
  clear d1 d2
  obtain ⟨w2, hw2⟩ : ∃ w2, w2 = w1.setCell ⟨gr, i * 36 + 34, none⟩ (.int .i64 (s + 1)) := ⟨_, rfl⟩
  have HP2 := Aside0.mk (HCH.out.h1 w1 HP1.out.1)
  rw [← hw2] at HP2
  refine at_w1 (w := w2) hw2 ?_
  clear hw2
  obtain ⟨d1, d2⟩ := HCH.out.r2 w2 HP2.out.1
  go_upto_region 3 with fail
  clear d1 d2
  obtain ⟨w3, hw3⟩ : ∃ w3, w3 = w2.setCell ⟨gr, i * 36 + 33, none⟩ (.int .i64 (x.asks + 1)) := ⟨_, rfl⟩
  have HP3 := Aside0.mk (HCH.out.h2 w2 HP2.out.1)
  rw [← hw3] at HP3
  refine at_w1 (w := w3) hw3 ?_
  clear hw3
  obtain ⟨d1, d2, ⟨u3, d3⟩, d4⟩ := HCH.out.r3 w3 HP3.out.1
  have HD2 := Aside0.mk d2
  clear d2
  go_upto_region 4 with (first
    | (go_at_call 15; refine (due_calls t T tb w3 HD2.out ht0 ht1 hT0 hT1).mono ?_; rintro e u0 ⟨rfl, rfl⟩)
    | fail)
  clear d1 d3 d4
  obtain ⟨w4, hw4⟩ : ∃ w4, w4 = w3.setCell ⟨gr, i * 36 + 35, none⟩ (.int .i64 (t + T)) := ⟨_, rfl⟩
  have HP4 := Aside0.mk (HCH.out.h3 w3 HP3.out.1)
  rw [← hw4] at HP4
  refine at_w1 (w := w4) hw4 ?_
  clear hw4
  have HF4 : Aside0 (Fr w w4 (fun k => k = g ∨ k = gr)) := ⟨((HP1.out.2.trans HP2.out.2).trans HP3.out.2).trans HP4.out.2⟩
  have HR4 : Aside0 (∀ W, Later w4.drew W → W.cell? ⟨gr, i * 36 + 34, none⟩ = some (.int .i64 (s + 1)) ∧ W.rangeAt gr (i * 36) (Nm x.nm)) := ⟨fun W hW => HCH.out.r4 W (HP4.out.1.below ((Below.drew (Later.refl w4)).trans hW))⟩
  clear HP1 HP2 HP3
  refine seq_startN [] (.take 0 (.take 1 (.take 2 (.take 3 (.take 4 (.take 5 (.take 6 (.take 7 (.take 8 (.run 9 (.take 10 (.take 11 (.take 12 (.take 13 (.take 14 .done))))))))))))))) (by kernel_rfl) (by kernel_rfl) ?_
  refine seq_take (v := ?_) (a' := ?_) rfl rfl (by rfl) (fun w' hw' => ?_) ?_ ?_
  rotate_left 2
  · go_simp
    with_reducible rfl
  · simp only [Act.put, List.setIfInBounds_toArray, List.set_cons_zero, List.set_cons_succ, Go.Proofs.YtnkkjmbpopodlaaW.PrintLast.i64_w, Go.Proofs.YtnkkjmbpopodlaaW.PrintLast.i32_w]
    rfl
  refine seq_take (v := ?_) (a' := ?_) rfl rfl (by rfl) (fun w' hw' => ?_) ?_ ?_
  rotate_left 2
  · go_simp
    with_reducible rfl
  · simp only [Act.put, List.setIfInBounds_toArray, List.set_cons_zero, List.set_cons_succ, Go.Proofs.YtnkkjmbpopodlaaW.PrintLast.i64_w, Go.Proofs.YtnkkjmbpopodlaaW.PrintLast.i32_w]
    rfl
  refine seq_take (v := ?_) (a' := ?_) rfl rfl (by rfl) (fun w' hw' => ?_) ?_ ?_
  rotate_left 2
  · go_simp
    with_reducible rfl
  · simp only [Act.put, List.setIfInBounds_toArray, List.set_cons_zero, List.set_cons_succ, Go.Proofs.YtnkkjmbpopodlaaW.PrintLast.i64_w, Go.Proofs.YtnkkjmbpopodlaaW.PrintLast.i32_w]
    rfl
  refine seq_take (v := ?_) (a' := ?_) rfl rfl (by rfl) (fun w' hw' => ?_) ?_ ?_
  rotate_left 2
  · obtain ⟨r1, r2⟩ := HR4.out w' hw'; go_simp
    with_reducible rfl
  · simp only [Act.put, List.setIfInBounds_toArray, List.set_cons_zero, List.set_cons_succ, Go.Proofs.YtnkkjmbpopodlaaW.PrintLast.i64_w, Go.Proofs.YtnkkjmbpopodlaaW.PrintLast.i32_w]
    rfl
  refine seq_take (v := ?_) (a' := ?_) rfl rfl (by rfl) (fun w' hw' => ?_) ?_ ?_
  rotate_left 2
  · go_simp
    with_reducible rfl
  · simp only [Act.put, List.setIfInBounds_toArray, List.set_cons_zero, List.set_cons_succ, Go.Proofs.YtnkkjmbpopodlaaW.PrintLast.i64_w, Go.Proofs.YtnkkjmbpopodlaaW.PrintLast.i32_w]
    rfl
  refine seq_take (v := ?_) (a' := ?_) rfl rfl (by rfl) (fun w' hw' => ?_) ?_ ?_
  rotate_left 2
  · go_simp
    with_reducible rfl
  · simp only [Act.put, List.setIfInBounds_toArray, List.set_cons_zero, List.set_cons_succ, Go.Proofs.YtnkkjmbpopodlaaW.PrintLast.i64_w, Go.Proofs.YtnkkjmbpopodlaaW.PrintLast.i32_w]
    rfl
  refine seq_take (v := ?_) (a' := ?_) rfl rfl (by rfl) (fun w' hw' => ?_) ?_ ?_
  rotate_left 2
  · go_simp
    with_reducible rfl
  · simp only [Act.put, List.setIfInBounds_toArray, List.set_cons_zero, List.set_cons_succ, Go.Proofs.YtnkkjmbpopodlaaW.PrintLast.i64_w, Go.Proofs.YtnkkjmbpopodlaaW.PrintLast.i32_w]
    rfl
  refine seq_take (v := _) (a' := ?_) rfl rfl (by rfl) (fun w' hw' => load_run rfl (p := .pointer (some ⟨gr, i * 36, none⟩)) rfl (run_loadAt_mid _ gr (i * 36) _ (Nm x.nm) _ (HR4.out w' hw').2 Try.underlying51 rfl (size_d x.nm k1))) ?_ ?_
  rotate_left
  · simp only [Act.put, List.setIfInBounds_toArray, List.set_cons_zero, List.set_cons_succ, Go.Proofs.YtnkkjmbpopodlaaW.PrintLast.i64_w, Go.Proofs.YtnkkjmbpopodlaaW.PrintLast.i32_w]
    rfl
  refine seq_take (v := _) (a' := ?_) rfl rfl (by rfl) (fun w' hw' => build_run 86 #[(0, .const (.int .i64 1)), (1, .tmp 36), (2, .tmp 40)] rfl (built_w3 1 (s + 1) x.nm k1)) ?_ ?_
  rotate_left
  · simp only [Act.put, List.setIfInBounds_toArray, List.set_cons_zero, List.set_cons_succ, Go.Proofs.YtnkkjmbpopodlaaW.PrintLast.i64_w, Go.Proofs.YtnkkjmbpopodlaaW.PrintLast.i32_w]
    rfl
  refine seq_run ?_
  refine do_call rfl rfl (by rfl) rfl Try.func36 (by kernel_rfl) rfl #[.agg (Mc 1 (s + 1) x.nm (.slice none 0 0)).toArray] (by simp only [List.map_toArray, List.map_cons, List.map_nil]; rfl) ?_
  with_reducible refine (wwrite_calls 1 (s + 1) x.nm none 0 0 [] _ w4.drew rfl k1 k2 (Kd.C_nil _ _) Bytes.nil (by omega)).mono ?_
  rw [HMB.out]
  rintro e w5 ⟨u, rfl, hO, hB⟩
  have HB5 : Aside0 (Below w4.heap.size w4 w5) := ⟨(Below.drew (Below.refl _ w4)).trans hB⟩
  have HO5 : Aside0 (OwB w5 w4.heap.size u (askB (s + 1) x.nm)) := ⟨hO⟩
  obtain ⟨A5, cp5, rfl, -, -⟩ := OwB.reads HO5.out
  refine ⟨_, ?_, rfl, ?_, fun _ => hB, ?_⟩
  rotate_left
  · simp only [Act.put, List.setIfInBounds_toArray, List.set_cons_zero, List.set_cons_succ]
    rfl
  clear hO hB
  refine seq_take (v := ?_) (a' := ?_) rfl rfl (by rfl) (fun w' hw' => ?_) ?_ ?_
  rotate_left 2
  · go_simp
    with_reducible rfl
  · simp only [Act.put, List.setIfInBounds_toArray, List.set_cons_zero, List.set_cons_succ, Go.Proofs.YtnkkjmbpopodlaaW.PrintLast.i64_w, Go.Proofs.YtnkkjmbpopodlaaW.PrintLast.i32_w]
    rfl
  refine seq_take (v := ?_) (a' := ?_) rfl rfl (by rfl) (fun w' hw' => ?_) ?_ ?_
  rotate_left 2
  · go_simp
    with_reducible rfl
  · simp only [Act.put, List.setIfInBounds_toArray, List.set_cons_zero, List.set_cons_succ, Go.Proofs.YtnkkjmbpopodlaaW.PrintLast.i64_w, Go.Proofs.YtnkkjmbpopodlaaW.PrintLast.i32_w]
    rfl
  refine seq_take (v := ?_) (a' := ?_) rfl rfl (by rfl) (fun w' hw' => ?_) ?_ ?_
  rotate_left 2
  · go_simp
    with_reducible rfl
  · simp only [Act.put, List.setIfInBounds_toArray, List.set_cons_zero, List.set_cons_succ, Go.Proofs.YtnkkjmbpopodlaaW.PrintLast.i64_w, Go.Proofs.YtnkkjmbpopodlaaW.PrintLast.i32_w]
    rfl
  refine seq_take (v := ?_) (a' := ?_) rfl rfl (by rfl) (fun w' hw' => ?_) ?_ ?_
  rotate_left 2
  · go_simp
    with_reducible rfl
  · simp only [Act.put, List.setIfInBounds_toArray, List.set_cons_zero, List.set_cons_succ, Go.Proofs.YtnkkjmbpopodlaaW.PrintLast.i64_w, Go.Proofs.YtnkkjmbpopodlaaW.PrintLast.i32_w]
    rfl
  refine seq_take (v := ?_) (a' := ?_) rfl rfl (by rfl) (fun w' hw' => ?_) ?_ ?_
  rotate_left 2
  · go_simp
    with_reducible rfl
  · simp only [Act.put, List.setIfInBounds_toArray, List.set_cons_zero, List.set_cons_succ, Go.Proofs.YtnkkjmbpopodlaaW.PrintLast.i64_w, Go.Proofs.YtnkkjmbpopodlaaW.PrintLast.i32_w]
    rfl
  refine seq_endN ?_
  go_wp2
  go_ret
  exact ⟨_, rfl, Kd.R_lower HO5.out HF4.out.size, HP4.out.1.below HB5.out, HF4.out.call HB5.out⟩
end Go.Proofs.Ytnkkjmbpopodlaa
