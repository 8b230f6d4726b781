/- cut.Cutter: its state; New, End. Conditions: their own. -/
import Derived.Test.YtdfahblgnbdndaaDoorCut2
namespace Go.Proofs.YtdfahblgnbdndaaDoor
open Go.RowKit Go.Proofs.YtdfahblgnbdndaaDoorW.PrintWords Go.Proofs.YtdfahblgnbdndaaDoorW.PrintMore
set_option linter.unusedVariables false
set_option linter.unusedSimpArgs false
/-- Rows of rows of bytes. -/
abbrev KL : Kd (List Int) := Kd.slice 5 (Kd.int .u8)
def Cc (a b c m : Int) (gr : Nat) (v : Value) : Array Value := #[.int .i64 a, .int .i64 b, .int .i64 c, .int .u32 m, .pointer (some ⟨gr, 0, none⟩), v]
/-- A cutter: its block, its roll, what was not told yet. -/
structure CSt (B0 g gr a b c : Nat) (cur : List Int) (v : Value) (w : World) : Prop where
  blk : w.heap[g]? = some (.cells #[.int .i64 (a : Int), .int .i64 (b : Int), .int .i64 (c : Int), .int .u32 ((pw b - 1 : Nat) : Int), .pointer (some ⟨gr, 0, none⟩), v] 140 (0, 0))
  roll : RSt w gr cur
  own : OwB w B0 v cur
  by_ : Bytes cur
  hg : B0 ≤ g
  hr : B0 ≤ gr
theorem CSt.typed {B0 g gr a b c : Nat} {cur : List Int} {v : Value} {w : World} (h : CSt B0 g gr a b c cur v w) : ∃ cs, w.heap[gr]? = some (.cells cs 169 (0, 0)) := by
  obtain ⟨d, ls, la, hB, _⟩ := h.roll
  exact ⟨_, hB⟩
theorem CSt.ne {B0 g gr a b c : Nat} {cur : List Int} {v : Value} {w : World} (h : CSt B0 g gr a b c cur v w) : g ≠ gr := by
  obtain ⟨cs, hr⟩ := h.typed
  exact blk_ne h.blk hr (by decide)
theorem CSt.cells {B0 g gr a b c : Nat} {cur : List Int} {v : Value} {w : World} (h : CSt B0 g gr a b c cur v w) :
    w.cell? ⟨g, 0, none⟩ = some (.int .i64 (a : Int)) ∧ w.cell? ⟨g, 2, none⟩ = some (.int .i64 (c : Int)) ∧ w.cell? ⟨g, 3, none⟩ = some (.int .u32 ((pw b - 1 : Nat) : Int)) ∧ w.cell? ⟨g, 4, none⟩ = some (.pointer (some ⟨gr, 0, none⟩)) ∧ w.cell? ⟨g, 5, none⟩ = some v ∧ w.frozen? ⟨g, 5, none⟩ = false := by
  refine ⟨?_, ?_, ?_, ?_, ?_, blk_frozen h.blk 5⟩ <;> (rw [blk_cell h.blk]; rfl)
theorem CSt.setB {B0 g gr a b c : Nat} {cur : List Int} {v : Value} {w : World} (h : CSt B0 g gr a b c cur v w) {v1 : Value} {w1 : World} {cur1 : List Int} (hb : w1.heap[g]? = w.heap[g]?) (hr : RSt w1 gr cur1) (ho : OwB w1 B0 v1 cur1) (hby : Bytes cur1) : CSt B0 g gr a b c cur1 v1 (w1.setCell ⟨g, 5, none⟩ v1) := by
  have h1 := hb.trans h.blk
  have hne := h.ne
  refine ⟨blk_set h1 5 v1, hr.move (Below.heap_setCell w1 ⟨g, 5, none⟩ v1 gr (Ne.symm hne)), ?_, hby, h.hg, h.hr⟩
  exact Kd.R_set ho h1 (by decide) 5 v1
theorem CSt.below {B0 g gr a b c : Nat} {cur : List Int} {v : Value} {w w1 : World} (h : CSt B0 g gr a b c cur v w) (k : Below w.heap.size w w1) : CSt B0 g gr a b c cur v w1 :=
  ⟨Later.heap k h.blk, h.roll.below k, OwB.below h.own k, h.by_, h.hg, h.hr⟩
theorem OwB.setTyped {w w1 : World} {B0 g t : Nat} {v : Value} {xs : List Int} {cs : Array Value} {o : Obj} (h : OwB w B0 v xs) (hb : w.heap[g]? = some (.cells cs t (0, 0))) (ht : 5 ≠ t) (hS : SetBlk w w1 g o) : OwB w1 B0 v xs :=
  Kd.R_mono (Kd.R_step (Kd.R_types h hb (fun q hq => by rcases List.mem_cons.1 hq with rfl | hq; exact ht; cases hq)) (fun k hk _ => hS.else_ k hk.2)) (fun _ hk => hk.1)
theorem end_calls (B0 g gr a b c : Nat) (cur : List Int) (v : Value) (w : World) (h : CSt B0 g gr a b c cur v w) :
    Calls Tryd.prog 77 #[.pointer (some ⟨g, 0, none⟩)] w fun e w' => e = .returned v ∧ CSt B0 g gr a b c [] (.slice none 0 0) w' ∧ OwB w' B0 v cur ∧ Fr w w' (fun k => k = g ∨ k = gr) := by
  obtain ⟨c0, c2, c3, c4, c5, f5⟩ := h.cells
  obtain ⟨A, d, rfl, _, _⟩ := h.own.reads
  have HS := Aside0.mk h
  have hne := h.ne
  have HR5 : Aside0 (RSt (w.setCell ⟨g, 5, none⟩ (.slice none 0 0)) gr cur) := ⟨h.roll.move (Below.heap_setCell w ⟨g, 5, none⟩ _ gr (Ne.symm hne))⟩
  clear h hne
  go_enter Tryd.func77, Tryd.ntmps77
  go_wp2_with (go_at_call 101; refine (reset_calls gr cur _ HR5.out).mono ?_; rintro e w1 ⟨rfl, hR, o, hS⟩; have HR := Aside0.mk hR; have HSB := Aside0.mk hS; clear hR hS)
  (try simp only [Exit.inBlock, Exit.then])
  have hne := HS.out.ne
  obtain ⟨cs, hrt⟩ := HS.out.typed
  have hb5 := blk_set HS.out.blk 5 (.slice none 0 0)
  have hr5 := blk_far (p := ⟨g, 5, none⟩) hrt (Ne.symm hne) (.slice none 0 0)
  refine bodyPost_ret (results_tmp rfl _ _ _) rfl ⟨rfl, ⟨(HSB.out.else_ g hne).trans hb5, HR.out, Kd.R_nil _ _ _ _ _, Bytes.nil, HS.out.hg, HS.out.hr⟩, ?_, ?_⟩
  · exact OwB.setTyped (Kd.R_set HS.out.own HS.out.blk (by decide) 5 _) hr5 (by decide) HSB.out
  · exact ((Fr.refl w _).set (setBlk_cell HS.out.blk _) (.inl (.inl rfl))).set HSB.out (.inl (.inr rfl))
theorem built_c (a b c m : Int) (gr : Nat) : Tryd.prog.built 140 [(0, .agg #[.int .i64 a, .int .i64 b, .int .i64 c]), (1, .int .u32 m), (2, .pointer (some ⟨gr, 0, none⟩))] = some #[.int .i64 a, .int .i64 b, .int .i64 c, .int .u32 m, .pointer (some ⟨gr, 0, none⟩), .slice none 0 0] := by kernel_rfl
theorem cnew_bad (a b c : Int) (w : World) (h : mayB a b c = false) :
    Calls Tryd.prog 75 #[.agg #[.int .i64 a, .int .i64 b, .int .i64 c]] w fun e w' => e = .returned (.tuple #[.pointer none, .int .i64 1]) ∧ Below w.heap.size w w' := by
  have HM := Aside0.mk h
  clear h
  go_enter Tryd.func75, Tryd.ntmps75
  go_wp2_with (go_at_call 40; refine (may_calls a b c _).mono ?_; rw [HM.out]; rintro e w1 ⟨rfl, hB⟩; have HB1 := Aside0.mk hB; clear hB)
  (try simp only [Exit.inBlock, Exit.then])
  exact bodyPost_ret (results_tmp2 rfl _ _ _) rfl ⟨rfl, Below.trans (below_alloc (Below.refl _ w) _) (HB1.out.mono (by simp))⟩
set_option maxRecDepth 20000 in
theorem cnew_ok (a b c : Nat) (w : World) (h : mayB a b c = true) :
    Calls Tryd.prog 75 #[.agg #[.int .i64 a, .int .i64 b, .int .i64 c]] w fun e w' => ∃ g gr, e = .returned (.tuple #[.pointer (some ⟨g, 0, none⟩), .int .i64 0]) ∧ CSt w.heap.size g gr a b c [] (.slice none 0 0) w' ∧ Below w.heap.size w w' := by
  have HM := Aside0.mk h
  clear h
  go_enter Tryd.func75, Tryd.ntmps75
  go_wp2_with (go_at_call 40; refine (may_calls a b c _).mono ?_; rw [HM.out]; rintro e w1 ⟨rfl, hB⟩; have HB1 : Aside0 (Below w.heap.size w w1) := ⟨Below.trans (below_alloc (Below.refl _ w) _) (hB.mono (by simp))⟩; have HBX := Aside0.mk (Later.heap hB (blk_new w (.cells #[.int .i64 (a : Int), .int .i64 (b : Int), .int .i64 (c : Int)] 24))); clear hB)
  have HBD : Aside0 (w1.drew.heap[w.heap.size]? = some (.cells #[.int .i64 (a : Int), .int .i64 (b : Int), .int .i64 (c : Int)] 24 (0, 0))) := ⟨HBX.out⟩
  refine seq_start [] (.take 0 (.take 1 (.run 2 (.run 3 (.take 4 (.run 5 (.take 6 (.take 7 .done)))))))) (by kernel_rfl) (by kernel_rfl) (fun _ _ d _ _ h => by cases d <;> exact h) ?_
  refine seq_take (v := ?_) (a' := ?_) rfl rfl (by rfl) (fun w' hw' => ?_) ?_ ?_
  rotate_left 2
  · obtain ⟨q0, q1, q2⟩ := pm_cells (Later.heap hw' HBD.out); go_simp
    with_reducible rfl
  · simp only [Act.put, List.setIfInBounds_toArray, List.set_cons_zero, List.set_cons_succ, Go.Proofs.YtdfahblgnbdndaaDoorW.PrintLast.i64_w, Go.Proofs.YtdfahblgnbdndaaDoorW.PrintLast.i32_w]
    rfl
  refine seq_take (v := ?_) (a' := ?_) rfl rfl (by rfl) (fun w' hw' => ?_) ?_ ?_
  rotate_left 2
  · obtain ⟨q0, q1, q2⟩ := pm_cells (Later.heap hw' HBD.out); go_simp
    with_reducible rfl
  · simp only [Act.put, List.setIfInBounds_toArray, List.set_cons_zero, List.set_cons_succ, Go.Proofs.YtdfahblgnbdndaaDoorW.PrintLast.i64_w, Go.Proofs.YtdfahblgnbdndaaDoorW.PrintLast.i32_w]
    rfl
  refine seq_run ?_
  refine do_call rfl rfl (by rfl) rfl Tryd.func98 (by kernel_rfl) rfl #[.agg #[.int .i64 (a : Int), .int .i64 (b : Int), .int .i64 (c : Int)]] (by simp only [List.map_toArray, List.map_cons, List.map_nil]; rfl) ?_
  with_reducible refine (mask_calls a b c _ HM.out).mono ?_
  rintro e w2 ⟨rfl, hB2⟩
  refine ⟨_, ?_, rfl, ?_, fun _ => hB2, ?_⟩
  rotate_left
  · simp only [Act.put, List.setIfInBounds_toArray, List.set_cons_zero, List.set_cons_succ, Go.Proofs.YtdfahblgnbdndaaDoorW.PrintLast.i64_w, Go.Proofs.YtdfahblgnbdndaaDoorW.PrintLast.i32_w]
    rfl
  have HB2 : Aside0 (Later w1.drew w2) := ⟨hB2⟩
  clear hB2
  refine seq_run ?_
  refine do_call rfl rfl (by rfl) rfl Tryd.func99 (by kernel_rfl) rfl #[] (by simp only [List.map_toArray, List.map_nil]) ?_
  with_reducible refine (rnew_calls _).mono ?_
  rintro e w3 ⟨rfl, hR3, hB3, hs3⟩
  refine ⟨_, ?_, rfl, ?_, fun _ => hB3, ?_⟩
  rotate_left
  · simp only [Act.put, List.setIfInBounds_toArray, List.set_cons_zero, List.set_cons_succ, Go.Proofs.YtdfahblgnbdndaaDoorW.PrintLast.i64_w, Go.Proofs.YtdfahblgnbdndaaDoorW.PrintLast.i32_w]
    rfl
  have HR3 := Aside0.mk hR3
  have HB3 : Aside0 (Later w2 w3) := ⟨hB3⟩
  clear hR3 hB3
  have hbuilt := built_c a b c ((pw b - 1 : Nat) : Int) w2.heap.size
  refine seq_take (v := _) (a' := ?_) rfl rfl (by rfl) (fun w' hw' => build_run 140 #[(0, .tmp 7), (1, .tmp 9), (2, .tmp 10)] rfl hbuilt) ?_ ?_
  rotate_left
  · simp only [Act.put, List.setIfInBounds_toArray, List.set_cons_zero, List.set_cons_succ, Go.Proofs.YtdfahblgnbdndaaDoorW.PrintLast.i64_w, Go.Proofs.YtdfahblgnbdndaaDoorW.PrintLast.i32_w]
    rfl
  refine seq_run ?_
  refine do_val (v := ?_) (a' := ?_) (w1 := ?_) rfl rfl (by rfl) ?_ ?_ ?_
  rotate_left 3
  · go_simp
    constructor <;> rfl
  · simp only [Act.put, List.setIfInBounds_toArray, List.set_cons_zero, List.set_cons_succ, Go.Proofs.YtdfahblgnbdndaaDoorW.PrintLast.i64_w, Go.Proofs.YtdfahblgnbdndaaDoorW.PrintLast.i32_w]
    rfl
  refine ⟨fun _ => below_alloc (Below.refl _ _) _, ?_⟩
  refine seq_take (v := ?_) (a' := ?_) rfl rfl (by rfl) (fun w' hw' => ?_) ?_ ?_
  rotate_left 2
  · go_simp
    with_reducible rfl
  · simp only [Act.put, List.setIfInBounds_toArray, List.set_cons_zero, List.set_cons_succ, Go.Proofs.YtdfahblgnbdndaaDoorW.PrintLast.i64_w, Go.Proofs.YtdfahblgnbdndaaDoorW.PrintLast.i32_w]
    rfl
  refine seq_take (v := ?_) (a' := ?_) rfl rfl (by rfl) (fun w' hw' => ?_) ?_ ?_
  rotate_left 2
  · go_simp
    with_reducible rfl
  · simp only [Act.put, List.setIfInBounds_toArray, List.set_cons_zero, List.set_cons_succ, Go.Proofs.YtdfahblgnbdndaaDoorW.PrintLast.i64_w, Go.Proofs.YtdfahblgnbdndaaDoorW.PrintLast.i32_w]
    rfl
  refine seq_end ?_
  go_wp2
  (try simp only [Exit.inBlock, Exit.then])
  have HN := blk_new w3 (.cells #[.int .i64 (a : Int), .int .i64 (b : Int), .int .i64 (c : Int), .int .u32 ((pw b - 1 : Nat) : Int), .pointer (some ⟨w2.heap.size, 0, none⟩), .slice none 0 0] 140)
  have B2 : Below w.heap.size w w2 := below_tr HB1.out (Later.trans (Below.drew (Later.refl w1)) HB2.out) HB1.out.size
  have B3 := below_tr B2 HB3.out B2.size
  have B3s := B3.size
  rw [hs3] at HN B3s
  exact bodyPost_ret (results_tmp2 rfl _ _ _) rfl ⟨w2.heap.size + 1, w2.heap.size, rfl, ⟨HN, HR3.out.below (below_alloc (Below.refl _ _) _), Kd.R_nil _ _ _ _ _, Bytes.nil, B3s, B2.size⟩, below_alloc B3 _⟩
end Go.Proofs.YtdfahblgnbdndaaDoor
