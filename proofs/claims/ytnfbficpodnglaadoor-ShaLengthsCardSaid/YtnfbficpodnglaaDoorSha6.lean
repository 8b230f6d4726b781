/- Contracts: sha.New, State's Len, Clone. Conditions: each contract's own. -/
import Derived.Test.YtnfbficpodnglaaDoorSha5
namespace Go.Proofs.YtnfbficpodnglaaDoor
open Go.RowKit Go.Proofs.YtnfbficpodnglaaDoorW.PrintWords Go.Proofs.YtnfbficpodnglaaDoorW.PrintMore
set_option linter.unusedVariables false
set_option linter.unusedSimpArgs false
theorem built_iv : Tryd.prog.built 45 [(0, .int .u32 1779033703), (1, .int .u32 3144134277), (2, .int .u32 1013904242), (3, .int .u32 2773480762), (4, .int .u32 1359893119), (5, .int .u32 2600822924), (6, .int .u32 528734635), (7, .int .u32 1541459225)] = some (Us IV).toArray := by kernel_rfl
theorem built_s0 : Tryd.prog.built 47 [(0, .agg (Us IV).toArray)] = some (Sc IV 0 (.slice none 0 0)).toArray := by kernel_rfl
theorem built_s8 (x0 x1 x2 x3 x4 x5 x6 x7 n : Int) (A : Option Addr) (m c : Nat) : Tryd.prog.built 47 [(0, .agg (Us [x0, x1, x2, x3, x4, x5, x6, x7]).toArray), (1, .int .i64 n), (2, .slice A m c)] = some (Sc [x0, x1, x2, x3, x4, x5, x6, x7] n (.slice A m c)).toArray := by kernel_rfl
theorem built_s3 (h : List Int) (n : Int) (A : Option Addr) (m c : Nat) (hl : h.length = 8) : Tryd.prog.built 47 [(0, .agg (Us h).toArray), (1, .int .i64 n), (2, .slice A m c)] = some (Sc h n (.slice A m c)).toArray := by
  match h, hl with
  | [x0, x1, x2, x3, x4, x5, x6, x7], _ => exact built_s8 x0 x1 x2 x3 x4 x5 x6 x7 n A m c
def NwPost (w : World) (xs : List Int) (e : Ending) (w' : World) : Prop :=
  ∃ (g : Nat) (v : Value), e = .returned (.pointer (some ⟨g, 0, none⟩)) ∧ w.heap.size ≤ g ∧ g < w'.heap.size ∧ Sta w' w.heap.size g v xs ∧ Below w.heap.size w w'
theorem new_calls (w : World) : Calls Tryd.prog 14 #[] w fun e w' => NwPost w [] e w' := by
  go_enter Tryd.func14, Tryd.ntmps14
  go_wp2_with (first
    | ((with_reducible refine at_bd 45 ?_); refine build_arm rfl 45 _ rfl built_iv ?_; simp only [Act.put, List.setIfInBounds_toArray, List.set_cons_zero, List.set_cons_succ])
    | ((with_reducible refine at_bd 47 ?_); refine build_arm rfl 47 _ rfl built_s0 ?_; simp only [Act.put, List.setIfInBounds_toArray, List.set_cons_zero, List.set_cons_succ]))
  go_ret
  exact ⟨w.heap.size, .slice none 0 0, rfl, Nat.le_refl _, by simp, ⟨blk_new w _, QB.nil _ _⟩, (Below.refl _ _).alloc (Nat.le_refl _) _⟩
theorem len_calls (g : Nat) (v : Value) (xs : List Int) (base : Nat) (w : World) (h : Sta w base g v xs) : Calls Tryd.prog 17 #[.pointer (some ⟨g, 0, none⟩)] w fun e w' => e = .returned (.int .i64 xs.length) ∧ w = w' := by
  have hH := hs_len xs (xs.length / 64)
  have G := Aside0.mk h.1
  clear h
  go_enter Tryd.func17, Tryd.ntmps17
  go_wp2_with (first | ((with_reducible refine at_ld 3 (.tmp 5) ?_); refine load_arm rfl 3 (.tmp 5) rfl rfl (ld_n G.out hH) ?_; simp only [Act.put, List.setIfInBounds_toArray, List.set_cons_zero, List.set_cons_succ]))
  go_ret
  exact ⟨rfl, rfl⟩
set_option maxRecDepth 20000 in
theorem sclone_calls (g : Nat) (v : Value) (xs : List Int) (base : Nat) (w : World) (h : Sta w base g v xs) (hl : xs.length ≤ 1099511627776) : Calls Tryd.prog 18 #[.pointer (some ⟨g, 0, none⟩)] w fun e w' => NwPost w xs e w' := by
  have hH := Aside0.mk (hs_len xs (xs.length / 64))
  have G' := h.1
  obtain ⟨A, c, hv, hc, hR⟩ := h.2.reads
  have hDL : (xs.drop (64 * (xs.length / 64))).length = xs.length - 64 * (xs.length / 64) := List.length_drop
  rw [hv] at G'
  rw [hDL] at G' hR
  have HR := Aside0.mk hR
  have GD : Aside0 (w.drew.heap[g]? = some (.cells (Sc (hs xs (xs.length / 64)) xs.length (.slice A (xs.length - 64 * (xs.length / 64)) c)).toArray 47 (0, 0))) := ⟨G'⟩
  have HDL := Aside0.mk hDL
  have HHE : Aside0 (hs xs (xs.length / 64) = hs xs (xs.length / 64)) := ⟨rfl⟩
  clear h G' hv hc hR hDL
  have hLE : xs.length - 64 * (xs.length / 64) ≤ 140737488355328 := by omega
  generalize hLL : xs.length - 64 * (xs.length / 64) = LL at *
  generalize hhh : hs xs (xs.length / 64) = hh at *
  have HHH := Aside0.mk hhh
  clear hhh hLL
  go_enter Tryd.func18, Tryd.ntmps18
  go_wp2
  refine seq_start [] (.take 0 (.take 1 (.take 2 (.take 3 (.take 4 (.take 5 (.take 6 (.take 7 (.take 8 (.take 9 (.take 10 (.take 11 (.run 12 (.take 13 (.run 14 (.take 15 .done)))))))))))))))) (by kernel_rfl) (by kernel_rfl) (fun _ _ d _ _ h => by cases d <;> exact h) ?_
  refine seq_take (v := ?_) (a' := ?_) rfl rfl (by rfl) (fun w' hw' => ?_) ?_ ?_
  rotate_left 2
  · go_simp
    with_reducible rfl
  · simp only [Act.put, List.setIfInBounds_toArray, List.set_cons_zero, List.set_cons_succ, Go.Proofs.YtnfbficpodnglaaDoorW.PrintLast.i64_w, Go.Proofs.YtnfbficpodnglaaDoorW.PrintLast.i32_w]
    rfl
  refine seq_take (v := ?_) (a' := ?_) rfl rfl (by rfl) (fun w' hw' => ?_) ?_ ?_
  rotate_left 2
  · go_simp
    with_reducible rfl
  · simp only [Act.put, List.setIfInBounds_toArray, List.set_cons_zero, List.set_cons_succ, Go.Proofs.YtnfbficpodnglaaDoorW.PrintLast.i64_w, Go.Proofs.YtnfbficpodnglaaDoorW.PrintLast.i32_w]
    rfl
  refine seq_take (v := ?_) (a' := ?_) rfl rfl (by rfl) (fun w' hw' => ?_) ?_ ?_
  rotate_left 2
  · go_simp
    with_reducible rfl
  · simp only [Act.put, List.setIfInBounds_toArray, List.set_cons_zero, List.set_cons_succ, Go.Proofs.YtnfbficpodnglaaDoorW.PrintLast.i64_w, Go.Proofs.YtnfbficpodnglaaDoorW.PrintLast.i32_w]
    rfl
  refine seq_take (v := _) (a' := ?_) rfl rfl (by rfl) (fun w' hw' => load_run rfl (p := .pointer (some ⟨g, 0, none⟩)) rfl (ld_h (hw'.heap GD.out) hH.out)) ?_ ?_
  rotate_left
  · simp only [Act.put, List.setIfInBounds_toArray, List.set_cons_zero, List.set_cons_succ, Go.Proofs.YtnfbficpodnglaaDoorW.PrintLast.i64_w, Go.Proofs.YtnfbficpodnglaaDoorW.PrintLast.i32_w]
    rfl
  refine seq_take (v := ?_) (a' := ?_) rfl rfl (by rfl) (fun w' hw' => ?_) ?_ ?_
  rotate_left 2
  · go_simp
    with_reducible rfl
  · simp only [Act.put, List.setIfInBounds_toArray, List.set_cons_zero, List.set_cons_succ, Go.Proofs.YtnfbficpodnglaaDoorW.PrintLast.i64_w, Go.Proofs.YtnfbficpodnglaaDoorW.PrintLast.i32_w]
    rfl
  refine seq_take (v := ?_) (a' := ?_) rfl rfl (by rfl) (fun w' hw' => ?_) ?_ ?_
  rotate_left 2
  · go_simp
    with_reducible rfl
  · simp only [Act.put, List.setIfInBounds_toArray, List.set_cons_zero, List.set_cons_succ, Go.Proofs.YtnfbficpodnglaaDoorW.PrintLast.i64_w, Go.Proofs.YtnfbficpodnglaaDoorW.PrintLast.i32_w]
    rfl
  refine seq_take (v := ?_) (a' := ?_) rfl rfl (by rfl) (fun w' hw' => ?_) ?_ ?_
  rotate_left 2
  · go_simp
    with_reducible rfl
  · simp only [Act.put, List.setIfInBounds_toArray, List.set_cons_zero, List.set_cons_succ, Go.Proofs.YtnfbficpodnglaaDoorW.PrintLast.i64_w, Go.Proofs.YtnfbficpodnglaaDoorW.PrintLast.i32_w]
    rfl
  refine seq_take (v := _) (a' := ?_) rfl rfl (by rfl) (fun w' hw' => load_run rfl (p := .pointer (some ⟨g, 8, none⟩)) rfl (ld_n (hw'.heap GD.out) hH.out)) ?_ ?_
  rotate_left
  · simp only [Act.put, List.setIfInBounds_toArray, List.set_cons_zero, List.set_cons_succ, Go.Proofs.YtnfbficpodnglaaDoorW.PrintLast.i64_w, Go.Proofs.YtnfbficpodnglaaDoorW.PrintLast.i32_w]
    rfl
  refine seq_take (v := ?_) (a' := ?_) rfl rfl (by rfl) (fun w' hw' => ?_) ?_ ?_
  rotate_left 2
  · go_simp
    with_reducible rfl
  · simp only [Act.put, List.setIfInBounds_toArray, List.set_cons_zero, List.set_cons_succ, Go.Proofs.YtnfbficpodnglaaDoorW.PrintLast.i64_w, Go.Proofs.YtnfbficpodnglaaDoorW.PrintLast.i32_w]
    rfl
  refine seq_take (v := ?_) (a' := ?_) rfl rfl (by rfl) (fun w' hw' => ?_) ?_ ?_
  rotate_left 2
  · go_simp
    with_reducible rfl
  · simp only [Act.put, List.setIfInBounds_toArray, List.set_cons_zero, List.set_cons_succ, Go.Proofs.YtnfbficpodnglaaDoorW.PrintLast.i64_w, Go.Proofs.YtnfbficpodnglaaDoorW.PrintLast.i32_w]
    rfl
  refine seq_take (v := ?_) (a' := ?_) rfl rfl (by rfl) (fun w' hw' => ?_) ?_ ?_
  rotate_left 2
  · go_simp
    with_reducible rfl
  · simp only [Act.put, List.setIfInBounds_toArray, List.set_cons_zero, List.set_cons_succ, Go.Proofs.YtnfbficpodnglaaDoorW.PrintLast.i64_w, Go.Proofs.YtnfbficpodnglaaDoorW.PrintLast.i32_w]
    rfl
  refine seq_take (v := _) (a' := ?_) rfl rfl (by rfl) (fun w' hw' => load_run rfl (p := .pointer (some ⟨g, 9, none⟩)) rfl (ld_r (hw'.heap GD.out) hH.out)) ?_ ?_
  rotate_left
  · simp only [Act.put, List.setIfInBounds_toArray, List.set_cons_zero, List.set_cons_succ, Go.Proofs.YtnfbficpodnglaaDoorW.PrintLast.i64_w, Go.Proofs.YtnfbficpodnglaaDoorW.PrintLast.i32_w]
    rfl
  refine seq_run ?_
  refine do_call rfl rfl (by rfl) rfl Tryd.func23 (by kernel_rfl) rfl #[.slice A LL c] (by simp only [List.map_toArray, List.map_cons, List.map_nil]; rfl) ?_
  with_reducible refine (clone_calls A LL c (xs.drop (64 * (xs.length / 64))) _ (Kd.C_drew HR.out) (by omega)).mono ?_
  rintro e w1 ⟨v1, rfl, hO1, hB1⟩
  refine ⟨_, ?_, rfl, ?_, fun _ => hB1, ?_⟩
  rotate_left
  · simp only [Act.put, List.setIfInBounds_toArray, List.set_cons_zero, List.set_cons_succ, Go.Proofs.YtnfbficpodnglaaDoorW.PrintLast.i64_w, Go.Proofs.YtnfbficpodnglaaDoorW.PrintLast.i32_w]
    rfl
  obtain ⟨A1, c1, hv1, hc1, _⟩ := OwB.reads hO1
  have HO1 := Aside0.mk hO1
  have HB1 := Aside0.mk hB1
  clear hO1 hB1
  subst hv1
  refine seq_take (v := _) (a' := ?_) rfl rfl (by rfl) (fun w' hw' => build_run _ _ rfl (built_s3 hh xs.length A1 _ c1 hH.out)) ?_ ?_
  rotate_left
  · simp only [Act.put, List.setIfInBounds_toArray, List.set_cons_zero, List.set_cons_succ, Go.Proofs.YtnfbficpodnglaaDoorW.PrintLast.i64_w, Go.Proofs.YtnfbficpodnglaaDoorW.PrintLast.i32_w]
    rfl
  refine seq_run ?_
  refine do_val (v := ?_) (a' := ?_) (w1 := ?_) rfl rfl (by rfl) ?_ ?_ ?_
  rotate_left 3
  · go_simp
    constructor <;> rfl
  · simp only [Act.put, List.setIfInBounds_toArray, List.set_cons_zero, List.set_cons_succ, Go.Proofs.YtnfbficpodnglaaDoorW.PrintLast.i64_w, Go.Proofs.YtnfbficpodnglaaDoorW.PrintLast.i32_w]
    rfl
  refine ⟨fun _ => below_alloc (Below.refl _ _) _, ?_⟩
  refine seq_take (v := ?_) (a' := ?_) rfl rfl (by rfl) (fun w' hw' => ?_) ?_ ?_
  rotate_left 2
  · go_simp
    with_reducible rfl
  · simp only [Act.put, List.setIfInBounds_toArray, List.set_cons_zero, List.set_cons_succ, Go.Proofs.YtnfbficpodnglaaDoorW.PrintLast.i64_w, Go.Proofs.YtnfbficpodnglaaDoorW.PrintLast.i32_w]
    rfl
  refine seq_end ?_
  go_wp2
  go_ret
  refine ⟨w1.heap.size, .slice A1 (xs.drop (64 * (xs.length / 64))).length c1, rfl, ?_, ?_, ⟨?_, ?_⟩, ?_⟩
  · exact HB1.out.size
  · simp
  · rw [HHH.out, show (xs.drop (64 * (xs.length / 64))).length = xs.length - 64 * (xs.length / 64) from List.length_drop]
    exact blk_new w1 _
  · exact ((QB.own HO1.out).lower (Nat.le_refl _)).below ((Below.refl _ _).alloc (Nat.le_refl _) _)
  · exact ((Below.drew (Below.refl _ _)).trans HB1.out).alloc HB1.out.size _
end Go.Proofs.YtnfbficpodnglaaDoor
