/- Contract: lz.token. Conditions: its own. -/
import Derived.Test.YtcbcoaafdggniaaLzUn
import Derived.Deep.QuietTactic
import Derived.BigQuiet
namespace Go.Proofs.Ytcbcoaafdggniaa
open Go.RowKit Go.Shelf Go.Proofs.YtcbcoaafdggniaaW.PrintWords Go.Proofs.YtcbcoaafdggniaaW.PrintMore
set_option linter.unusedVariables false
set_option linter.unusedSimpArgs false
theorem add_0 (a : Addr) : a.add 0 = a := by
  obtain ⟨b, o, q⟩ := a
  cases q <;> simp [Addr.add]
theorem results_tmp4 {fn : Func} {t u v x : Tmp} (h : fn.results = #[.tmp t, .tmp u, .tmp v, .tmp x]) (tmps : Array Value) (P : Program) (w : World) :
    (results fn tmps).run P w = .ok (.tuple #[tmps.getD t undef, tmps.getD u undef, tmps.getD v undef, tmps.getD x undef]) w := by
  simp [results, h]
def TokPost (q : List Int) (e : Ending) : Prop := ∃ (s n d : Nat) (ok : Bool), e = .returned (.tuple #[.int .i64 s, .int .i64 n, .int .i64 d, .bool ok]) ∧ (tk q = some (s, n, d) ∧ ok = true ∨ tk q = none ∧ ok = false)
set_option maxRecDepth 20000 in
theorem token_calls (A : Option Addr) (N c : Nat) (q : List Int) (w : World) (h : RdB w A N q) (hb : Bytes q) (hp : 0 < N) (hN : N ≤ 1099511627776) :
    Calls Try.prog 37 #[.slice A N c] w fun e w' => TokPost q e ∧ Below w.heap.size w w' := by
  have hl := h.1
  obtain ⟨ad, ea⟩ : ∃ ad, A = some ad := by obtain ⟨ad, e, _⟩ := Kd.at_int h 0 (by omega) (by omega); exact ⟨ad, e⟩
  subst ea
  have hc0 : w.cell? ad = some (.int .u8 (rd q 0)) := by have := rdB_at h 0 hp; rwa [add_0] at this
  have hx := hb.at_ 0
  obtain ⟨x, hx0⟩ := Int.eq_ofNat_of_zero_le hx.1
  have HX := Aside0.mk h
  clear h
  by_cases h128 : x < 128
  · have h128I : (x : Int) < 128 := by omega
    by_cases hs : x + 2 ≤ N
    · have hsI : (x : Int) + 2 ≤ (N : Int) := by omega
      have HT : Aside0 (tk q = some (x + 2, x + 1, 0)) := ⟨by unfold tk; rw [hx0, if_pos h128I, Int.toNat_natCast, if_pos (by omega)]⟩
      rw [hx0] at hc0 hx
      clear hx0 hl
      go_enter Try.func37, Try.ntmps37
      go_wp2
      refine bodyPost_ret (results_tmp4 rfl _ _ _) rfl ?_
      exact ⟨⟨x + 2, x + 1, 0, true, rfl, .inl ⟨HT.out, rfl⟩⟩, Below.refl _ _⟩
    · have hsI : ¬ (x : Int) + 2 ≤ (N : Int) := by omega
      have HT : Aside0 (tk q = none) := ⟨by unfold tk; rw [hx0, if_pos h128I, Int.toNat_natCast, if_neg (by omega)]⟩
      rw [hx0] at hc0 hx
      clear hx0 hl
      go_enter Try.func37, Try.ntmps37
      go_wp2
      refine bodyPost_ret (results_tmp4 rfl _ _ _) rfl ?_
      exact ⟨⟨x + 2, x + 1, 0, false, rfl, .inr ⟨HT.out, rfl⟩⟩, Below.refl _ _⟩
  · by_cases hs : 3 ≤ N
    · have hsI : ¬ (N : Int) < 3 := by omega
      have h128I : ¬ (x : Int) < 128 := by omega
      have hc1 : w.cell? ⟨ad.block, ad.off + 1, none⟩ = some (.int .u8 (rd q 1)) := rdB_at HX.out 1 (by omega)
      have hc2 : w.cell? ⟨ad.block, ad.off + 2, none⟩ = some (.int .u8 (rd q 2)) := rdB_at HX.out 2 (by omega)
      have hy := hb.at_ 1
      have hz := hb.at_ 2
      obtain ⟨y, hy0⟩ := Int.eq_ofNat_of_zero_le hy.1
      obtain ⟨z, hz0⟩ := Int.eq_ofNat_of_zero_le hz.1
      have HT : Aside0 (tk q = some (3, x - 124, 1 + y + 256 * z)) := ⟨by unfold tk; rw [hx0, if_neg h128I, hy0, hz0, Int.toNat_natCast, Int.toNat_natCast, Int.toNat_natCast, if_neg (by omega)]⟩
      rw [hx0] at hc0 hx
      rw [hy0] at hc1 hy
      rw [hz0] at hc2 hz
      have h1I : (1 : Int) < (N : Int) := by omega
      have h2I : (2 : Int) < (N : Int) := by omega
      clear hx0 hy0 hz0 hl
      go_enter Try.func37, Try.ntmps37
      go_wp2_with fail
      have HC1 := Aside0.mk ((World.cell?_drew w ⟨ad.block, ad.off + 1, none⟩).trans hc1)
      have HC2 := Aside0.mk ((World.cell?_drew w ⟨ad.block, ad.off + 2, none⟩).trans hc2)
      refine seq_start [] (.take 0 (.take 1 (.take 2 (.take 3 (.take 4 (.take 5 (.take 6 (.take 7 (.take 8 (.take 9 (.take 10 (.take 11 (.take 12 (.take 13 (.take 14 (.take 15 (.take 16 (.take 17 .done)))))))))))))))))) (by kernel_rfl) (by kernel_rfl) (fun _ _ d _ _ h => by cases d <;> exact h) ?_
      refine seq_take (v := ?_) (a' := ?_) rfl rfl (by rfl) (fun w' hw' => ?_) ?_ ?_
      rotate_left 2
      · go_simp
        with_reducible rfl
      · simp only [Act.put, List.setIfInBounds_toArray, List.set_cons_zero, List.set_cons_succ, Go.Proofs.YtcbcoaafdggniaaW.PrintLast.i64_w, Go.Proofs.YtcbcoaafdggniaaW.PrintLast.i32_w]
        rfl
      refine seq_take (v := ?_) (a' := ?_) rfl rfl (by rfl) (fun w' hw' => ?_) ?_ ?_
      rotate_left 2
      · go_simp
        with_reducible rfl
      · simp only [Act.put, List.setIfInBounds_toArray, List.set_cons_zero, List.set_cons_succ, Go.Proofs.YtcbcoaafdggniaaW.PrintLast.i64_w, Go.Proofs.YtcbcoaafdggniaaW.PrintLast.i32_w]
        rfl
      refine seq_take (v := ?_) (a' := ?_) rfl rfl (by rfl) (fun w' hw' => ?_) ?_ ?_
      rotate_left 2
      · go_simp
        with_reducible rfl
      · simp only [Act.put, List.setIfInBounds_toArray, List.set_cons_zero, List.set_cons_succ, Go.Proofs.YtcbcoaafdggniaaW.PrintLast.i64_w, Go.Proofs.YtcbcoaafdggniaaW.PrintLast.i32_w]
        rfl
      refine seq_take (v := ?_) (a' := ?_) rfl rfl (by rfl) (fun w' hw' => ?_) ?_ ?_
      rotate_left 2
      · go_simp
        with_reducible rfl
      · simp only [Act.put, List.setIfInBounds_toArray, List.set_cons_zero, List.set_cons_succ, Go.Proofs.YtcbcoaafdggniaaW.PrintLast.i64_w, Go.Proofs.YtcbcoaafdggniaaW.PrintLast.i32_w]
        rfl
      refine seq_take (v := ?_) (a' := ?_) rfl rfl (by rfl) (fun w' hw' => ?_) ?_ ?_
      rotate_left 2
      · go_simp
        with_reducible rfl
      · simp only [Act.put, List.setIfInBounds_toArray, List.set_cons_zero, List.set_cons_succ, Go.Proofs.YtcbcoaafdggniaaW.PrintLast.i64_w, Go.Proofs.YtcbcoaafdggniaaW.PrintLast.i32_w]
        rfl
      refine seq_take (v := ?_) (a' := ?_) rfl rfl (by rfl) (fun w' hw' => ?_) ?_ ?_
      rotate_left 2
      · have hq := pw_cell_below hw' HC1.out; go_simp
        with_reducible rfl
      · simp only [Act.put, List.setIfInBounds_toArray, List.set_cons_zero, List.set_cons_succ, Go.Proofs.YtcbcoaafdggniaaW.PrintLast.i64_w, Go.Proofs.YtcbcoaafdggniaaW.PrintLast.i32_w]
        rfl
      refine seq_take (v := ?_) (a' := ?_) rfl rfl (by rfl) (fun w' hw' => ?_) ?_ ?_
      rotate_left 2
      · go_simp
        with_reducible rfl
      · simp only [Act.put, List.setIfInBounds_toArray, List.set_cons_zero, List.set_cons_succ, Go.Proofs.YtcbcoaafdggniaaW.PrintLast.i64_w, Go.Proofs.YtcbcoaafdggniaaW.PrintLast.i32_w]
        rfl
      refine seq_take (v := ?_) (a' := ?_) rfl rfl (by rfl) (fun w' hw' => ?_) ?_ ?_
      rotate_left 2
      · go_simp
        with_reducible rfl
      · simp only [Act.put, List.setIfInBounds_toArray, List.set_cons_zero, List.set_cons_succ, Go.Proofs.YtcbcoaafdggniaaW.PrintLast.i64_w, Go.Proofs.YtcbcoaafdggniaaW.PrintLast.i32_w]
        rfl
      refine seq_take (v := ?_) (a' := ?_) rfl rfl (by rfl) (fun w' hw' => ?_) ?_ ?_
      rotate_left 2
      · go_simp
        with_reducible rfl
      · simp only [Act.put, List.setIfInBounds_toArray, List.set_cons_zero, List.set_cons_succ, Go.Proofs.YtcbcoaafdggniaaW.PrintLast.i64_w, Go.Proofs.YtcbcoaafdggniaaW.PrintLast.i32_w]
        rfl
      refine seq_take (v := ?_) (a' := ?_) rfl rfl (by rfl) (fun w' hw' => ?_) ?_ ?_
      rotate_left 2
      · go_simp
        with_reducible rfl
      · simp only [Act.put, List.setIfInBounds_toArray, List.set_cons_zero, List.set_cons_succ, Go.Proofs.YtcbcoaafdggniaaW.PrintLast.i64_w, Go.Proofs.YtcbcoaafdggniaaW.PrintLast.i32_w]
        rfl
      refine seq_take (v := ?_) (a' := ?_) rfl rfl (by rfl) (fun w' hw' => ?_) ?_ ?_
      rotate_left 2
      · have hq := pw_cell_below hw' HC2.out; go_simp
        with_reducible rfl
      · simp only [Act.put, List.setIfInBounds_toArray, List.set_cons_zero, List.set_cons_succ, Go.Proofs.YtcbcoaafdggniaaW.PrintLast.i64_w, Go.Proofs.YtcbcoaafdggniaaW.PrintLast.i32_w]
        rfl
      refine seq_take (v := ?_) (a' := ?_) rfl rfl (by rfl) (fun w' hw' => ?_) ?_ ?_
      rotate_left 2
      · go_simp
        with_reducible rfl
      · simp only [Act.put, List.setIfInBounds_toArray, List.set_cons_zero, List.set_cons_succ, Go.Proofs.YtcbcoaafdggniaaW.PrintLast.i64_w, Go.Proofs.YtcbcoaafdggniaaW.PrintLast.i32_w]
        rfl
      refine seq_take (v := ?_) (a' := ?_) rfl rfl (by rfl) (fun w' hw' => ?_) ?_ ?_
      rotate_left 2
      · go_simp
        with_reducible rfl
      · simp only [Act.put, List.setIfInBounds_toArray, List.set_cons_zero, List.set_cons_succ, Go.Proofs.YtcbcoaafdggniaaW.PrintLast.i64_w, Go.Proofs.YtcbcoaafdggniaaW.PrintLast.i32_w]
        rfl
      refine seq_take (v := ?_) (a' := ?_) rfl rfl (by rfl) (fun w' hw' => ?_) ?_ ?_
      rotate_left 2
      · go_simp
        with_reducible rfl
      · simp only [Act.put, List.setIfInBounds_toArray, List.set_cons_zero, List.set_cons_succ, Go.Proofs.YtcbcoaafdggniaaW.PrintLast.i64_w, Go.Proofs.YtcbcoaafdggniaaW.PrintLast.i32_w]
        rfl
      refine seq_take (v := ?_) (a' := ?_) rfl rfl (by rfl) (fun w' hw' => ?_) ?_ ?_
      rotate_left 2
      · go_simp
        with_reducible rfl
      · simp only [Act.put, List.setIfInBounds_toArray, List.set_cons_zero, List.set_cons_succ, Go.Proofs.YtcbcoaafdggniaaW.PrintLast.i64_w, Go.Proofs.YtcbcoaafdggniaaW.PrintLast.i32_w]
        rfl
      refine seq_take (v := ?_) (a' := ?_) rfl rfl (by rfl) (fun w' hw' => ?_) ?_ ?_
      rotate_left 2
      · go_simp
        with_reducible rfl
      · simp only [Act.put, List.setIfInBounds_toArray, List.set_cons_zero, List.set_cons_succ, Go.Proofs.YtcbcoaafdggniaaW.PrintLast.i64_w, Go.Proofs.YtcbcoaafdggniaaW.PrintLast.i32_w]
        rfl
      refine seq_take (v := ?_) (a' := ?_) rfl rfl (by rfl) (fun w' hw' => ?_) ?_ ?_
      rotate_left 2
      · go_simp
        with_reducible rfl
      · simp only [Act.put, List.setIfInBounds_toArray, List.set_cons_zero, List.set_cons_succ, Go.Proofs.YtcbcoaafdggniaaW.PrintLast.i64_w, Go.Proofs.YtcbcoaafdggniaaW.PrintLast.i32_w]
        rfl
      refine seq_take (v := ?_) (a' := ?_) rfl rfl (by rfl) (fun w' hw' => ?_) ?_ ?_
      rotate_left 2
      · go_simp
        with_reducible rfl
      · simp only [Act.put, List.setIfInBounds_toArray, List.set_cons_zero, List.set_cons_succ, Go.Proofs.YtcbcoaafdggniaaW.PrintLast.i64_w, Go.Proofs.YtcbcoaafdggniaaW.PrintLast.i32_w]
        rfl
      refine seq_end ?_
      go_wp2
      refine bodyPost_ret (results_tmp4 rfl _ _ _) rfl ?_
      exact ⟨⟨3, x - 124, 1 + y + 256 * z, true, (by
        show Ending.returned (.tuple #[.int .i64 3, .int .i64 (wrap64 (wrap64 ((x : Int) - 128) + 4)), .int .i64 (wrap64 (wrap64 (1 + wrap64 (y : Int)) + wrap64 (wrap64 (z : Int) * 256))), .bool true]) = _
        rw [show wrap64 (wrap64 ((x : Int) - 128) + 4) = ((x - 124 : Nat) : Int) by unfold wrap64; omega, show wrap64 (wrap64 (1 + wrap64 (y : Int)) + wrap64 (wrap64 (z : Int) * 256)) = ((1 + y + 256 * z : Nat) : Int) by unfold wrap64; omega]
        rfl), .inl ⟨HT.out, rfl⟩⟩, Below.drew (Below.refl _ _)⟩
    · have hsI : (N : Int) < 3 := by omega
      have h128I : ¬ (x : Int) < 128 := by omega
      have HT : Aside0 (tk q = none) := ⟨by unfold tk; rw [hx0, if_neg h128I, if_pos (by omega)]⟩
      rw [hx0] at hc0 hx
      clear hx0 hl
      go_enter Try.func37, Try.ntmps37
      go_wp2
      refine bodyPost_ret (results_tmp4 rfl _ _ _) rfl ?_
      exact ⟨⟨0, 0, 0, false, rfl, .inr ⟨HT.out, rfl⟩⟩, Below.refl _ _⟩
end Go.Proofs.Ytcbcoaafdggniaa
