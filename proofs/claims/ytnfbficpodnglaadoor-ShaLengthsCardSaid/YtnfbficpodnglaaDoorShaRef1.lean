/- Contracts: lighterageref02.turn, .word, .roots. Conditions: each contract's own. -/
import Derived.Test.YtnfbficpodnglaaDoorShaPure
import Derived.Test.YtnfbficpodnglaaDoorBag
namespace Go.Proofs.YtnfbficpodnglaaDoor
open Go.RowKit Go.Proofs.YtnfbficpodnglaaDoorW.PrintWords Go.Proofs.YtnfbficpodnglaaDoorW.PrintMore
set_option linter.unusedVariables false
set_option linter.unusedSimpArgs false
theorem rot_step (x : Int) (j : Nat) (hj : j < 25) (h0 : 0 ≤ x) (h : x < 4294967296) : (rot x j / 2 + rot x j % 2 * 2147483648) = rot x (j + 1) := by
  have := rotN_step x.toNat j hj (by omega)
  unfold rot
  rw [← this]
  omega
theorem rot_zero (x : Int) (h0 : 0 ≤ x) : rot x 0 = x := by
  unfold rot rotN
  simp only [Nat.pow_zero, Nat.div_one, Nat.mod_one, Nat.zero_mul, Nat.add_zero]
  omega
theorem turn_calls (x : Int) (n : Nat) (w : World) (h0 : 0 ≤ x) (h1 : x < 4294967296) (hn : n ≤ 25) :
    Calls Tryd.prog 26 #[.int .u32 x, .int .i64 n] w fun e w' => e = .returned (.int .u32 (rot x n)) ∧ w = w' := by
  go_enter Tryd.func26, Tryd.ntmps26
  go_wp2
  go_loopw [0, 5] (fun y i wr => ∃ j : Nat, j ≤ n ∧ i = .int .i64 j ∧ y = .int .u32 (rot x j) ∧ w = wr) (fun _ i _ => n - (intOf i).toNat)
  case atStart => exact ⟨0, by omega, rfl, by rw [rot_zero x h0], rfl⟩
  case round =>
    obtain ⟨j, hj, rfl, rfl, rfl⟩ := hrel
    by_cases hlt : j < n
    · have hs := rot_step x j (by omega) h0 h1
      obtain ⟨r0, r1⟩ := rot_range (k := j) (by omega) h0 h1
      obtain ⟨q0, q1⟩ := rot_range (k := j + 1) (by omega) h0 h1
      have HS := Aside0.mk hs
      clear hs
      generalize rot x j = y at *
      have e1 : IntKind.u32.wrap (y % 2 * 2147483648) = y % 2 * 2147483648 := by rw [IntKind.wrap_u32]; omega
      have e2 : IntKind.u32.wrap (y / 2 + y % 2 * 2147483648) = rot x (j + 1) := by rw [HS.out, IntKind.wrap_u32]; omega
      go_wp2
      go_roundw
      case rel => exact ⟨j + 1, by omega, by go_num, rfl, trivial⟩
      case measure => simp [intOf]; omega
    · obtain rfl : j = n := by omega
      go_wp2
      go_ret
      exact ⟨rfl, rfl⟩
theorem rdB_pl {w : World} {g o n : Nat} {xs : List Int} (h : RdB w (some ⟨g, o, none⟩) n xs) (i : Nat) (hi : i < n) : w.cell? ⟨g, o + i, none⟩ = some (.int .u8 (rd xs i)) := by
  have := rdB_at h i hi
  rwa [show (Addr.add ⟨g, o, none⟩ i) = ⟨g, o + i, none⟩ from by unfold Addr.add; split <;> simp_all] at this
theorem rdW_pl {w : World} {g o n : Nat} {xs : List Int} (h : RdW w (some ⟨g, o, none⟩) n xs) (i : Nat) (hi : i < n) : w.cell? ⟨g, o + i, none⟩ = some (.int .u32 (rd xs i)) := by
  have := rdW_at h i hi
  rwa [show (Addr.add ⟨g, o, none⟩ i) = ⟨g, o + i, none⟩ from by unfold Addr.add; split <;> simp_all] at this
theorem word_calls (g o n c : Nat) (b : List Int) (i : Nat) (w : World) (h : RdB w (some ⟨g, o, none⟩) n b) (hb : Bytes b) (hi : i + 3 < n) :
    Calls Tryd.prog 25 #[.slice (some ⟨g, o, none⟩) n c, .int .i64 i] w fun e w' => e = .returned (.int .u32 (word b i)) ∧ Below w.heap.size w w' := by
  have hmax := h.2.1
  have HX := Aside0.mk (Kd.C_drew h)
  clear h
  have b0 := hb.at_ i
  have b1 := hb.at_ (i + 1)
  have b2 := hb.at_ (i + 2)
  have b3 := hb.at_ (i + 3)
  obtain ⟨i0, i1, i2, i3⟩ : (i : Int) < n ∧ (i : Int) + 1 < n ∧ (i : Int) + 2 < n ∧ (i : Int) + 3 < n := by omega
  have n0 : i < n := by omega
  obtain ⟨t1, t2, t3⟩ : ((i : Int) + 1).toNat = i + 1 ∧ ((i : Int) + 2).toNat = i + 2 ∧ ((i : Int) + 3).toNat = i + 3 := by omega
  obtain ⟨p1, p2, p3⟩ : 0 ≤ (i : Int) + 1 ∧ 0 ≤ (i : Int) + 2 ∧ 0 ≤ (i : Int) + 3 := by omega
  obtain ⟨z1, z2, z3⟩ : IntKind.i64.wrap ((i : Int) + 1) = (i : Int) + 1 ∧ IntKind.i64.wrap ((i : Int) + 2) = (i : Int) + 2 ∧ IntKind.i64.wrap ((i : Int) + 3) = (i : Int) + 3 := by simp only [IntKind.wrap_i64]; omega
  have HW : Aside0 (word b i = rd b i * 16777216 + rd b (i + 1) * 65536 + rd b (i + 2) * 256 + rd b (i + 3)) := ⟨rfl⟩
  have HXS : Aside0 (∀ W, Later w.drew W → W.cell? ⟨g, o + i, none⟩ = some (.int .u8 (rd b i)) ∧ W.cell? ⟨g, o + (i + 1), none⟩ = some (.int .u8 (rd b (i + 1))) ∧ W.cell? ⟨g, o + (i + 2), none⟩ = some (.int .u8 (rd b (i + 2))) ∧ W.cell? ⟨g, o + (i + 3), none⟩ = some (.int .u8 (rd b (i + 3)))) := ⟨fun W hW => by
    have h := Kd.C_below HX.out hW
    exact ⟨rdB_pl h i (by omega), rdB_pl h (i + 1) (by omega), rdB_pl h (i + 2) (by omega), rdB_pl h (i + 3) (by omega)⟩⟩
  rw [HW.out]
  generalize rd b i = x0 at *
  generalize rd b (i + 1) = x1 at *
  generalize rd b (i + 2) = x2 at *
  generalize rd b (i + 3) = x3 at *
  obtain ⟨c0, c1, c2, c3⟩ : IntKind.u32.wrap x0 = x0 ∧ IntKind.u32.wrap x1 = x1 ∧ IntKind.u32.wrap x2 = x2 ∧ IntKind.u32.wrap x3 = x3 := by simp only [IntKind.wrap_u32]; omega
  obtain ⟨d0, d1, d2⟩ : IntKind.u32.wrap (x0 * 16777216) = x0 * 16777216 ∧ IntKind.u32.wrap (x1 * 65536) = x1 * 65536 ∧ IntKind.u32.wrap (x2 * 256) = x2 * 256 := by simp only [IntKind.wrap_u32]; omega
  obtain ⟨s0, s1, s2⟩ : IntKind.u32.wrap (x0 * 16777216 + x1 * 65536) = x0 * 16777216 + x1 * 65536 ∧ IntKind.u32.wrap (x0 * 16777216 + x1 * 65536 + x2 * 256) = x0 * 16777216 + x1 * 65536 + x2 * 256 ∧ IntKind.u32.wrap (x0 * 16777216 + x1 * 65536 + x2 * 256 + x3) = x0 * 16777216 + x1 * 65536 + x2 * 256 + x3 := by simp only [IntKind.wrap_u32]; omega
  go_enter Tryd.func25, Tryd.ntmps25
  go_wp2
  refine seq_start [] (.take 0 (.take 1 (.take 2 (.take 3 (.take 4 (.take 5 (.take 6 (.take 7 (.take 8 (.take 9 (.take 10 (.take 11 (.take 12 (.take 13 (.take 14 (.take 15 (.take 16 (.take 17 (.take 18 (.take 19 (.take 20 (.take 21 (.take 22 (.take 23 (.take 24 (.take 25 (.take 26 (.take 27 (.take 28 (.take 29 .done)))))))))))))))))))))))))))))) (by kernel_rfl) (by kernel_rfl) (fun _ _ d _ _ h => by cases d <;> exact h) ?_
  refine seq_take (v := ?_) (a' := ?_) rfl rfl (by rfl) (fun w' hw' => ?_) ?_ ?_
  rotate_left 2
  · go_simp
    with_reducible rfl
  · simp only [Act.put, List.setIfInBounds_toArray, List.set_cons_zero, List.set_cons_succ, Go.Proofs.YtnfbficpodnglaaDoorW.PrintLast.i64_w, Go.Proofs.YtnfbficpodnglaaDoorW.PrintLast.i32_w]
    rfl
  refine seq_take (v := ?_) (a' := ?_) rfl rfl (by rfl) (fun w' hw' => ?_) ?_ ?_
  rotate_left 2
  · go_simp
    with_reducible rfl
  · simp only [Act.put, List.setIfInBounds_toArray, List.set_cons_zero, List.set_cons_succ, Go.Proofs.YtnfbficpodnglaaDoorW.PrintLast.i64_w, Go.Proofs.YtnfbficpodnglaaDoorW.PrintLast.i32_w]
    rfl
  refine seq_take (v := ?_) (a' := ?_) rfl rfl (by rfl) (fun w' hw' => ?_) ?_ ?_
  rotate_left 2
  · go_simp
    with_reducible rfl
  · simp only [Act.put, List.setIfInBounds_toArray, List.set_cons_zero, List.set_cons_succ, Go.Proofs.YtnfbficpodnglaaDoorW.PrintLast.i64_w, Go.Proofs.YtnfbficpodnglaaDoorW.PrintLast.i32_w]
    rfl
  refine seq_take (v := ?_) (a' := ?_) rfl rfl (by rfl) (fun w' hw' => ?_) ?_ ?_
  rotate_left 2
  · have hx := (HXS.out w' hw').1; go_simp
    with_reducible rfl
  · simp only [Act.put, List.setIfInBounds_toArray, List.set_cons_zero, List.set_cons_succ, Go.Proofs.YtnfbficpodnglaaDoorW.PrintLast.i64_w, Go.Proofs.YtnfbficpodnglaaDoorW.PrintLast.i32_w]
    rfl
  refine seq_take (v := ?_) (a' := ?_) rfl rfl (by rfl) (fun w' hw' => ?_) ?_ ?_
  rotate_left 2
  · go_simp
    with_reducible rfl
  · simp only [Act.put, List.setIfInBounds_toArray, List.set_cons_zero, List.set_cons_succ, Go.Proofs.YtnfbficpodnglaaDoorW.PrintLast.i64_w, Go.Proofs.YtnfbficpodnglaaDoorW.PrintLast.i32_w]
    rfl
  refine seq_take (v := ?_) (a' := ?_) rfl rfl (by rfl) (fun w' hw' => ?_) ?_ ?_
  rotate_left 2
  · go_simp
    with_reducible rfl
  · simp only [Act.put, List.setIfInBounds_toArray, List.set_cons_zero, List.set_cons_succ, Go.Proofs.YtnfbficpodnglaaDoorW.PrintLast.i64_w, Go.Proofs.YtnfbficpodnglaaDoorW.PrintLast.i32_w]
    rfl
  refine seq_take (v := ?_) (a' := ?_) rfl rfl (by rfl) (fun w' hw' => ?_) ?_ ?_
  rotate_left 2
  · go_simp
    with_reducible rfl
  · simp only [Act.put, List.setIfInBounds_toArray, List.set_cons_zero, List.set_cons_succ, Go.Proofs.YtnfbficpodnglaaDoorW.PrintLast.i64_w, Go.Proofs.YtnfbficpodnglaaDoorW.PrintLast.i32_w]
    rfl
  refine seq_take (v := ?_) (a' := ?_) rfl rfl (by rfl) (fun w' hw' => ?_) ?_ ?_
  rotate_left 2
  · go_simp
    with_reducible rfl
  · simp only [Act.put, List.setIfInBounds_toArray, List.set_cons_zero, List.set_cons_succ, Go.Proofs.YtnfbficpodnglaaDoorW.PrintLast.i64_w, Go.Proofs.YtnfbficpodnglaaDoorW.PrintLast.i32_w]
    rfl
  refine seq_take (v := ?_) (a' := ?_) rfl rfl (by rfl) (fun w' hw' => ?_) ?_ ?_
  rotate_left 2
  · go_simp
    with_reducible rfl
  · simp only [Act.put, List.setIfInBounds_toArray, List.set_cons_zero, List.set_cons_succ, Go.Proofs.YtnfbficpodnglaaDoorW.PrintLast.i64_w, Go.Proofs.YtnfbficpodnglaaDoorW.PrintLast.i32_w]
    rfl
  refine seq_take (v := ?_) (a' := ?_) rfl rfl (by rfl) (fun w' hw' => ?_) ?_ ?_
  rotate_left 2
  · go_simp
    with_reducible rfl
  · simp only [Act.put, List.setIfInBounds_toArray, List.set_cons_zero, List.set_cons_succ, Go.Proofs.YtnfbficpodnglaaDoorW.PrintLast.i64_w, Go.Proofs.YtnfbficpodnglaaDoorW.PrintLast.i32_w]
    rfl
  refine seq_take (v := ?_) (a' := ?_) rfl rfl (by rfl) (fun w' hw' => ?_) ?_ ?_
  rotate_left 2
  · have hx := (HXS.out w' hw').2.1; go_simp
    with_reducible rfl
  · simp only [Act.put, List.setIfInBounds_toArray, List.set_cons_zero, List.set_cons_succ, Go.Proofs.YtnfbficpodnglaaDoorW.PrintLast.i64_w, Go.Proofs.YtnfbficpodnglaaDoorW.PrintLast.i32_w]
    rfl
  refine seq_take (v := ?_) (a' := ?_) rfl rfl (by rfl) (fun w' hw' => ?_) ?_ ?_
  rotate_left 2
  · go_simp
    with_reducible rfl
  · simp only [Act.put, List.setIfInBounds_toArray, List.set_cons_zero, List.set_cons_succ, Go.Proofs.YtnfbficpodnglaaDoorW.PrintLast.i64_w, Go.Proofs.YtnfbficpodnglaaDoorW.PrintLast.i32_w]
    rfl
  refine seq_take (v := ?_) (a' := ?_) rfl rfl (by rfl) (fun w' hw' => ?_) ?_ ?_
  rotate_left 2
  · go_simp
    with_reducible rfl
  · simp only [Act.put, List.setIfInBounds_toArray, List.set_cons_zero, List.set_cons_succ, Go.Proofs.YtnfbficpodnglaaDoorW.PrintLast.i64_w, Go.Proofs.YtnfbficpodnglaaDoorW.PrintLast.i32_w]
    rfl
  refine seq_take (v := ?_) (a' := ?_) rfl rfl (by rfl) (fun w' hw' => ?_) ?_ ?_
  rotate_left 2
  · go_simp
    with_reducible rfl
  · simp only [Act.put, List.setIfInBounds_toArray, List.set_cons_zero, List.set_cons_succ, Go.Proofs.YtnfbficpodnglaaDoorW.PrintLast.i64_w, Go.Proofs.YtnfbficpodnglaaDoorW.PrintLast.i32_w]
    rfl
  refine seq_take (v := ?_) (a' := ?_) rfl rfl (by rfl) (fun w' hw' => ?_) ?_ ?_
  rotate_left 2
  · go_simp
    with_reducible rfl
  · simp only [Act.put, List.setIfInBounds_toArray, List.set_cons_zero, List.set_cons_succ, Go.Proofs.YtnfbficpodnglaaDoorW.PrintLast.i64_w, Go.Proofs.YtnfbficpodnglaaDoorW.PrintLast.i32_w]
    rfl
  refine seq_take (v := ?_) (a' := ?_) rfl rfl (by rfl) (fun w' hw' => ?_) ?_ ?_
  rotate_left 2
  · go_simp
    with_reducible rfl
  · simp only [Act.put, List.setIfInBounds_toArray, List.set_cons_zero, List.set_cons_succ, Go.Proofs.YtnfbficpodnglaaDoorW.PrintLast.i64_w, Go.Proofs.YtnfbficpodnglaaDoorW.PrintLast.i32_w]
    rfl
  refine seq_take (v := ?_) (a' := ?_) rfl rfl (by rfl) (fun w' hw' => ?_) ?_ ?_
  rotate_left 2
  · go_simp
    with_reducible rfl
  · simp only [Act.put, List.setIfInBounds_toArray, List.set_cons_zero, List.set_cons_succ, Go.Proofs.YtnfbficpodnglaaDoorW.PrintLast.i64_w, Go.Proofs.YtnfbficpodnglaaDoorW.PrintLast.i32_w]
    rfl
  refine seq_take (v := ?_) (a' := ?_) rfl rfl (by rfl) (fun w' hw' => ?_) ?_ ?_
  rotate_left 2
  · go_simp
    with_reducible rfl
  · simp only [Act.put, List.setIfInBounds_toArray, List.set_cons_zero, List.set_cons_succ, Go.Proofs.YtnfbficpodnglaaDoorW.PrintLast.i64_w, Go.Proofs.YtnfbficpodnglaaDoorW.PrintLast.i32_w]
    rfl
  refine seq_take (v := ?_) (a' := ?_) rfl rfl (by rfl) (fun w' hw' => ?_) ?_ ?_
  rotate_left 2
  · have hx := (HXS.out w' hw').2.2.1; go_simp
    with_reducible rfl
  · simp only [Act.put, List.setIfInBounds_toArray, List.set_cons_zero, List.set_cons_succ, Go.Proofs.YtnfbficpodnglaaDoorW.PrintLast.i64_w, Go.Proofs.YtnfbficpodnglaaDoorW.PrintLast.i32_w]
    rfl
  refine seq_take (v := ?_) (a' := ?_) rfl rfl (by rfl) (fun w' hw' => ?_) ?_ ?_
  rotate_left 2
  · go_simp
    with_reducible rfl
  · simp only [Act.put, List.setIfInBounds_toArray, List.set_cons_zero, List.set_cons_succ, Go.Proofs.YtnfbficpodnglaaDoorW.PrintLast.i64_w, Go.Proofs.YtnfbficpodnglaaDoorW.PrintLast.i32_w]
    rfl
  refine seq_take (v := ?_) (a' := ?_) rfl rfl (by rfl) (fun w' hw' => ?_) ?_ ?_
  rotate_left 2
  · go_simp
    with_reducible rfl
  · simp only [Act.put, List.setIfInBounds_toArray, List.set_cons_zero, List.set_cons_succ, Go.Proofs.YtnfbficpodnglaaDoorW.PrintLast.i64_w, Go.Proofs.YtnfbficpodnglaaDoorW.PrintLast.i32_w]
    rfl
  refine seq_take (v := ?_) (a' := ?_) rfl rfl (by rfl) (fun w' hw' => ?_) ?_ ?_
  rotate_left 2
  · go_simp
    with_reducible rfl
  · simp only [Act.put, List.setIfInBounds_toArray, List.set_cons_zero, List.set_cons_succ, Go.Proofs.YtnfbficpodnglaaDoorW.PrintLast.i64_w, Go.Proofs.YtnfbficpodnglaaDoorW.PrintLast.i32_w]
    rfl
  refine seq_take (v := ?_) (a' := ?_) rfl rfl (by rfl) (fun w' hw' => ?_) ?_ ?_
  rotate_left 2
  · go_simp
    with_reducible rfl
  · simp only [Act.put, List.setIfInBounds_toArray, List.set_cons_zero, List.set_cons_succ, Go.Proofs.YtnfbficpodnglaaDoorW.PrintLast.i64_w, Go.Proofs.YtnfbficpodnglaaDoorW.PrintLast.i32_w]
    rfl
  refine seq_take (v := ?_) (a' := ?_) rfl rfl (by rfl) (fun w' hw' => ?_) ?_ ?_
  rotate_left 2
  · go_simp
    with_reducible rfl
  · simp only [Act.put, List.setIfInBounds_toArray, List.set_cons_zero, List.set_cons_succ, Go.Proofs.YtnfbficpodnglaaDoorW.PrintLast.i64_w, Go.Proofs.YtnfbficpodnglaaDoorW.PrintLast.i32_w]
    rfl
  refine seq_take (v := ?_) (a' := ?_) rfl rfl (by rfl) (fun w' hw' => ?_) ?_ ?_
  rotate_left 2
  · go_simp
    with_reducible rfl
  · simp only [Act.put, List.setIfInBounds_toArray, List.set_cons_zero, List.set_cons_succ, Go.Proofs.YtnfbficpodnglaaDoorW.PrintLast.i64_w, Go.Proofs.YtnfbficpodnglaaDoorW.PrintLast.i32_w]
    rfl
  refine seq_take (v := ?_) (a' := ?_) rfl rfl (by rfl) (fun w' hw' => ?_) ?_ ?_
  rotate_left 2
  · go_simp
    with_reducible rfl
  · simp only [Act.put, List.setIfInBounds_toArray, List.set_cons_zero, List.set_cons_succ, Go.Proofs.YtnfbficpodnglaaDoorW.PrintLast.i64_w, Go.Proofs.YtnfbficpodnglaaDoorW.PrintLast.i32_w]
    rfl
  refine seq_take (v := ?_) (a' := ?_) rfl rfl (by rfl) (fun w' hw' => ?_) ?_ ?_
  rotate_left 2
  · have hx := (HXS.out w' hw').2.2.2; go_simp
    with_reducible rfl
  · simp only [Act.put, List.setIfInBounds_toArray, List.set_cons_zero, List.set_cons_succ, Go.Proofs.YtnfbficpodnglaaDoorW.PrintLast.i64_w, Go.Proofs.YtnfbficpodnglaaDoorW.PrintLast.i32_w]
    rfl
  refine seq_take (v := ?_) (a' := ?_) rfl rfl (by rfl) (fun w' hw' => ?_) ?_ ?_
  rotate_left 2
  · go_simp
    with_reducible rfl
  · simp only [Act.put, List.setIfInBounds_toArray, List.set_cons_zero, List.set_cons_succ, Go.Proofs.YtnfbficpodnglaaDoorW.PrintLast.i64_w, Go.Proofs.YtnfbficpodnglaaDoorW.PrintLast.i32_w]
    rfl
  refine seq_take (v := ?_) (a' := ?_) rfl rfl (by rfl) (fun w' hw' => ?_) ?_ ?_
  rotate_left 2
  · go_simp
    with_reducible rfl
  · simp only [Act.put, List.setIfInBounds_toArray, List.set_cons_zero, List.set_cons_succ, Go.Proofs.YtnfbficpodnglaaDoorW.PrintLast.i64_w, Go.Proofs.YtnfbficpodnglaaDoorW.PrintLast.i32_w]
    rfl
  refine seq_take (v := ?_) (a' := ?_) rfl rfl (by rfl) (fun w' hw' => ?_) ?_ ?_
  rotate_left 2
  · go_simp
    with_reducible rfl
  · simp only [Act.put, List.setIfInBounds_toArray, List.set_cons_zero, List.set_cons_succ, Go.Proofs.YtnfbficpodnglaaDoorW.PrintLast.i64_w, Go.Proofs.YtnfbficpodnglaaDoorW.PrintLast.i32_w]
    rfl
  refine seq_end ?_
  go_wp2
  go_ret
  exact ⟨rfl, Below.drew (Below.refl _ _)⟩
theorem word_at (g o n c : Nat) (b : List Int) (i : Int) (w : World) (h : RdB w (some ⟨g, o, none⟩) n b) (hb : Bytes b) (h0 : 0 ≤ i) (hi : i + 3 < n) :
    Calls Tryd.prog 25 #[.slice (some ⟨g, o, none⟩) n c, .int .i64 i] w fun e w' => e = .returned (.int .u32 (word b i)) ∧ Below w.heap.size w w' := by
  obtain ⟨k, rfl⟩ := Int.eq_ofNat_of_zero_le h0
  exact word_calls g o n c b k w h hb (by omega)
theorem roots_calls (w : World) : Calls Tryd.prog 24 #[] w fun e w' => ∃ g, e = .returned (.slice (some ⟨g, 0, none⟩) 64 64) ∧ RdW w' (some ⟨g, 0, none⟩) 64 Kc ∧ Below w.heap.size w w' := by
  go_enter Tryd.func24, Tryd.ntmps24
  go_wp2
  go_ret
  refine ⟨w.heap.size, rfl, ?_, (Below.refl _ _).alloc (Nat.le_refl _) _⟩
  exact (OwW.parts (own_litW w w.heap.size Kc _ 64 rfl rfl (Nat.le_refl _) (by decide))).2
end Go.Proofs.YtnfbficpodnglaaDoor
