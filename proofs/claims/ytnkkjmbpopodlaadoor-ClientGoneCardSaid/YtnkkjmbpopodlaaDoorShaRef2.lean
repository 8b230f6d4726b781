/- Contract: lighterageref02.block. Conditions: its own. -/
import Derived.Test.YtnkkjmbpopodlaaDoorG3
namespace Go.Proofs.YtnkkjmbpopodlaaDoor
open Go.Proofs.YtnkkjmbpopodlaaDoorW.PrintLast (i64_w i32_w)
open Go.RowKit Go.Proofs.YtnkkjmbpopodlaaDoorW.PrintWords Go.Proofs.YtnkkjmbpopodlaaDoorW.PrintMore
set_option linter.unusedVariables false
set_option linter.unusedSimpArgs false
section
variable {ops : Array Oper} {Q : Exit → Act → World → Prop}
theorem do_appW {w0 W : World} {i : Nat} {o : Oper} {N : Tmp} {a : Act} {K : Act → World → Prop} (base : Nat) (hi : ops[i]? = some o) (hN : o.dst = some N) (hw : Region.wanted o (yielded ops a.tmps) = true) (s x : Operand)
    (ho : o.op = .call { callee := .builtin .append, args := #[s, x], argTypes := #[94, 94] })
    (v : Value) (xs : List Int) (y : Int) (hs : a.eval s = v) (hx : a.eval x = .slice (some ⟨W.heap.size, 0, none⟩) 1 1)
    (HO : OwW W base v xs) (HB : Below base w0 W) (hbase : base ≤ W.heap.size) (hl : xs.length < 35184372088832)
    (h : ∀ v1 w1, OwW w1 base v1 (xs ++ [y]) → Below base w0 w1 → K (a.put (some N) v1) w1) :
    wpOp Tryd.prog ops Q i K a (W.alloc (.cells #[.int .u32 y] 93)) := by
  refine do_ hi hw ?_
  have h2 := Kd.R_append_step (P := Tryd.prog) (ops := ops) (o := o) (a := a) (Q := Q) (Kc := K) (Kd.int .u32) (w0 := w0) (W := W) base hw s x 94 93 (.int .u32 0) 4 ho Tryd.underlying94 infoW rfl (by decide) (by decide) v xs y [.int .u32 y] (fun _ => True) (fun _ => False) hs hx rfl (fun _ h => h.elim) (fun _ _ => trivial) HO HB hbase
    (by omega) (fun v1 w1 h1 h2 _ _ => by rw [hN]; exact h v1 w1 h1 h2)
  rw [if_pos hw] at h2
  exact h2
end
theorem wrap_ad (a b : Int) : IntKind.u32.wrap (a + b) = ad a b := by rw [IntKind.wrap_u32]; rfl
theorem wrap_div (x : Int) (k : Int) (h0 : 0 ≤ x) (h1 : x < 4294967296) (hk : 0 < k) : IntKind.u32.wrap (x.tdiv k) = x / k := by
  rw [IntKind.wrap_u32, Int.tdiv_eq_ediv_of_nonneg h0]
  have h2 : x / k ≤ x := Int.ediv_le_self _ h0
  have h3 : 0 ≤ x / k := Int.ediv_nonneg h0 (by omega)
  omega
set_option maxHeartbeats 3200000 in
set_option maxRecDepth 20000 in
theorem block_calls (gh : Nat) (ch' : Nat) (h : List Int) (g o c : Nat) (b : List Int) (w : World) (hh : RdW w (some ⟨gh, 0, none⟩) 8 h) (hch : 8 ≤ ch') (hhw : Ws h) (hb : RdB w (some ⟨g, o, none⟩) 64 b) (hbb : Bytes b) :
    Calls Tryd.prog 46 #[.slice (some ⟨gh, 0, none⟩) 8 ch', .slice (some ⟨g, o, none⟩) 64 c] w fun e w' => ∃ g1 c1, e = .returned (.slice (some ⟨g1, 0, none⟩) 8 c1) ∧ OwW w' w.heap.size (.slice (some ⟨g1, 0, none⟩) 8 c1) (comp h b) ∧ Below w.heap.size w w' := by
  have HH := Aside0.mk hh
  have HB := Aside0.mk hb
  have HHW := Aside0.mk hhw
  have HBB := Aside0.mk hbb
  clear hh hb hhw hbb
  go_enter Tryd.func46, Tryd.ntmps46
  go_wp2_with (go_at_call 79; refine (roots_calls _).mono ?_; rintro e w1 ⟨gk, rfl, hK, hB1⟩; have HK := Aside0.mk hK; have HB1 := Aside0.mk hB1; clear hK hB1)
  go_loopw [6, 7] (fun v i wr => ∃ j : Nat, j ≤ 16 ∧ i = .int .i64 j ∧ OwW wr w1.heap.size v (sched b j) ∧ Below w1.heap.size w1 wr) (fun _ i _ => 16 - (intOf i).toNat)
  case atStart => exact ⟨0, by omega, rfl, Kd.R_nil _ _ _ _ _, Below.refl _ _⟩
  case round =>
    obtain ⟨j, hj, rfl, hO, hBr⟩ := hrel
    have HO := Aside0.mk hO
    have HBr := Aside0.mk hBr
    clear hO hBr
    by_cases hlt : j < 16
    · have e1 : IntKind.i64.wrap (4 * (j : Int)) = 4 * (j : Int) := by rw [IntKind.wrap_i64]; omega
      have HS : Aside0 (sched b (j + 1) = sched b j ++ [word b (4 * (j : Int))]) := ⟨by rw [sched, wstep, if_pos hlt]⟩
      have HL : Aside0 ((sched b j).length = j) := ⟨sched_len b j⟩
      generalize sched b j = ss at *
      go_wp2_with fail
      refine (word_at g o 64 c b (4 * (j : Int)) wr (Kd.C_below (Kd.C_below HB.out HB1.out) HBr.out) HBB.out (by omega) (by omega)).mono ?_
      rintro e w2 ⟨rfl, hB2⟩
      have HB2 := Aside0.mk hB2
      clear hB2
      go_wp2_with (at_builtin; refine appW (w0 := w1) (W := w2) w1.heap.size rfl (.tmp 24) (.tmp 29) rfl _ ss (word b (4 * (j : Int))) rfl rfl (HO.out.below HB2.out) (below_tr HBr.out HB2.out HBr.out.size) (Nat.le_trans HBr.out.size HB2.out.size) (by rw [HL.out]; omega) ?_; intro v3 w3 hO3 hB3 _ _)
      go_roundw
      case rel => exact ⟨j + 1, by omega, by go_num, by rw [HS.out]; exact hO3, hB3⟩
      case measure => simp [intOf]; omega
    · obtain rfl : j = 16 := by omega
      go_wp2
      go_loopw [6, 8, 9, 10] (fun v i _ _ wr => ∃ j : Nat, 16 ≤ j ∧ j ≤ 64 ∧ i = .int .i64 j ∧ OwW wr w1.heap.size v (sched b j) ∧ Below w1.heap.size w1 wr) (fun _ i _ _ _ => 64 - (intOf i).toNat)
      case atStart => exact ⟨16, by omega, by omega, rfl, HO.out, HBr.out⟩
      case round =>
        clear HO HBr hj hlt
        obtain ⟨j, hj0, hj, rfl, hO, hBr⟩ := hrel
        have HO := Aside0.mk hO
        have HBr := Aside0.mk hBr
        clear hO hBr
        by_cases hlt : j < 64
        · have HL := sched_len b j
          have HWS := Aside0.mk (sched_ws HBB.out j)
          have HS : Aside0 (sched b (j + 1) = sched b j ++ [wnext (sched b j) j]) := ⟨by rw [sched, wstep, if_neg (by omega)]⟩
          generalize sched b j = ss at *
          obtain ⟨g6, c6, hv6, hg6, _⟩ := OwW.place HO.out (by omega)
          have HX : Aside0 (∀ i : Nat, i < j → ∀ W, Below wr.heap.size wr W → W.cell? ⟨g6, i, none⟩ = some (.int .u32 (rd ss i))) := ⟨fun i hi W hW => by
            have := rdW_pl (Kd.C_below (OwW.parts (hv6 ▸ HO.out)).2 hW) i (by omega)
            rwa [Nat.zero_add] at this⟩
          have hv : u6 = .slice (some ⟨g6, 0, none⟩) j c6 := by rw [hv6, HL]
          have HL' := Aside0.mk HL
          clear hv6 HL
          subst u6
          have w15 := HWS.out.at_ ((j : Int) - 15)
          have w2' := HWS.out.at_ ((j : Int) - 2)
          have HX15 : Aside0 (∀ W, Below wr.heap.size wr W → W.cell? ⟨g6, j - 15, none⟩ = some (.int .u32 (rd ss ((j : Int) - 15)))) := ⟨fun W hW => by rw [HX.out (j - 15) (by omega) W hW, show ((j - 15 : Nat) : Int) = (j : Int) - 15 by omega]⟩
          have HX2 : Aside0 (∀ W, Below wr.heap.size wr W → W.cell? ⟨g6, j - 2, none⟩ = some (.int .u32 (rd ss ((j : Int) - 2)))) := ⟨fun W hW => by rw [HX.out (j - 2) (by omega) W hW, show ((j - 2 : Nat) : Int) = (j : Int) - 2 by omega]⟩
          have HX16 : Aside0 (∀ W, Below wr.heap.size wr W → W.cell? ⟨g6, j - 16, none⟩ = some (.int .u32 (rd ss ((j : Int) - 16)))) := ⟨fun W hW => by rw [HX.out (j - 16) (by omega) W hW, show ((j - 16 : Nat) : Int) = (j : Int) - 16 by omega]⟩
          have HX7 : Aside0 (∀ W, Below wr.heap.size wr W → W.cell? ⟨g6, j - 7, none⟩ = some (.int .u32 (rd ss ((j : Int) - 7)))) := ⟨fun W hW => by rw [HX.out (j - 7) (by omega) W hW, show ((j - 7 : Nat) : Int) = (j : Int) - 7 by omega]⟩
          have HWN : Aside0 (wnext ss j = ad (ad (ad (rd ss ((j : Int) - 16)) (sg0 (rd ss ((j : Int) - 15)))) (rd ss ((j : Int) - 7))) (sg1 (rd ss ((j : Int) - 2)))) := ⟨rfl⟩
          rw [HWN.out] at HS
          generalize rd ss ((j : Int) - 15) = x15 at *
          generalize rd ss ((j : Int) - 2) = x2 at *
          generalize rd ss ((j : Int) - 16) = x16 at *
          generalize rd ss ((j : Int) - 7) = x7 at *
          clear HX HWN HWS
          have HT7 : Aside0 (∀ W, Calls Tryd.prog 81 #[.int .u32 x15, .int .i64 7] W fun e w' => e = .returned (.int .u32 (rot x15 7)) ∧ W = w') := ⟨fun W => turn_calls x15 7 W w15.1 w15.2 (by omega)⟩
          have HT18 : Aside0 (∀ W, Calls Tryd.prog 81 #[.int .u32 x15, .int .i64 18] W fun e w' => e = .returned (.int .u32 (rot x15 18)) ∧ W = w') := ⟨fun W => turn_calls x15 18 W w15.1 w15.2 (by omega)⟩
          have HT17 : Aside0 (∀ W, Calls Tryd.prog 81 #[.int .u32 x2, .int .i64 17] W fun e w' => e = .returned (.int .u32 (rot x2 17)) ∧ W = w') := ⟨fun W => turn_calls x2 17 W w2'.1 w2'.2 (by omega)⟩
          have HT19 : Aside0 (∀ W, Calls Tryd.prog 81 #[.int .u32 x2, .int .i64 19] W fun e w' => e = .returned (.int .u32 (rot x2 19)) ∧ W = w') := ⟨fun W => turn_calls x2 19 W w2'.1 w2'.2 (by omega)⟩
          obtain ⟨t15, t2, t16, t7⟩ : ((j : Int) - 15).toNat = j - 15 ∧ ((j : Int) - 2).toNat = j - 2 ∧ ((j : Int) - 16).toNat = j - 16 ∧ ((j : Int) - 7).toNat = j - 7 := by omega
          obtain ⟨q15, q2, q16, q7⟩ : (15 : Int) ≤ (j : Int) ∧ (2 : Int) ≤ (j : Int) ∧ (16 : Int) ≤ (j : Int) ∧ (7 : Int) ≤ (j : Int) := by omega
          obtain ⟨u15, u2, u16, u7⟩ : (j : Int) - 15 < (j : Int) ∧ (j : Int) - 2 < (j : Int) ∧ (j : Int) - 16 < (j : Int) ∧ (j : Int) - 7 < (j : Int) := by omega
          obtain ⟨z15, z2, z16, z7⟩ : IntKind.i64.wrap ((j : Int) - 15) = (j : Int) - 15 ∧ IntKind.i64.wrap ((j : Int) - 2) = (j : Int) - 2 ∧ IntKind.i64.wrap ((j : Int) - 16) = (j : Int) - 16 ∧ IntKind.i64.wrap ((j : Int) - 7) = (j : Int) - 7 := by simp only [IntKind.wrap_i64]; omega
          have D1 : Aside0 (Below wr.heap.size wr wr.drew) := ⟨Below.drew (Below.refl _ _)⟩
          have D2 : Aside0 (Below wr.heap.size wr wr.drew.drew) := ⟨Below.drew D1.out⟩
          have D3 : Aside0 (Below wr.heap.size wr wr.drew.drew.drew) := ⟨Below.drew D2.out⟩
          go_wp2
          refine seq_start [] (.take 0 (.take 1 (.take 2 (.take 3 (.take 4 (.take 5 (.take 6 (.take 7 (.take 8 (.take 9 (.take 10 (.take 11 (.take 12 (.take 13 (.take 14 (.take 15 (.take 16 (.take 17 (.take 18 (.take 19 (.take 20 .done))))))))))))))))))))) (by kernel_rfl) (by kernel_rfl) (fun _ _ d _ _ h => by cases d <;> exact h) ?_
          refine seq_take (v := ?_) (a' := ?_) rfl rfl (by rfl) (fun w' hw' => ?_) ?_ ?_
          rotate_left 2
          · go_simp
            with_reducible rfl
          · simp only [Act.put, List.setIfInBounds_toArray, List.set_cons_zero, List.set_cons_succ, i64_w, i32_w]
            rfl
          refine seq_take (v := ?_) (a' := ?_) rfl rfl (by rfl) (fun w' hw' => ?_) ?_ ?_
          rotate_left 2
          · go_simp
            with_reducible rfl
          · simp only [Act.put, List.setIfInBounds_toArray, List.set_cons_zero, List.set_cons_succ, i64_w, i32_w]
            rfl
          refine seq_take (v := ?_) (a' := ?_) rfl rfl (by rfl) (fun w' hw' => ?_) ?_ ?_
          rotate_left 2
          · go_simp
            with_reducible rfl
          · simp only [Act.put, List.setIfInBounds_toArray, List.set_cons_zero, List.set_cons_succ, i64_w, i32_w]
            rfl
          refine seq_take (v := ?_) (a' := ?_) rfl rfl (by rfl) (fun w' hw' => ?_) ?_ ?_
          rotate_left 2
          · go_simp
            with_reducible rfl
          · simp only [Act.put, List.setIfInBounds_toArray, List.set_cons_zero, List.set_cons_succ, i64_w, i32_w]
            rfl
          refine seq_take (v := ?_) (a' := ?_) rfl rfl (by rfl) (fun w' hw' => ?_) ?_ ?_
          rotate_left 2
          · have hx := HX15.out w' (D1.out.trans hw'); go_simp
            with_reducible rfl
          · simp only [Act.put, List.setIfInBounds_toArray, List.set_cons_zero, List.set_cons_succ, i64_w, i32_w]
            rfl
          refine seq_quiet (v := ?_) (a' := ?_) rfl rfl (by rfl) rfl Tryd.func81 (by kernel_rfl) rfl #[.int .u32 x15, .int .i64 7] (by simp only [List.map_toArray, List.map_cons, List.map_nil]; rfl) (fun w' hw' => ?_) ?_ ?_
          rotate_left 2
          · with_reducible exact HT7.out w'
          · simp only [Act.put, List.setIfInBounds_toArray, List.set_cons_zero, List.set_cons_succ, i64_w, i32_w]
            rfl
          refine seq_take (v := ?_) (a' := ?_) rfl rfl (by rfl) (fun w' hw' => ?_) ?_ ?_
          rotate_left 2
          · go_simp
            with_reducible rfl
          · simp only [Act.put, List.setIfInBounds_toArray, List.set_cons_zero, List.set_cons_succ, i64_w, i32_w]
            rfl
          refine seq_take (v := ?_) (a' := ?_) rfl rfl (by rfl) (fun w' hw' => ?_) ?_ ?_
          rotate_left 2
          · go_simp
            with_reducible rfl
          · simp only [Act.put, List.setIfInBounds_toArray, List.set_cons_zero, List.set_cons_succ, i64_w, i32_w]
            rfl
          refine seq_take (v := ?_) (a' := ?_) rfl rfl (by rfl) (fun w' hw' => ?_) ?_ ?_
          rotate_left 2
          · go_simp
            with_reducible rfl
          · simp only [Act.put, List.setIfInBounds_toArray, List.set_cons_zero, List.set_cons_succ, i64_w, i32_w]
            rfl
          refine seq_take (v := ?_) (a' := ?_) rfl rfl (by rfl) (fun w' hw' => ?_) ?_ ?_
          rotate_left 2
          · go_simp
            with_reducible rfl
          · simp only [Act.put, List.setIfInBounds_toArray, List.set_cons_zero, List.set_cons_succ, i64_w, i32_w]
            rfl
          refine seq_take (v := ?_) (a' := ?_) rfl rfl (by rfl) (fun w' hw' => ?_) ?_ ?_
          rotate_left 2
          · have hx := HX15.out w' (D1.out.trans hw'); go_simp
            with_reducible rfl
          · simp only [Act.put, List.setIfInBounds_toArray, List.set_cons_zero, List.set_cons_succ, i64_w, i32_w]
            rfl
          refine seq_quiet (v := ?_) (a' := ?_) rfl rfl (by rfl) rfl Tryd.func81 (by kernel_rfl) rfl #[.int .u32 x15, .int .i64 18] (by simp only [List.map_toArray, List.map_cons, List.map_nil]; rfl) (fun w' hw' => ?_) ?_ ?_
          rotate_left 2
          · with_reducible exact HT18.out w'
          · simp only [Act.put, List.setIfInBounds_toArray, List.set_cons_zero, List.set_cons_succ, i64_w, i32_w]
            rfl
          refine seq_take (v := ?_) (a' := ?_) rfl rfl (by rfl) (fun w' hw' => ?_) ?_ ?_
          rotate_left 2
          · go_simp
            with_reducible rfl
          · simp only [Act.put, List.setIfInBounds_toArray, List.set_cons_zero, List.set_cons_succ, i64_w, i32_w]
            rfl
          refine seq_take (v := ?_) (a' := ?_) rfl rfl (by rfl) (fun w' hw' => ?_) ?_ ?_
          rotate_left 2
          · go_simp
            with_reducible rfl
          · simp only [Act.put, List.setIfInBounds_toArray, List.set_cons_zero, List.set_cons_succ, i64_w, i32_w]
            rfl
          refine seq_take (v := ?_) (a' := ?_) rfl rfl (by rfl) (fun w' hw' => ?_) ?_ ?_
          rotate_left 2
          · go_simp
            with_reducible rfl
          · simp only [Act.put, List.setIfInBounds_toArray, List.set_cons_zero, List.set_cons_succ, i64_w, i32_w]
            rfl
          refine seq_take (v := ?_) (a' := ?_) rfl rfl (by rfl) (fun w' hw' => ?_) ?_ ?_
          rotate_left 2
          · go_simp
            with_reducible rfl
          · simp only [Act.put, List.setIfInBounds_toArray, List.set_cons_zero, List.set_cons_succ, i64_w, i32_w]
            rfl
          refine seq_take (v := ?_) (a' := ?_) rfl rfl (by rfl) (fun w' hw' => ?_) ?_ ?_
          rotate_left 2
          · go_simp
            with_reducible rfl
          · simp only [Act.put, List.setIfInBounds_toArray, List.set_cons_zero, List.set_cons_succ, i64_w, i32_w]
            rfl
          refine seq_take (v := ?_) (a' := ?_) rfl rfl (by rfl) (fun w' hw' => ?_) ?_ ?_
          rotate_left 2
          · have hx := HX15.out w' (D1.out.trans hw'); go_simp
            with_reducible rfl
          · simp only [Act.put, List.setIfInBounds_toArray, List.set_cons_zero, List.set_cons_succ, i64_w, i32_w]
            rfl
          refine seq_take (v := ?_) (a' := ?_) rfl rfl (by rfl) (fun w' hw' => ?_) ?_ ?_
          rotate_left 2
          · go_simp
            with_reducible rfl
          · simp only [Act.put, List.setIfInBounds_toArray, List.set_cons_zero, List.set_cons_succ, i64_w, i32_w]
            rfl
          refine seq_take (v := ?_) (a' := ?_) rfl rfl (by rfl) (fun w' hw' => ?_) ?_ ?_
          rotate_left 2
          · go_simp
            with_reducible rfl
          · simp only [Act.put, List.setIfInBounds_toArray, List.set_cons_zero, List.set_cons_succ, i64_w, i32_w]
            rfl
          refine seq_take (v := ?_) (a' := ?_) rfl rfl (by rfl) (fun w' hw' => ?_) ?_ ?_
          rotate_left 2
          · go_simp
            with_reducible rfl
          · simp only [Act.put, List.setIfInBounds_toArray, List.set_cons_zero, List.set_cons_succ, i64_w, i32_w]
            rfl
          refine seq_end ?_
          go_wp2
          refine seq_start [] (.take 0 (.take 1 (.take 2 (.take 3 (.take 4 (.take 5 (.take 6 (.take 7 (.take 8 (.take 9 (.take 10 (.take 11 (.take 12 (.take 13 (.take 14 (.take 15 (.take 16 (.take 17 (.take 18 (.take 19 (.take 20 .done))))))))))))))))))))) (by kernel_rfl) (by kernel_rfl) (fun _ _ d _ _ h => by cases d <;> exact h) ?_
          refine seq_take (v := ?_) (a' := ?_) rfl rfl (by rfl) (fun w' hw' => ?_) ?_ ?_
          rotate_left 2
          · go_simp
            with_reducible rfl
          · simp only [Act.put, List.setIfInBounds_toArray, List.set_cons_zero, List.set_cons_succ, i64_w, i32_w]
            rfl
          refine seq_take (v := ?_) (a' := ?_) rfl rfl (by rfl) (fun w' hw' => ?_) ?_ ?_
          rotate_left 2
          · go_simp
            with_reducible rfl
          · simp only [Act.put, List.setIfInBounds_toArray, List.set_cons_zero, List.set_cons_succ, i64_w, i32_w]
            rfl
          refine seq_take (v := ?_) (a' := ?_) rfl rfl (by rfl) (fun w' hw' => ?_) ?_ ?_
          rotate_left 2
          · go_simp
            with_reducible rfl
          · simp only [Act.put, List.setIfInBounds_toArray, List.set_cons_zero, List.set_cons_succ, i64_w, i32_w]
            rfl
          refine seq_take (v := ?_) (a' := ?_) rfl rfl (by rfl) (fun w' hw' => ?_) ?_ ?_
          rotate_left 2
          · go_simp
            with_reducible rfl
          · simp only [Act.put, List.setIfInBounds_toArray, List.set_cons_zero, List.set_cons_succ, i64_w, i32_w]
            rfl
          refine seq_take (v := ?_) (a' := ?_) rfl rfl (by rfl) (fun w' hw' => ?_) ?_ ?_
          rotate_left 2
          · have hx := HX2.out w' (D2.out.trans hw'); go_simp
            with_reducible rfl
          · simp only [Act.put, List.setIfInBounds_toArray, List.set_cons_zero, List.set_cons_succ, i64_w, i32_w]
            rfl
          refine seq_quiet (v := ?_) (a' := ?_) rfl rfl (by rfl) rfl Tryd.func81 (by kernel_rfl) rfl #[.int .u32 x2, .int .i64 17] (by simp only [List.map_toArray, List.map_cons, List.map_nil]; rfl) (fun w' hw' => ?_) ?_ ?_
          rotate_left 2
          · with_reducible exact HT17.out w'
          · simp only [Act.put, List.setIfInBounds_toArray, List.set_cons_zero, List.set_cons_succ, i64_w, i32_w]
            rfl
          refine seq_take (v := ?_) (a' := ?_) rfl rfl (by rfl) (fun w' hw' => ?_) ?_ ?_
          rotate_left 2
          · go_simp
            with_reducible rfl
          · simp only [Act.put, List.setIfInBounds_toArray, List.set_cons_zero, List.set_cons_succ, i64_w, i32_w]
            rfl
          refine seq_take (v := ?_) (a' := ?_) rfl rfl (by rfl) (fun w' hw' => ?_) ?_ ?_
          rotate_left 2
          · go_simp
            with_reducible rfl
          · simp only [Act.put, List.setIfInBounds_toArray, List.set_cons_zero, List.set_cons_succ, i64_w, i32_w]
            rfl
          refine seq_take (v := ?_) (a' := ?_) rfl rfl (by rfl) (fun w' hw' => ?_) ?_ ?_
          rotate_left 2
          · go_simp
            with_reducible rfl
          · simp only [Act.put, List.setIfInBounds_toArray, List.set_cons_zero, List.set_cons_succ, i64_w, i32_w]
            rfl
          refine seq_take (v := ?_) (a' := ?_) rfl rfl (by rfl) (fun w' hw' => ?_) ?_ ?_
          rotate_left 2
          · go_simp
            with_reducible rfl
          · simp only [Act.put, List.setIfInBounds_toArray, List.set_cons_zero, List.set_cons_succ, i64_w, i32_w]
            rfl
          refine seq_take (v := ?_) (a' := ?_) rfl rfl (by rfl) (fun w' hw' => ?_) ?_ ?_
          rotate_left 2
          · have hx := HX2.out w' (D2.out.trans hw'); go_simp
            with_reducible rfl
          · simp only [Act.put, List.setIfInBounds_toArray, List.set_cons_zero, List.set_cons_succ, i64_w, i32_w]
            rfl
          refine seq_quiet (v := ?_) (a' := ?_) rfl rfl (by rfl) rfl Tryd.func81 (by kernel_rfl) rfl #[.int .u32 x2, .int .i64 19] (by simp only [List.map_toArray, List.map_cons, List.map_nil]; rfl) (fun w' hw' => ?_) ?_ ?_
          rotate_left 2
          · with_reducible exact HT19.out w'
          · simp only [Act.put, List.setIfInBounds_toArray, List.set_cons_zero, List.set_cons_succ, i64_w, i32_w]
            rfl
          refine seq_take (v := ?_) (a' := ?_) rfl rfl (by rfl) (fun w' hw' => ?_) ?_ ?_
          rotate_left 2
          · go_simp
            with_reducible rfl
          · simp only [Act.put, List.setIfInBounds_toArray, List.set_cons_zero, List.set_cons_succ, i64_w, i32_w]
            rfl
          refine seq_take (v := ?_) (a' := ?_) rfl rfl (by rfl) (fun w' hw' => ?_) ?_ ?_
          rotate_left 2
          · go_simp
            with_reducible rfl
          · simp only [Act.put, List.setIfInBounds_toArray, List.set_cons_zero, List.set_cons_succ, i64_w, i32_w]
            rfl
          refine seq_take (v := ?_) (a' := ?_) rfl rfl (by rfl) (fun w' hw' => ?_) ?_ ?_
          rotate_left 2
          · go_simp
            with_reducible rfl
          · simp only [Act.put, List.setIfInBounds_toArray, List.set_cons_zero, List.set_cons_succ, i64_w, i32_w]
            rfl
          refine seq_take (v := ?_) (a' := ?_) rfl rfl (by rfl) (fun w' hw' => ?_) ?_ ?_
          rotate_left 2
          · go_simp
            with_reducible rfl
          · simp only [Act.put, List.setIfInBounds_toArray, List.set_cons_zero, List.set_cons_succ, i64_w, i32_w]
            rfl
          refine seq_take (v := ?_) (a' := ?_) rfl rfl (by rfl) (fun w' hw' => ?_) ?_ ?_
          rotate_left 2
          · go_simp
            with_reducible rfl
          · simp only [Act.put, List.setIfInBounds_toArray, List.set_cons_zero, List.set_cons_succ, i64_w, i32_w]
            rfl
          refine seq_take (v := ?_) (a' := ?_) rfl rfl (by rfl) (fun w' hw' => ?_) ?_ ?_
          rotate_left 2
          · have hx := HX2.out w' (D2.out.trans hw'); go_simp
            with_reducible rfl
          · simp only [Act.put, List.setIfInBounds_toArray, List.set_cons_zero, List.set_cons_succ, i64_w, i32_w]
            rfl
          refine seq_take (v := ?_) (a' := ?_) rfl rfl (by rfl) (fun w' hw' => ?_) ?_ ?_
          rotate_left 2
          · go_simp
            with_reducible rfl
          · simp only [Act.put, List.setIfInBounds_toArray, List.set_cons_zero, List.set_cons_succ, i64_w, i32_w]
            rfl
          refine seq_take (v := ?_) (a' := ?_) rfl rfl (by rfl) (fun w' hw' => ?_) ?_ ?_
          rotate_left 2
          · go_simp
            with_reducible rfl
          · simp only [Act.put, List.setIfInBounds_toArray, List.set_cons_zero, List.set_cons_succ, i64_w, i32_w]
            rfl
          refine seq_take (v := ?_) (a' := ?_) rfl rfl (by rfl) (fun w' hw' => ?_) ?_ ?_
          rotate_left 2
          · go_simp
            with_reducible rfl
          · simp only [Act.put, List.setIfInBounds_toArray, List.set_cons_zero, List.set_cons_succ, i64_w, i32_w]
            rfl
          refine seq_end ?_
          go_wp2
          refine seq_start [17] (.take 0 (.take 1 (.take 2 (.take 3 (.take 4 (.take 5 (.take 6 (.take 7 (.take 8 (.take 9 (.take 10 (.take 11 (.take 12 (.take 13 (.take 14 (.take 15 (.run 16 (.run 17 (.take 18 .done))))))))))))))))))) (by kernel_rfl) (by kernel_rfl) (fun _ _ d _ _ h => by cases d <;> exact h) ?_
          refine seq_take (v := ?_) (a' := ?_) rfl rfl (by rfl) (fun w' hw' => ?_) ?_ ?_
          rotate_left 2
          · go_simp
            with_reducible rfl
          · simp only [Act.put, List.setIfInBounds_toArray, List.set_cons_zero, List.set_cons_succ, i64_w, i32_w]
            rfl
          refine seq_take (v := ?_) (a' := ?_) rfl rfl (by rfl) (fun w' hw' => ?_) ?_ ?_
          rotate_left 2
          · go_simp
            with_reducible rfl
          · simp only [Act.put, List.setIfInBounds_toArray, List.set_cons_zero, List.set_cons_succ, i64_w, i32_w]
            rfl
          refine seq_take (v := ?_) (a' := ?_) rfl rfl (by rfl) (fun w' hw' => ?_) ?_ ?_
          rotate_left 2
          · go_simp
            with_reducible rfl
          · simp only [Act.put, List.setIfInBounds_toArray, List.set_cons_zero, List.set_cons_succ, i64_w, i32_w]
            rfl
          refine seq_take (v := ?_) (a' := ?_) rfl rfl (by rfl) (fun w' hw' => ?_) ?_ ?_
          rotate_left 2
          · go_simp
            with_reducible rfl
          · simp only [Act.put, List.setIfInBounds_toArray, List.set_cons_zero, List.set_cons_succ, i64_w, i32_w]
            rfl
          refine seq_take (v := ?_) (a' := ?_) rfl rfl (by rfl) (fun w' hw' => ?_) ?_ ?_
          rotate_left 2
          · go_simp
            with_reducible rfl
          · simp only [Act.put, List.setIfInBounds_toArray, List.set_cons_zero, List.set_cons_succ, i64_w, i32_w]
            rfl
          refine seq_take (v := ?_) (a' := ?_) rfl rfl (by rfl) (fun w' hw' => ?_) ?_ ?_
          rotate_left 2
          · have hx := HX16.out w' (D3.out.trans hw'); go_simp
            with_reducible rfl
          · simp only [Act.put, List.setIfInBounds_toArray, List.set_cons_zero, List.set_cons_succ, i64_w, i32_w]
            rfl
          refine seq_take (v := ?_) (a' := ?_) rfl rfl (by rfl) (fun w' hw' => ?_) ?_ ?_
          rotate_left 2
          · go_simp
            with_reducible rfl
          · simp only [Act.put, List.setIfInBounds_toArray, List.set_cons_zero, List.set_cons_succ, i64_w, i32_w]
            rfl
          refine seq_take (v := ?_) (a' := ?_) rfl rfl (by rfl) (fun w' hw' => ?_) ?_ ?_
          rotate_left 2
          · go_simp
            with_reducible rfl
          · simp only [Act.put, List.setIfInBounds_toArray, List.set_cons_zero, List.set_cons_succ, i64_w, i32_w]
            rfl
          refine seq_take (v := ?_) (a' := ?_) rfl rfl (by rfl) (fun w' hw' => ?_) ?_ ?_
          rotate_left 2
          · go_simp
            with_reducible rfl
          · simp only [Act.put, List.setIfInBounds_toArray, List.set_cons_zero, List.set_cons_succ, i64_w, i32_w]
            rfl
          refine seq_take (v := ?_) (a' := ?_) rfl rfl (by rfl) (fun w' hw' => ?_) ?_ ?_
          rotate_left 2
          · go_simp
            with_reducible rfl
          · simp only [Act.put, List.setIfInBounds_toArray, List.set_cons_zero, List.set_cons_succ, i64_w, i32_w]
            rfl
          refine seq_take (v := ?_) (a' := ?_) rfl rfl (by rfl) (fun w' hw' => ?_) ?_ ?_
          rotate_left 2
          · go_simp
            with_reducible rfl
          · simp only [Act.put, List.setIfInBounds_toArray, List.set_cons_zero, List.set_cons_succ, i64_w, i32_w]
            rfl
          refine seq_take (v := ?_) (a' := ?_) rfl rfl (by rfl) (fun w' hw' => ?_) ?_ ?_
          rotate_left 2
          · go_simp
            with_reducible rfl
          · simp only [Act.put, List.setIfInBounds_toArray, List.set_cons_zero, List.set_cons_succ, i64_w, i32_w]
            rfl
          refine seq_take (v := ?_) (a' := ?_) rfl rfl (by rfl) (fun w' hw' => ?_) ?_ ?_
          rotate_left 2
          · have hx := HX7.out w' (D3.out.trans hw'); go_simp
            with_reducible rfl
          · simp only [Act.put, List.setIfInBounds_toArray, List.set_cons_zero, List.set_cons_succ, i64_w, i32_w]
            rfl
          refine seq_take (v := ?_) (a' := ?_) rfl rfl (by rfl) (fun w' hw' => ?_) ?_ ?_
          rotate_left 2
          · go_simp
            with_reducible rfl
          · simp only [Act.put, List.setIfInBounds_toArray, List.set_cons_zero, List.set_cons_succ, i64_w, i32_w]
            rfl
          refine seq_take (v := ?_) (a' := ?_) rfl rfl (by rfl) (fun w' hw' => ?_) ?_ ?_
          rotate_left 2
          · go_simp
            with_reducible rfl
          · simp only [Act.put, List.setIfInBounds_toArray, List.set_cons_zero, List.set_cons_succ, i64_w, i32_w]
            rfl
          refine seq_take (v := ?_) (a' := ?_) rfl rfl (by rfl) (fun w' hw' => ?_) ?_ ?_
          rotate_left 2
          · go_simp
            with_reducible rfl
          · simp only [Act.put, List.setIfInBounds_toArray, List.set_cons_zero, List.set_cons_succ, i64_w, i32_w]
            rfl
          refine seq_run ?_
          refine do_val (v := ?_) (a' := ?_) (w1 := ?_) rfl rfl (by rfl) ?_ ?_ ?_
          rotate_left 3
          · go_simp
            constructor <;> rfl
          · simp only [Act.put, List.setIfInBounds_toArray, List.set_cons_zero, List.set_cons_succ, i64_w, i32_w]
            rfl
          refine ⟨fun _ => below_alloc (Below.refl _ _) _, ?_⟩
          refine seq_run ?_
          refine do_appW (w0 := w1) (W := wr.drew.drew.drew) w1.heap.size rfl rfl (by rfl) (.tmp 75) (.tmp 91) rfl _ ss _ rfl rfl (HO.out.below D3.out) (below_tr HBr.out D3.out HBr.out.size) (Nat.le_trans HBr.out.size D3.out.size) (by rw [HL'.out]; omega) ?_
          intro v3 w3 hO3 hB3
          refine ⟨fun h => absurd (by simp) h, ?_⟩
          simp only [Act.put, List.setIfInBounds_toArray, List.set_cons_zero, List.set_cons_succ]
          refine seq_take (v := ?_) (a' := ?_) rfl rfl (by rfl) (fun w' hw' => ?_) ?_ ?_
          rotate_left 2
          · go_simp
            with_reducible rfl
          · simp only [Act.put, List.setIfInBounds_toArray, List.set_cons_zero, List.set_cons_succ, i64_w, i32_w]
            rfl
          refine seq_end ?_
          have h8 := wrap_div x15 8 w15.1 w15.2 (by omega)
          have h1024 := wrap_div x2 1024 w2'.1 w2'.2 (by omega)
          simp only [wrap_ad, h8, h1024] at hO3
          clear h8 h1024
          go_wp2
          go_roundw
          case rel => exact ⟨j + 1, by omega, by omega, by go_num, by rw [HS.out]; exact hO3, hB3⟩
          case measure => simp [intOf]; omega
        · obtain rfl : j = 64 := by omega
          have HL := sched_len b 64
          have HWS := Aside0.mk (sched_ws HBB.out 64)
          obtain ⟨ss, HSS⟩ : ∃ ss, Aside0 (ss = sched b 64) := ⟨_, ⟨rfl⟩⟩
          have HC : Aside0 (comp h b = fins h (rounds ss h 64) 8) := ⟨by rw [HSS.out]; rfl⟩
          rw [← HSS.out] at HL HWS HO
          obtain ⟨g6, c6, hv6, hg6, _⟩ := OwW.place HO.out (by omega)
          have hv : u6 = .slice (some ⟨g6, 0, none⟩) 64 c6 := by rw [hv6, HL]
          clear hv6
          subst u6
          have HR6 := Aside0.mk (OwW.parts HO.out).2
          have hhl : h.length = 8 := HH.out.1
          clear hj0 hj hlt
          go_wp2_with (at_builtin; refine appWs (w0 := wr) (W := wr) wr.heap.size rfl (.tmp 93) (.tmp 94) rfl _ [] h (some ⟨gh, 0, none⟩) 8 ch' rfl rfl (Kd.R_nil _ _ _ _ _) (Kd.C_below (Kd.C_below HH.out HB1.out) HBr.out) (Below.refl _ _) (Nat.le_refl _) (by simp) ?_; intro v2 w2 hO2 hB2 _ _)
          rw [List.nil_append] at hO2
          have HB2 := Aside0.mk (below_tr HBr.out hB2 HBr.out.size)
          have HO2 := Aside0.mk (Kd.R_lower hO2 HBr.out.size)
          have HR62 : Aside0 (RdW w2 (some ⟨g6, 0, none⟩) 64 ss) := ⟨Kd.C_below (HL ▸ HR6.out) hB2⟩
          clear hO2 hB2
          go_loopw [11, 12, 13, 14, 15, 16, 17] (fun v i _ _ _ _ _ wr => ∃ j : Nat, j ≤ 64 ∧ i = .int .i64 j ∧ OwW wr w1.heap.size v (rounds ss h j) ∧ Below w2.heap.size w2 wr) (fun _ i _ _ _ _ _ _ => 64 - (intOf i).toNat)
          case atStart => exact ⟨0, by omega, rfl, HO2.out, Below.refl _ _⟩
          case round =>
            clear HO HBr HR6 HO2
            obtain ⟨j, hj, rfl, hO, hBr⟩ := hrel
            have HO := Aside0.mk hO
            have HBr := Aside0.mk hBr
            clear hO hBr
            by_cases hlt : j < 64
            · have HRL := rounds_len (w := ss) hhl j
              have HRW := Aside0.mk (rounds_ws (w := ss) HHW.out j)
              have HN : Aside0 (rounds ss h (j + 1) = rnd (rounds ss h j) (rd Kc j) (rd ss j)) := ⟨rfl⟩
              have HKC : Aside0 (∀ W, Below wr.heap.size wr W → W.cell? ⟨gk, j, none⟩ = some (.int .u32 (rd Kc j))) := ⟨fun W hW => by
                have := rdW_pl (Kd.C_below (Kd.C_below (Kd.C_below HK.out HB2.out) HBr.out) hW) j (by omega)
                rwa [Nat.zero_add] at this⟩
              have HWC : Aside0 (∀ W, Below wr.heap.size wr W → W.cell? ⟨g6, j, none⟩ = some (.int .u32 (rd ss j))) := ⟨fun W hW => by
                have := rdW_pl (Kd.C_below (Kd.C_below HR62.out HBr.out) hW) j (by omega)
                rwa [Nat.zero_add] at this⟩
              generalize rounds ss h j = vv at *
              obtain ⟨gv, cv, hv6, hgv, _⟩ := OwW.place HO.out (by omega)
              have HXV : Aside0 (∀ i : Nat, i < 8 → ∀ W, Below wr.heap.size wr W → W.cell? ⟨gv, i, none⟩ = some (.int .u32 (rd vv i))) := ⟨fun i hi W hW => by
                have := rdW_pl (Kd.C_below (OwW.parts (hv6 ▸ HO.out)).2 hW) i (by omega)
                rwa [Nat.zero_add] at this⟩
              have hv : u11 = .slice (some ⟨gv, 0, none⟩) 8 cv := by rw [hv6, HRL]
              clear hv6 HRL
              subst u11
              have V0 : Aside0 (∀ W, Below wr.heap.size wr W → W.cell? ⟨gv, 0, none⟩ = some (.int .u32 (rd vv 0))) := ⟨fun W hW => HXV.out 0 (by omega) W hW⟩
              have V1 : Aside0 (∀ W, Below wr.heap.size wr W → W.cell? ⟨gv, 1, none⟩ = some (.int .u32 (rd vv 1))) := ⟨fun W hW => HXV.out 1 (by omega) W hW⟩
              have V2 : Aside0 (∀ W, Below wr.heap.size wr W → W.cell? ⟨gv, 2, none⟩ = some (.int .u32 (rd vv 2))) := ⟨fun W hW => HXV.out 2 (by omega) W hW⟩
              have V3 : Aside0 (∀ W, Below wr.heap.size wr W → W.cell? ⟨gv, 3, none⟩ = some (.int .u32 (rd vv 3))) := ⟨fun W hW => HXV.out 3 (by omega) W hW⟩
              have V4 : Aside0 (∀ W, Below wr.heap.size wr W → W.cell? ⟨gv, 4, none⟩ = some (.int .u32 (rd vv 4))) := ⟨fun W hW => HXV.out 4 (by omega) W hW⟩
              have V5 : Aside0 (∀ W, Below wr.heap.size wr W → W.cell? ⟨gv, 5, none⟩ = some (.int .u32 (rd vv 5))) := ⟨fun W hW => HXV.out 5 (by omega) W hW⟩
              have V6 : Aside0 (∀ W, Below wr.heap.size wr W → W.cell? ⟨gv, 6, none⟩ = some (.int .u32 (rd vv 6))) := ⟨fun W hW => HXV.out 6 (by omega) W hW⟩
              have V7 : Aside0 (∀ W, Below wr.heap.size wr W → W.cell? ⟨gv, 7, none⟩ = some (.int .u32 (rd vv 7))) := ⟨fun W hW => HXV.out 7 (by omega) W hW⟩
              have HN2 : Aside0 (rounds ss h (j + 1) = [ad (ad (ad (ad (ad (ad (rd vv 7) (bs1 (rd vv 4))) (ch (rd vv 4) (rd vv 5) (rd vv 6))) (rd Kc j)) (rd ss j)) (bs0 (rd vv 0))) (maj (rd vv 0) (rd vv 1) (rd vv 2)), rd vv 0, rd vv 1, rd vv 2, ad (rd vv 3) (ad (ad (ad (ad (rd vv 7) (bs1 (rd vv 4))) (ch (rd vv 4) (rd vv 5) (rd vv 6))) (rd Kc j)) (rd ss j)), rd vv 4, rd vv 5, rd vv 6]) := ⟨by rw [HN.out, ad_assoc]; rfl⟩
              have W4 := HRW.out.at_ 4
              have W0 := HRW.out.at_ 0
              generalize rd Kc j = kj at *
              generalize rd ss j = wj at *
              generalize rd vv 0 = x0 at *
              generalize rd vv 1 = x1 at *
              generalize rd vv 2 = x2 at *
              generalize rd vv 3 = x3 at *
              generalize rd vv 4 = x4 at *
              generalize rd vv 5 = x5 at *
              generalize rd vv 6 = x6 at *
              generalize rd vv 7 = x7 at *
              clear HN HXV HRW
              have e4 : IntKind.u32.wrap (4294967295 - x4) = 4294967295 - x4 := by rw [IntKind.wrap_u32]; omega
              have hltI : (j : Int) < 64 := by omega
              have HT6 : Aside0 (∀ W, Calls Tryd.prog 81 #[.int .u32 x4, .int .i64 6] W fun e w' => e = .returned (.int .u32 (rot x4 6)) ∧ W = w') := ⟨fun W => turn_calls x4 6 W W4.1 W4.2 (by omega)⟩
              have HT11 : Aside0 (∀ W, Calls Tryd.prog 81 #[.int .u32 x4, .int .i64 11] W fun e w' => e = .returned (.int .u32 (rot x4 11)) ∧ W = w') := ⟨fun W => turn_calls x4 11 W W4.1 W4.2 (by omega)⟩
              have HT25 : Aside0 (∀ W, Calls Tryd.prog 81 #[.int .u32 x4, .int .i64 25] W fun e w' => e = .returned (.int .u32 (rot x4 25)) ∧ W = w') := ⟨fun W => turn_calls x4 25 W W4.1 W4.2 (by omega)⟩
              have HT2 : Aside0 (∀ W, Calls Tryd.prog 81 #[.int .u32 x0, .int .i64 2] W fun e w' => e = .returned (.int .u32 (rot x0 2)) ∧ W = w') := ⟨fun W => turn_calls x0 2 W W0.1 W0.2 (by omega)⟩
              have HT13 : Aside0 (∀ W, Calls Tryd.prog 81 #[.int .u32 x0, .int .i64 13] W fun e w' => e = .returned (.int .u32 (rot x0 13)) ∧ W = w') := ⟨fun W => turn_calls x0 13 W W0.1 W0.2 (by omega)⟩
              have HT22 : Aside0 (∀ W, Calls Tryd.prog 81 #[.int .u32 x0, .int .i64 22] W fun e w' => e = .returned (.int .u32 (rot x0 22)) ∧ W = w') := ⟨fun W => turn_calls x0 22 W W0.1 W0.2 (by omega)⟩
              have D1 : Aside0 (Below wr.heap.size wr wr.drew) := ⟨Below.drew (Below.refl _ _)⟩
              have D2 : Aside0 (Below wr.heap.size wr wr.drew.drew) := ⟨Below.drew D1.out⟩
              have D3 : Aside0 (Below wr.heap.size wr wr.drew.drew.drew) := ⟨Below.drew D2.out⟩
              have D4 : Aside0 (Below wr.heap.size wr wr.drew.drew.drew.drew) := ⟨Below.drew D3.out⟩
              have D5 : Aside0 (Below wr.heap.size wr wr.drew.drew.drew.drew.drew) := ⟨Below.drew D4.out⟩
              have D6 : Aside0 (Below wr.heap.size wr wr.drew.drew.drew.drew.drew.drew) := ⟨Below.drew D5.out⟩
              go_wp2
              refine seq_start [] (.take 0 (.take 1 (.take 2 (.take 3 (.take 4 (.take 5 (.take 6 (.take 7 (.take 8 (.take 9 (.take 10 (.take 11 (.take 12 (.take 13 (.take 14 .done))))))))))))))) (by kernel_rfl) (by kernel_rfl) (fun _ _ d _ _ h => by cases d <;> exact h) ?_
              refine seq_take (v := ?_) (a' := ?_) rfl rfl (by rfl) (fun w' hw' => ?_) ?_ ?_
              rotate_left 2
              · go_simp
                with_reducible rfl
              · simp only [Act.put, List.setIfInBounds_toArray, List.set_cons_zero, List.set_cons_succ, i64_w, i32_w]
                rfl
              refine seq_take (v := ?_) (a' := ?_) rfl rfl (by rfl) (fun w' hw' => ?_) ?_ ?_
              rotate_left 2
              · go_simp
                with_reducible rfl
              · simp only [Act.put, List.setIfInBounds_toArray, List.set_cons_zero, List.set_cons_succ, i64_w, i32_w]
                rfl
              refine seq_take (v := ?_) (a' := ?_) rfl rfl (by rfl) (fun w' hw' => ?_) ?_ ?_
              rotate_left 2
              · have hx := V4.out w' (D1.out.trans hw'); go_simp
                with_reducible rfl
              · simp only [Act.put, List.setIfInBounds_toArray, List.set_cons_zero, List.set_cons_succ, i64_w, i32_w]
                rfl
              refine seq_quiet (v := ?_) (a' := ?_) rfl rfl (by rfl) rfl Tryd.func81 (by kernel_rfl) rfl #[.int .u32 x4, .int .i64 6] (by simp only [List.map_toArray, List.map_cons, List.map_nil]; rfl) (fun w' hw' => ?_) ?_ ?_
              rotate_left 2
              · with_reducible exact HT6.out w'
              · simp only [Act.put, List.setIfInBounds_toArray, List.set_cons_zero, List.set_cons_succ, i64_w, i32_w]
                rfl
              refine seq_take (v := ?_) (a' := ?_) rfl rfl (by rfl) (fun w' hw' => ?_) ?_ ?_
              rotate_left 2
              · go_simp
                with_reducible rfl
              · simp only [Act.put, List.setIfInBounds_toArray, List.set_cons_zero, List.set_cons_succ, i64_w, i32_w]
                rfl
              refine seq_take (v := ?_) (a' := ?_) rfl rfl (by rfl) (fun w' hw' => ?_) ?_ ?_
              rotate_left 2
              · go_simp
                with_reducible rfl
              · simp only [Act.put, List.setIfInBounds_toArray, List.set_cons_zero, List.set_cons_succ, i64_w, i32_w]
                rfl
              refine seq_take (v := ?_) (a' := ?_) rfl rfl (by rfl) (fun w' hw' => ?_) ?_ ?_
              rotate_left 2
              · have hx := V4.out w' (D1.out.trans hw'); go_simp
                with_reducible rfl
              · simp only [Act.put, List.setIfInBounds_toArray, List.set_cons_zero, List.set_cons_succ, i64_w, i32_w]
                rfl
              refine seq_quiet (v := ?_) (a' := ?_) rfl rfl (by rfl) rfl Tryd.func81 (by kernel_rfl) rfl #[.int .u32 x4, .int .i64 11] (by simp only [List.map_toArray, List.map_cons, List.map_nil]; rfl) (fun w' hw' => ?_) ?_ ?_
              rotate_left 2
              · with_reducible exact HT11.out w'
              · simp only [Act.put, List.setIfInBounds_toArray, List.set_cons_zero, List.set_cons_succ, i64_w, i32_w]
                rfl
              refine seq_take (v := ?_) (a' := ?_) rfl rfl (by rfl) (fun w' hw' => ?_) ?_ ?_
              rotate_left 2
              · go_simp
                with_reducible rfl
              · simp only [Act.put, List.setIfInBounds_toArray, List.set_cons_zero, List.set_cons_succ, i64_w, i32_w]
                rfl
              refine seq_take (v := ?_) (a' := ?_) rfl rfl (by rfl) (fun w' hw' => ?_) ?_ ?_
              rotate_left 2
              · go_simp
                with_reducible rfl
              · simp only [Act.put, List.setIfInBounds_toArray, List.set_cons_zero, List.set_cons_succ, i64_w, i32_w]
                rfl
              refine seq_take (v := ?_) (a' := ?_) rfl rfl (by rfl) (fun w' hw' => ?_) ?_ ?_
              rotate_left 2
              · go_simp
                with_reducible rfl
              · simp only [Act.put, List.setIfInBounds_toArray, List.set_cons_zero, List.set_cons_succ, i64_w, i32_w]
                rfl
              refine seq_take (v := ?_) (a' := ?_) rfl rfl (by rfl) (fun w' hw' => ?_) ?_ ?_
              rotate_left 2
              · have hx := V4.out w' (D1.out.trans hw'); go_simp
                with_reducible rfl
              · simp only [Act.put, List.setIfInBounds_toArray, List.set_cons_zero, List.set_cons_succ, i64_w, i32_w]
                rfl
              refine seq_quiet (v := ?_) (a' := ?_) rfl rfl (by rfl) rfl Tryd.func81 (by kernel_rfl) rfl #[.int .u32 x4, .int .i64 25] (by simp only [List.map_toArray, List.map_cons, List.map_nil]; rfl) (fun w' hw' => ?_) ?_ ?_
              rotate_left 2
              · with_reducible exact HT25.out w'
              · simp only [Act.put, List.setIfInBounds_toArray, List.set_cons_zero, List.set_cons_succ, i64_w, i32_w]
                rfl
              refine seq_take (v := ?_) (a' := ?_) rfl rfl (by rfl) (fun w' hw' => ?_) ?_ ?_
              rotate_left 2
              · go_simp
                with_reducible rfl
              · simp only [Act.put, List.setIfInBounds_toArray, List.set_cons_zero, List.set_cons_succ, i64_w, i32_w]
                rfl
              refine seq_take (v := ?_) (a' := ?_) rfl rfl (by rfl) (fun w' hw' => ?_) ?_ ?_
              rotate_left 2
              · go_simp
                with_reducible rfl
              · simp only [Act.put, List.setIfInBounds_toArray, List.set_cons_zero, List.set_cons_succ, i64_w, i32_w]
                rfl
              refine seq_end ?_
              go_wp2
              refine seq_start [] (.take 0 (.take 1 (.take 2 (.take 3 (.take 4 (.take 5 (.take 6 (.take 7 (.take 8 (.take 9 (.take 10 (.take 11 (.take 12 (.take 13 (.take 14 (.take 15 (.take 16 .done))))))))))))))))) (by kernel_rfl) (by kernel_rfl) (fun _ _ d _ _ h => by cases d <;> exact h) ?_
              refine seq_take (v := ?_) (a' := ?_) rfl rfl (by rfl) (fun w' hw' => ?_) ?_ ?_
              rotate_left 2
              · go_simp
                with_reducible rfl
              · simp only [Act.put, List.setIfInBounds_toArray, List.set_cons_zero, List.set_cons_succ, i64_w, i32_w]
                rfl
              refine seq_take (v := ?_) (a' := ?_) rfl rfl (by rfl) (fun w' hw' => ?_) ?_ ?_
              rotate_left 2
              · go_simp
                with_reducible rfl
              · simp only [Act.put, List.setIfInBounds_toArray, List.set_cons_zero, List.set_cons_succ, i64_w, i32_w]
                rfl
              refine seq_take (v := ?_) (a' := ?_) rfl rfl (by rfl) (fun w' hw' => ?_) ?_ ?_
              rotate_left 2
              · have hx := V4.out w' (D2.out.trans hw'); go_simp
                with_reducible rfl
              · simp only [Act.put, List.setIfInBounds_toArray, List.set_cons_zero, List.set_cons_succ, i64_w, i32_w]
                rfl
              refine seq_take (v := ?_) (a' := ?_) rfl rfl (by rfl) (fun w' hw' => ?_) ?_ ?_
              rotate_left 2
              · go_simp
                with_reducible rfl
              · simp only [Act.put, List.setIfInBounds_toArray, List.set_cons_zero, List.set_cons_succ, i64_w, i32_w]
                rfl
              refine seq_take (v := ?_) (a' := ?_) rfl rfl (by rfl) (fun w' hw' => ?_) ?_ ?_
              rotate_left 2
              · go_simp
                with_reducible rfl
              · simp only [Act.put, List.setIfInBounds_toArray, List.set_cons_zero, List.set_cons_succ, i64_w, i32_w]
                rfl
              refine seq_take (v := ?_) (a' := ?_) rfl rfl (by rfl) (fun w' hw' => ?_) ?_ ?_
              rotate_left 2
              · have hx := V5.out w' (D2.out.trans hw'); go_simp
                with_reducible rfl
              · simp only [Act.put, List.setIfInBounds_toArray, List.set_cons_zero, List.set_cons_succ, i64_w, i32_w]
                rfl
              refine seq_take (v := ?_) (a' := ?_) rfl rfl (by rfl) (fun w' hw' => ?_) ?_ ?_
              rotate_left 2
              · go_simp
                with_reducible rfl
              · simp only [Act.put, List.setIfInBounds_toArray, List.set_cons_zero, List.set_cons_succ, i64_w, i32_w]
                rfl
              refine seq_take (v := ?_) (a' := ?_) rfl rfl (by rfl) (fun w' hw' => ?_) ?_ ?_
              rotate_left 2
              · go_simp
                with_reducible rfl
              · simp only [Act.put, List.setIfInBounds_toArray, List.set_cons_zero, List.set_cons_succ, i64_w, i32_w]
                rfl
              refine seq_take (v := ?_) (a' := ?_) rfl rfl (by rfl) (fun w' hw' => ?_) ?_ ?_
              rotate_left 2
              · go_simp
                with_reducible rfl
              · simp only [Act.put, List.setIfInBounds_toArray, List.set_cons_zero, List.set_cons_succ, i64_w, i32_w]
                rfl
              refine seq_take (v := ?_) (a' := ?_) rfl rfl (by rfl) (fun w' hw' => ?_) ?_ ?_
              rotate_left 2
              · have hx := V4.out w' (D2.out.trans hw'); go_simp
                with_reducible rfl
              · simp only [Act.put, List.setIfInBounds_toArray, List.set_cons_zero, List.set_cons_succ, i64_w, i32_w]
                rfl
              refine seq_take (v := ?_) (a' := ?_) rfl rfl (by rfl) (fun w' hw' => ?_) ?_ ?_
              rotate_left 2
              · go_simp
                with_reducible rfl
              · simp only [Act.put, List.setIfInBounds_toArray, List.set_cons_zero, List.set_cons_succ, i64_w, i32_w]
                rfl
              refine seq_take (v := ?_) (a' := ?_) rfl rfl (by rfl) (fun w' hw' => ?_) ?_ ?_
              rotate_left 2
              · go_simp
                with_reducible rfl
              · simp only [Act.put, List.setIfInBounds_toArray, List.set_cons_zero, List.set_cons_succ, i64_w, i32_w]
                rfl
              refine seq_take (v := ?_) (a' := ?_) rfl rfl (by rfl) (fun w' hw' => ?_) ?_ ?_
              rotate_left 2
              · go_simp
                with_reducible rfl
              · simp only [Act.put, List.setIfInBounds_toArray, List.set_cons_zero, List.set_cons_succ, i64_w, i32_w]
                rfl
              refine seq_take (v := ?_) (a' := ?_) rfl rfl (by rfl) (fun w' hw' => ?_) ?_ ?_
              rotate_left 2
              · have hx := V6.out w' (D2.out.trans hw'); go_simp
                with_reducible rfl
              · simp only [Act.put, List.setIfInBounds_toArray, List.set_cons_zero, List.set_cons_succ, i64_w, i32_w]
                rfl
              refine seq_take (v := ?_) (a' := ?_) rfl rfl (by rfl) (fun w' hw' => ?_) ?_ ?_
              rotate_left 2
              · go_simp
                with_reducible rfl
              · simp only [Act.put, List.setIfInBounds_toArray, List.set_cons_zero, List.set_cons_succ, i64_w, i32_w]
                rfl
              refine seq_take (v := ?_) (a' := ?_) rfl rfl (by rfl) (fun w' hw' => ?_) ?_ ?_
              rotate_left 2
              · go_simp
                with_reducible rfl
              · simp only [Act.put, List.setIfInBounds_toArray, List.set_cons_zero, List.set_cons_succ, i64_w, i32_w]
                rfl
              refine seq_take (v := ?_) (a' := ?_) rfl rfl (by rfl) (fun w' hw' => ?_) ?_ ?_
              rotate_left 2
              · go_simp
                with_reducible rfl
              · simp only [Act.put, List.setIfInBounds_toArray, List.set_cons_zero, List.set_cons_succ, i64_w, i32_w]
                rfl
              refine seq_end ?_
              go_wp2
              refine seq_start [] (.take 0 (.take 1 (.take 2 (.take 3 (.take 4 (.take 5 (.take 6 (.take 7 (.take 8 (.take 9 (.take 10 (.take 11 (.take 12 (.take 13 (.take 14 (.take 15 (.take 16 (.take 17 .done)))))))))))))))))) (by kernel_rfl) (by kernel_rfl) (fun _ _ d _ _ h => by cases d <;> exact h) ?_
              refine seq_take (v := ?_) (a' := ?_) rfl rfl (by rfl) (fun w' hw' => ?_) ?_ ?_
              rotate_left 2
              · go_simp
                with_reducible rfl
              · simp only [Act.put, List.setIfInBounds_toArray, List.set_cons_zero, List.set_cons_succ, i64_w, i32_w]
                rfl
              refine seq_take (v := ?_) (a' := ?_) rfl rfl (by rfl) (fun w' hw' => ?_) ?_ ?_
              rotate_left 2
              · go_simp
                with_reducible rfl
              · simp only [Act.put, List.setIfInBounds_toArray, List.set_cons_zero, List.set_cons_succ, i64_w, i32_w]
                rfl
              refine seq_take (v := ?_) (a' := ?_) rfl rfl (by rfl) (fun w' hw' => ?_) ?_ ?_
              rotate_left 2
              · have hx := V7.out w' (D3.out.trans hw'); go_simp
                with_reducible rfl
              · simp only [Act.put, List.setIfInBounds_toArray, List.set_cons_zero, List.set_cons_succ, i64_w, i32_w]
                rfl
              refine seq_take (v := ?_) (a' := ?_) rfl rfl (by rfl) (fun w' hw' => ?_) ?_ ?_
              rotate_left 2
              · go_simp
                with_reducible rfl
              · simp only [Act.put, List.setIfInBounds_toArray, List.set_cons_zero, List.set_cons_succ, i64_w, i32_w]
                rfl
              refine seq_take (v := ?_) (a' := ?_) rfl rfl (by rfl) (fun w' hw' => ?_) ?_ ?_
              rotate_left 2
              · go_simp
                with_reducible rfl
              · simp only [Act.put, List.setIfInBounds_toArray, List.set_cons_zero, List.set_cons_succ, i64_w, i32_w]
                rfl
              refine seq_take (v := ?_) (a' := ?_) rfl rfl (by rfl) (fun w' hw' => ?_) ?_ ?_
              rotate_left 2
              · go_simp
                with_reducible rfl
              · simp only [Act.put, List.setIfInBounds_toArray, List.set_cons_zero, List.set_cons_succ, i64_w, i32_w]
                rfl
              refine seq_take (v := ?_) (a' := ?_) rfl rfl (by rfl) (fun w' hw' => ?_) ?_ ?_
              rotate_left 2
              · go_simp
                with_reducible rfl
              · simp only [Act.put, List.setIfInBounds_toArray, List.set_cons_zero, List.set_cons_succ, i64_w, i32_w]
                rfl
              refine seq_take (v := ?_) (a' := ?_) rfl rfl (by rfl) (fun w' hw' => ?_) ?_ ?_
              rotate_left 2
              · go_simp
                with_reducible rfl
              · simp only [Act.put, List.setIfInBounds_toArray, List.set_cons_zero, List.set_cons_succ, i64_w, i32_w]
                rfl
              refine seq_take (v := ?_) (a' := ?_) rfl rfl (by rfl) (fun w' hw' => ?_) ?_ ?_
              rotate_left 2
              · go_simp
                with_reducible rfl
              · simp only [Act.put, List.setIfInBounds_toArray, List.set_cons_zero, List.set_cons_succ, i64_w, i32_w]
                rfl
              refine seq_take (v := ?_) (a' := ?_) rfl rfl (by rfl) (fun w' hw' => ?_) ?_ ?_
              rotate_left 2
              · go_simp
                with_reducible rfl
              · simp only [Act.put, List.setIfInBounds_toArray, List.set_cons_zero, List.set_cons_succ, i64_w, i32_w]
                rfl
              refine seq_take (v := ?_) (a' := ?_) rfl rfl (by rfl) (fun w' hw' => ?_) ?_ ?_
              rotate_left 2
              · have hx := HKC.out w' (D3.out.trans hw'); go_simp
                with_reducible rfl
              · simp only [Act.put, List.setIfInBounds_toArray, List.set_cons_zero, List.set_cons_succ, i64_w, i32_w]
                rfl
              refine seq_take (v := ?_) (a' := ?_) rfl rfl (by rfl) (fun w' hw' => ?_) ?_ ?_
              rotate_left 2
              · go_simp
                with_reducible rfl
              · simp only [Act.put, List.setIfInBounds_toArray, List.set_cons_zero, List.set_cons_succ, i64_w, i32_w]
                rfl
              refine seq_take (v := ?_) (a' := ?_) rfl rfl (by rfl) (fun w' hw' => ?_) ?_ ?_
              rotate_left 2
              · go_simp
                with_reducible rfl
              · simp only [Act.put, List.setIfInBounds_toArray, List.set_cons_zero, List.set_cons_succ, i64_w, i32_w]
                rfl
              refine seq_take (v := ?_) (a' := ?_) rfl rfl (by rfl) (fun w' hw' => ?_) ?_ ?_
              rotate_left 2
              · go_simp
                with_reducible rfl
              · simp only [Act.put, List.setIfInBounds_toArray, List.set_cons_zero, List.set_cons_succ, i64_w, i32_w]
                rfl
              refine seq_take (v := ?_) (a' := ?_) rfl rfl (by rfl) (fun w' hw' => ?_) ?_ ?_
              rotate_left 2
              · go_simp
                with_reducible rfl
              · simp only [Act.put, List.setIfInBounds_toArray, List.set_cons_zero, List.set_cons_succ, i64_w, i32_w]
                rfl
              refine seq_take (v := ?_) (a' := ?_) rfl rfl (by rfl) (fun w' hw' => ?_) ?_ ?_
              rotate_left 2
              · have hx := HWC.out w' (D3.out.trans hw'); go_simp
                with_reducible rfl
              · simp only [Act.put, List.setIfInBounds_toArray, List.set_cons_zero, List.set_cons_succ, i64_w, i32_w]
                rfl
              refine seq_take (v := ?_) (a' := ?_) rfl rfl (by rfl) (fun w' hw' => ?_) ?_ ?_
              rotate_left 2
              · go_simp
                with_reducible rfl
              · simp only [Act.put, List.setIfInBounds_toArray, List.set_cons_zero, List.set_cons_succ, i64_w, i32_w]
                rfl
              refine seq_take (v := ?_) (a' := ?_) rfl rfl (by rfl) (fun w' hw' => ?_) ?_ ?_
              rotate_left 2
              · go_simp
                with_reducible rfl
              · simp only [Act.put, List.setIfInBounds_toArray, List.set_cons_zero, List.set_cons_succ, i64_w, i32_w]
                rfl
              refine seq_end ?_
              go_wp2
              refine seq_start [] (.take 0 (.take 1 (.take 2 (.take 3 (.take 4 (.take 5 (.take 6 (.take 7 (.take 8 (.take 9 (.take 10 (.take 11 (.take 12 (.take 13 (.take 14 .done))))))))))))))) (by kernel_rfl) (by kernel_rfl) (fun _ _ d _ _ h => by cases d <;> exact h) ?_
              refine seq_take (v := ?_) (a' := ?_) rfl rfl (by rfl) (fun w' hw' => ?_) ?_ ?_
              rotate_left 2
              · go_simp
                with_reducible rfl
              · simp only [Act.put, List.setIfInBounds_toArray, List.set_cons_zero, List.set_cons_succ, i64_w, i32_w]
                rfl
              refine seq_take (v := ?_) (a' := ?_) rfl rfl (by rfl) (fun w' hw' => ?_) ?_ ?_
              rotate_left 2
              · go_simp
                with_reducible rfl
              · simp only [Act.put, List.setIfInBounds_toArray, List.set_cons_zero, List.set_cons_succ, i64_w, i32_w]
                rfl
              refine seq_take (v := ?_) (a' := ?_) rfl rfl (by rfl) (fun w' hw' => ?_) ?_ ?_
              rotate_left 2
              · have hx := V0.out w' (D4.out.trans hw'); go_simp
                with_reducible rfl
              · simp only [Act.put, List.setIfInBounds_toArray, List.set_cons_zero, List.set_cons_succ, i64_w, i32_w]
                rfl
              refine seq_quiet (v := ?_) (a' := ?_) rfl rfl (by rfl) rfl Tryd.func81 (by kernel_rfl) rfl #[.int .u32 x0, .int .i64 2] (by simp only [List.map_toArray, List.map_cons, List.map_nil]; rfl) (fun w' hw' => ?_) ?_ ?_
              rotate_left 2
              · with_reducible exact HT2.out w'
              · simp only [Act.put, List.setIfInBounds_toArray, List.set_cons_zero, List.set_cons_succ, i64_w, i32_w]
                rfl
              refine seq_take (v := ?_) (a' := ?_) rfl rfl (by rfl) (fun w' hw' => ?_) ?_ ?_
              rotate_left 2
              · go_simp
                with_reducible rfl
              · simp only [Act.put, List.setIfInBounds_toArray, List.set_cons_zero, List.set_cons_succ, i64_w, i32_w]
                rfl
              refine seq_take (v := ?_) (a' := ?_) rfl rfl (by rfl) (fun w' hw' => ?_) ?_ ?_
              rotate_left 2
              · go_simp
                with_reducible rfl
              · simp only [Act.put, List.setIfInBounds_toArray, List.set_cons_zero, List.set_cons_succ, i64_w, i32_w]
                rfl
              refine seq_take (v := ?_) (a' := ?_) rfl rfl (by rfl) (fun w' hw' => ?_) ?_ ?_
              rotate_left 2
              · have hx := V0.out w' (D4.out.trans hw'); go_simp
                with_reducible rfl
              · simp only [Act.put, List.setIfInBounds_toArray, List.set_cons_zero, List.set_cons_succ, i64_w, i32_w]
                rfl
              refine seq_quiet (v := ?_) (a' := ?_) rfl rfl (by rfl) rfl Tryd.func81 (by kernel_rfl) rfl #[.int .u32 x0, .int .i64 13] (by simp only [List.map_toArray, List.map_cons, List.map_nil]; rfl) (fun w' hw' => ?_) ?_ ?_
              rotate_left 2
              · with_reducible exact HT13.out w'
              · simp only [Act.put, List.setIfInBounds_toArray, List.set_cons_zero, List.set_cons_succ, i64_w, i32_w]
                rfl
              refine seq_take (v := ?_) (a' := ?_) rfl rfl (by rfl) (fun w' hw' => ?_) ?_ ?_
              rotate_left 2
              · go_simp
                with_reducible rfl
              · simp only [Act.put, List.setIfInBounds_toArray, List.set_cons_zero, List.set_cons_succ, i64_w, i32_w]
                rfl
              refine seq_take (v := ?_) (a' := ?_) rfl rfl (by rfl) (fun w' hw' => ?_) ?_ ?_
              rotate_left 2
              · go_simp
                with_reducible rfl
              · simp only [Act.put, List.setIfInBounds_toArray, List.set_cons_zero, List.set_cons_succ, i64_w, i32_w]
                rfl
              refine seq_take (v := ?_) (a' := ?_) rfl rfl (by rfl) (fun w' hw' => ?_) ?_ ?_
              rotate_left 2
              · go_simp
                with_reducible rfl
              · simp only [Act.put, List.setIfInBounds_toArray, List.set_cons_zero, List.set_cons_succ, i64_w, i32_w]
                rfl
              refine seq_take (v := ?_) (a' := ?_) rfl rfl (by rfl) (fun w' hw' => ?_) ?_ ?_
              rotate_left 2
              · have hx := V0.out w' (D4.out.trans hw'); go_simp
                with_reducible rfl
              · simp only [Act.put, List.setIfInBounds_toArray, List.set_cons_zero, List.set_cons_succ, i64_w, i32_w]
                rfl
              refine seq_quiet (v := ?_) (a' := ?_) rfl rfl (by rfl) rfl Tryd.func81 (by kernel_rfl) rfl #[.int .u32 x0, .int .i64 22] (by simp only [List.map_toArray, List.map_cons, List.map_nil]; rfl) (fun w' hw' => ?_) ?_ ?_
              rotate_left 2
              · with_reducible exact HT22.out w'
              · simp only [Act.put, List.setIfInBounds_toArray, List.set_cons_zero, List.set_cons_succ, i64_w, i32_w]
                rfl
              refine seq_take (v := ?_) (a' := ?_) rfl rfl (by rfl) (fun w' hw' => ?_) ?_ ?_
              rotate_left 2
              · go_simp
                with_reducible rfl
              · simp only [Act.put, List.setIfInBounds_toArray, List.set_cons_zero, List.set_cons_succ, i64_w, i32_w]
                rfl
              refine seq_take (v := ?_) (a' := ?_) rfl rfl (by rfl) (fun w' hw' => ?_) ?_ ?_
              rotate_left 2
              · go_simp
                with_reducible rfl
              · simp only [Act.put, List.setIfInBounds_toArray, List.set_cons_zero, List.set_cons_succ, i64_w, i32_w]
                rfl
              refine seq_end ?_
              go_wp2
              refine seq_start [] (.take 0 (.take 1 (.take 2 (.take 3 (.take 4 (.take 5 (.take 6 (.take 7 (.take 8 (.take 9 (.take 10 (.take 11 (.take 12 (.take 13 (.take 14 (.take 15 (.take 16 (.take 17 (.take 18 (.take 19 (.take 20 (.take 21 (.take 22 (.take 23 .done)))))))))))))))))))))))) (by kernel_rfl) (by kernel_rfl) (fun _ _ d _ _ h => by cases d <;> exact h) ?_
              refine seq_take (v := ?_) (a' := ?_) rfl rfl (by rfl) (fun w' hw' => ?_) ?_ ?_
              rotate_left 2
              · go_simp
                with_reducible rfl
              · simp only [Act.put, List.setIfInBounds_toArray, List.set_cons_zero, List.set_cons_succ, i64_w, i32_w]
                rfl
              refine seq_take (v := ?_) (a' := ?_) rfl rfl (by rfl) (fun w' hw' => ?_) ?_ ?_
              rotate_left 2
              · go_simp
                with_reducible rfl
              · simp only [Act.put, List.setIfInBounds_toArray, List.set_cons_zero, List.set_cons_succ, i64_w, i32_w]
                rfl
              refine seq_take (v := ?_) (a' := ?_) rfl rfl (by rfl) (fun w' hw' => ?_) ?_ ?_
              rotate_left 2
              · have hx := V0.out w' (D5.out.trans hw'); go_simp
                with_reducible rfl
              · simp only [Act.put, List.setIfInBounds_toArray, List.set_cons_zero, List.set_cons_succ, i64_w, i32_w]
                rfl
              refine seq_take (v := ?_) (a' := ?_) rfl rfl (by rfl) (fun w' hw' => ?_) ?_ ?_
              rotate_left 2
              · go_simp
                with_reducible rfl
              · simp only [Act.put, List.setIfInBounds_toArray, List.set_cons_zero, List.set_cons_succ, i64_w, i32_w]
                rfl
              refine seq_take (v := ?_) (a' := ?_) rfl rfl (by rfl) (fun w' hw' => ?_) ?_ ?_
              rotate_left 2
              · go_simp
                with_reducible rfl
              · simp only [Act.put, List.setIfInBounds_toArray, List.set_cons_zero, List.set_cons_succ, i64_w, i32_w]
                rfl
              refine seq_take (v := ?_) (a' := ?_) rfl rfl (by rfl) (fun w' hw' => ?_) ?_ ?_
              rotate_left 2
              · have hx := V1.out w' (D5.out.trans hw'); go_simp
                with_reducible rfl
              · simp only [Act.put, List.setIfInBounds_toArray, List.set_cons_zero, List.set_cons_succ, i64_w, i32_w]
                rfl
              refine seq_take (v := ?_) (a' := ?_) rfl rfl (by rfl) (fun w' hw' => ?_) ?_ ?_
              rotate_left 2
              · go_simp
                with_reducible rfl
              · simp only [Act.put, List.setIfInBounds_toArray, List.set_cons_zero, List.set_cons_succ, i64_w, i32_w]
                rfl
              refine seq_take (v := ?_) (a' := ?_) rfl rfl (by rfl) (fun w' hw' => ?_) ?_ ?_
              rotate_left 2
              · go_simp
                with_reducible rfl
              · simp only [Act.put, List.setIfInBounds_toArray, List.set_cons_zero, List.set_cons_succ, i64_w, i32_w]
                rfl
              refine seq_take (v := ?_) (a' := ?_) rfl rfl (by rfl) (fun w' hw' => ?_) ?_ ?_
              rotate_left 2
              · go_simp
                with_reducible rfl
              · simp only [Act.put, List.setIfInBounds_toArray, List.set_cons_zero, List.set_cons_succ, i64_w, i32_w]
                rfl
              refine seq_take (v := ?_) (a' := ?_) rfl rfl (by rfl) (fun w' hw' => ?_) ?_ ?_
              rotate_left 2
              · have hx := V0.out w' (D5.out.trans hw'); go_simp
                with_reducible rfl
              · simp only [Act.put, List.setIfInBounds_toArray, List.set_cons_zero, List.set_cons_succ, i64_w, i32_w]
                rfl
              refine seq_take (v := ?_) (a' := ?_) rfl rfl (by rfl) (fun w' hw' => ?_) ?_ ?_
              rotate_left 2
              · go_simp
                with_reducible rfl
              · simp only [Act.put, List.setIfInBounds_toArray, List.set_cons_zero, List.set_cons_succ, i64_w, i32_w]
                rfl
              refine seq_take (v := ?_) (a' := ?_) rfl rfl (by rfl) (fun w' hw' => ?_) ?_ ?_
              rotate_left 2
              · go_simp
                with_reducible rfl
              · simp only [Act.put, List.setIfInBounds_toArray, List.set_cons_zero, List.set_cons_succ, i64_w, i32_w]
                rfl
              refine seq_take (v := ?_) (a' := ?_) rfl rfl (by rfl) (fun w' hw' => ?_) ?_ ?_
              rotate_left 2
              · have hx := V2.out w' (D5.out.trans hw'); go_simp
                with_reducible rfl
              · simp only [Act.put, List.setIfInBounds_toArray, List.set_cons_zero, List.set_cons_succ, i64_w, i32_w]
                rfl
              refine seq_take (v := ?_) (a' := ?_) rfl rfl (by rfl) (fun w' hw' => ?_) ?_ ?_
              rotate_left 2
              · go_simp
                with_reducible rfl
              · simp only [Act.put, List.setIfInBounds_toArray, List.set_cons_zero, List.set_cons_succ, i64_w, i32_w]
                rfl
              refine seq_take (v := ?_) (a' := ?_) rfl rfl (by rfl) (fun w' hw' => ?_) ?_ ?_
              rotate_left 2
              · go_simp
                with_reducible rfl
              · simp only [Act.put, List.setIfInBounds_toArray, List.set_cons_zero, List.set_cons_succ, i64_w, i32_w]
                rfl
              refine seq_take (v := ?_) (a' := ?_) rfl rfl (by rfl) (fun w' hw' => ?_) ?_ ?_
              rotate_left 2
              · go_simp
                with_reducible rfl
              · simp only [Act.put, List.setIfInBounds_toArray, List.set_cons_zero, List.set_cons_succ, i64_w, i32_w]
                rfl
              refine seq_take (v := ?_) (a' := ?_) rfl rfl (by rfl) (fun w' hw' => ?_) ?_ ?_
              rotate_left 2
              · go_simp
                with_reducible rfl
              · simp only [Act.put, List.setIfInBounds_toArray, List.set_cons_zero, List.set_cons_succ, i64_w, i32_w]
                rfl
              refine seq_take (v := ?_) (a' := ?_) rfl rfl (by rfl) (fun w' hw' => ?_) ?_ ?_
              rotate_left 2
              · have hx := V1.out w' (D5.out.trans hw'); go_simp
                with_reducible rfl
              · simp only [Act.put, List.setIfInBounds_toArray, List.set_cons_zero, List.set_cons_succ, i64_w, i32_w]
                rfl
              refine seq_take (v := ?_) (a' := ?_) rfl rfl (by rfl) (fun w' hw' => ?_) ?_ ?_
              rotate_left 2
              · go_simp
                with_reducible rfl
              · simp only [Act.put, List.setIfInBounds_toArray, List.set_cons_zero, List.set_cons_succ, i64_w, i32_w]
                rfl
              refine seq_take (v := ?_) (a' := ?_) rfl rfl (by rfl) (fun w' hw' => ?_) ?_ ?_
              rotate_left 2
              · go_simp
                with_reducible rfl
              · simp only [Act.put, List.setIfInBounds_toArray, List.set_cons_zero, List.set_cons_succ, i64_w, i32_w]
                rfl
              refine seq_take (v := ?_) (a' := ?_) rfl rfl (by rfl) (fun w' hw' => ?_) ?_ ?_
              rotate_left 2
              · have hx := V2.out w' (D5.out.trans hw'); go_simp
                with_reducible rfl
              · simp only [Act.put, List.setIfInBounds_toArray, List.set_cons_zero, List.set_cons_succ, i64_w, i32_w]
                rfl
              refine seq_take (v := ?_) (a' := ?_) rfl rfl (by rfl) (fun w' hw' => ?_) ?_ ?_
              rotate_left 2
              · go_simp
                with_reducible rfl
              · simp only [Act.put, List.setIfInBounds_toArray, List.set_cons_zero, List.set_cons_succ, i64_w, i32_w]
                rfl
              refine seq_take (v := ?_) (a' := ?_) rfl rfl (by rfl) (fun w' hw' => ?_) ?_ ?_
              rotate_left 2
              · go_simp
                with_reducible rfl
              · simp only [Act.put, List.setIfInBounds_toArray, List.set_cons_zero, List.set_cons_succ, i64_w, i32_w]
                rfl
              refine seq_take (v := ?_) (a' := ?_) rfl rfl (by rfl) (fun w' hw' => ?_) ?_ ?_
              rotate_left 2
              · go_simp
                with_reducible rfl
              · simp only [Act.put, List.setIfInBounds_toArray, List.set_cons_zero, List.set_cons_succ, i64_w, i32_w]
                rfl
              refine seq_end ?_
              go_wp2
              refine seq_start [] (.take 0 (.take 1 (.take 2 (.take 3 (.take 4 (.take 5 (.take 6 (.take 7 (.take 8 (.take 9 (.take 10 (.take 11 (.take 12 (.take 13 (.take 14 (.take 15 (.take 16 (.take 17 (.take 18 (.take 19 (.take 20 (.take 21 (.take 22 (.take 23 (.take 24 (.take 25 (.take 26 (.take 27 (.run 28 (.take 29 .done)))))))))))))))))))))))))))))) (by kernel_rfl) (by kernel_rfl) (fun _ _ d _ _ h => by cases d <;> exact h) ?_
              refine seq_take (v := ?_) (a' := ?_) rfl rfl (by rfl) (fun w' hw' => ?_) ?_ ?_
              rotate_left 2
              · go_simp
                with_reducible rfl
              · simp only [Act.put, List.setIfInBounds_toArray, List.set_cons_zero, List.set_cons_succ, i64_w, i32_w]
                rfl
              refine seq_take (v := ?_) (a' := ?_) rfl rfl (by rfl) (fun w' hw' => ?_) ?_ ?_
              rotate_left 2
              · go_simp
                with_reducible rfl
              · simp only [Act.put, List.setIfInBounds_toArray, List.set_cons_zero, List.set_cons_succ, i64_w, i32_w]
                rfl
              refine seq_take (v := ?_) (a' := ?_) rfl rfl (by rfl) (fun w' hw' => ?_) ?_ ?_
              rotate_left 2
              · go_simp
                with_reducible rfl
              · simp only [Act.put, List.setIfInBounds_toArray, List.set_cons_zero, List.set_cons_succ, i64_w, i32_w]
                rfl
              refine seq_take (v := ?_) (a' := ?_) rfl rfl (by rfl) (fun w' hw' => ?_) ?_ ?_
              rotate_left 2
              · go_simp
                with_reducible rfl
              · simp only [Act.put, List.setIfInBounds_toArray, List.set_cons_zero, List.set_cons_succ, i64_w, i32_w]
                rfl
              refine seq_take (v := ?_) (a' := ?_) rfl rfl (by rfl) (fun w' hw' => ?_) ?_ ?_
              rotate_left 2
              · go_simp
                with_reducible rfl
              · simp only [Act.put, List.setIfInBounds_toArray, List.set_cons_zero, List.set_cons_succ, i64_w, i32_w]
                rfl
              refine seq_take (v := ?_) (a' := ?_) rfl rfl (by rfl) (fun w' hw' => ?_) ?_ ?_
              rotate_left 2
              · go_simp
                with_reducible rfl
              · simp only [Act.put, List.setIfInBounds_toArray, List.set_cons_zero, List.set_cons_succ, i64_w, i32_w]
                rfl
              refine seq_take (v := ?_) (a' := ?_) rfl rfl (by rfl) (fun w' hw' => ?_) ?_ ?_
              rotate_left 2
              · go_simp
                with_reducible rfl
              · simp only [Act.put, List.setIfInBounds_toArray, List.set_cons_zero, List.set_cons_succ, i64_w, i32_w]
                rfl
              refine seq_take (v := ?_) (a' := ?_) rfl rfl (by rfl) (fun w' hw' => ?_) ?_ ?_
              rotate_left 2
              · have hx := V0.out w' (D6.out.trans hw'); go_simp
                with_reducible rfl
              · simp only [Act.put, List.setIfInBounds_toArray, List.set_cons_zero, List.set_cons_succ, i64_w, i32_w]
                rfl
              refine seq_take (v := ?_) (a' := ?_) rfl rfl (by rfl) (fun w' hw' => ?_) ?_ ?_
              rotate_left 2
              · go_simp
                with_reducible rfl
              · simp only [Act.put, List.setIfInBounds_toArray, List.set_cons_zero, List.set_cons_succ, i64_w, i32_w]
                rfl
              refine seq_take (v := ?_) (a' := ?_) rfl rfl (by rfl) (fun w' hw' => ?_) ?_ ?_
              rotate_left 2
              · go_simp
                with_reducible rfl
              · simp only [Act.put, List.setIfInBounds_toArray, List.set_cons_zero, List.set_cons_succ, i64_w, i32_w]
                rfl
              refine seq_take (v := ?_) (a' := ?_) rfl rfl (by rfl) (fun w' hw' => ?_) ?_ ?_
              rotate_left 2
              · have hx := V1.out w' (D6.out.trans hw'); go_simp
                with_reducible rfl
              · simp only [Act.put, List.setIfInBounds_toArray, List.set_cons_zero, List.set_cons_succ, i64_w, i32_w]
                rfl
              refine seq_take (v := ?_) (a' := ?_) rfl rfl (by rfl) (fun w' hw' => ?_) ?_ ?_
              rotate_left 2
              · go_simp
                with_reducible rfl
              · simp only [Act.put, List.setIfInBounds_toArray, List.set_cons_zero, List.set_cons_succ, i64_w, i32_w]
                rfl
              refine seq_take (v := ?_) (a' := ?_) rfl rfl (by rfl) (fun w' hw' => ?_) ?_ ?_
              rotate_left 2
              · go_simp
                with_reducible rfl
              · simp only [Act.put, List.setIfInBounds_toArray, List.set_cons_zero, List.set_cons_succ, i64_w, i32_w]
                rfl
              refine seq_take (v := ?_) (a' := ?_) rfl rfl (by rfl) (fun w' hw' => ?_) ?_ ?_
              rotate_left 2
              · have hx := V2.out w' (D6.out.trans hw'); go_simp
                with_reducible rfl
              · simp only [Act.put, List.setIfInBounds_toArray, List.set_cons_zero, List.set_cons_succ, i64_w, i32_w]
                rfl
              refine seq_take (v := ?_) (a' := ?_) rfl rfl (by rfl) (fun w' hw' => ?_) ?_ ?_
              rotate_left 2
              · go_simp
                with_reducible rfl
              · simp only [Act.put, List.setIfInBounds_toArray, List.set_cons_zero, List.set_cons_succ, i64_w, i32_w]
                rfl
              refine seq_take (v := ?_) (a' := ?_) rfl rfl (by rfl) (fun w' hw' => ?_) ?_ ?_
              rotate_left 2
              · go_simp
                with_reducible rfl
              · simp only [Act.put, List.setIfInBounds_toArray, List.set_cons_zero, List.set_cons_succ, i64_w, i32_w]
                rfl
              refine seq_take (v := ?_) (a' := ?_) rfl rfl (by rfl) (fun w' hw' => ?_) ?_ ?_
              rotate_left 2
              · have hx := V3.out w' (D6.out.trans hw'); go_simp
                with_reducible rfl
              · simp only [Act.put, List.setIfInBounds_toArray, List.set_cons_zero, List.set_cons_succ, i64_w, i32_w]
                rfl
              refine seq_take (v := ?_) (a' := ?_) rfl rfl (by rfl) (fun w' hw' => ?_) ?_ ?_
              rotate_left 2
              · go_simp
                with_reducible rfl
              · simp only [Act.put, List.setIfInBounds_toArray, List.set_cons_zero, List.set_cons_succ, i64_w, i32_w]
                rfl
              refine seq_take (v := ?_) (a' := ?_) rfl rfl (by rfl) (fun w' hw' => ?_) ?_ ?_
              rotate_left 2
              · go_simp
                with_reducible rfl
              · simp only [Act.put, List.setIfInBounds_toArray, List.set_cons_zero, List.set_cons_succ, i64_w, i32_w]
                rfl
              refine seq_take (v := ?_) (a' := ?_) rfl rfl (by rfl) (fun w' hw' => ?_) ?_ ?_
              rotate_left 2
              · go_simp
                with_reducible rfl
              · simp only [Act.put, List.setIfInBounds_toArray, List.set_cons_zero, List.set_cons_succ, i64_w, i32_w]
                rfl
              refine seq_take (v := ?_) (a' := ?_) rfl rfl (by rfl) (fun w' hw' => ?_) ?_ ?_
              rotate_left 2
              · go_simp
                with_reducible rfl
              · simp only [Act.put, List.setIfInBounds_toArray, List.set_cons_zero, List.set_cons_succ, i64_w, i32_w]
                rfl
              refine seq_take (v := ?_) (a' := ?_) rfl rfl (by rfl) (fun w' hw' => ?_) ?_ ?_
              rotate_left 2
              · have hx := V4.out w' (D6.out.trans hw'); go_simp
                with_reducible rfl
              · simp only [Act.put, List.setIfInBounds_toArray, List.set_cons_zero, List.set_cons_succ, i64_w, i32_w]
                rfl
              refine seq_take (v := ?_) (a' := ?_) rfl rfl (by rfl) (fun w' hw' => ?_) ?_ ?_
              rotate_left 2
              · go_simp
                with_reducible rfl
              · simp only [Act.put, List.setIfInBounds_toArray, List.set_cons_zero, List.set_cons_succ, i64_w, i32_w]
                rfl
              refine seq_take (v := ?_) (a' := ?_) rfl rfl (by rfl) (fun w' hw' => ?_) ?_ ?_
              rotate_left 2
              · go_simp
                with_reducible rfl
              · simp only [Act.put, List.setIfInBounds_toArray, List.set_cons_zero, List.set_cons_succ, i64_w, i32_w]
                rfl
              refine seq_take (v := ?_) (a' := ?_) rfl rfl (by rfl) (fun w' hw' => ?_) ?_ ?_
              rotate_left 2
              · have hx := V5.out w' (D6.out.trans hw'); go_simp
                with_reducible rfl
              · simp only [Act.put, List.setIfInBounds_toArray, List.set_cons_zero, List.set_cons_succ, i64_w, i32_w]
                rfl
              refine seq_take (v := ?_) (a' := ?_) rfl rfl (by rfl) (fun w' hw' => ?_) ?_ ?_
              rotate_left 2
              · go_simp
                with_reducible rfl
              · simp only [Act.put, List.setIfInBounds_toArray, List.set_cons_zero, List.set_cons_succ, i64_w, i32_w]
                rfl
              refine seq_take (v := ?_) (a' := ?_) rfl rfl (by rfl) (fun w' hw' => ?_) ?_ ?_
              rotate_left 2
              · go_simp
                with_reducible rfl
              · simp only [Act.put, List.setIfInBounds_toArray, List.set_cons_zero, List.set_cons_succ, i64_w, i32_w]
                rfl
              refine seq_take (v := ?_) (a' := ?_) rfl rfl (by rfl) (fun w' hw' => ?_) ?_ ?_
              rotate_left 2
              · have hx := V6.out w' (D6.out.trans hw'); go_simp
                with_reducible rfl
              · simp only [Act.put, List.setIfInBounds_toArray, List.set_cons_zero, List.set_cons_succ, i64_w, i32_w]
                rfl
              refine seq_run ?_
              refine do_val (v := ?_) (a' := ?_) (w1 := ?_) rfl rfl (by rfl) ?_ ?_ ?_
              rotate_left 3
              · go_simp
                constructor <;> rfl
              · simp only [Act.put, List.setIfInBounds_toArray, List.set_cons_zero, List.set_cons_succ, i64_w, i32_w]
                rfl
              refine ⟨fun _ => below_alloc (Below.refl _ _) _, ?_⟩
              refine seq_take (v := ?_) (a' := ?_) rfl rfl (by rfl) (fun w' hw' => ?_) ?_ ?_
              rotate_left 2
              · go_simp
                with_reducible rfl
              · simp only [Act.put, List.setIfInBounds_toArray, List.set_cons_zero, List.set_cons_succ, i64_w, i32_w]
                rfl
              refine seq_end ?_
              go_wp2
              go_roundw
              case rel =>
                refine ⟨j + 1, by omega, by go_num, ?_, ?_⟩
                · rw [HN2.out]
                  exact own_litW wr.drew.drew.drew.drew.drew.drew w1.heap.size _ _ 8 rfl rfl (Nat.le_trans HB2.out.size HBr.out.size) (by simp)
                · exact Below.drew (Below.drew (Below.drew (Below.drew (Below.drew (Below.drew (Below.alloc HBr.out HBr.out.size _))))))
              case measure => simp [intOf]; omega
            · obtain rfl : j = 64 := by omega
              have HRL := rounds_len (w := ss) hhl 64
              have HBw := Aside0.mk (below_tr HB2.out HBr.out HB2.out.size)
              generalize rounds ss h 64 = vv at *
              obtain ⟨gv, cv, hv6, hgv, _⟩ := OwW.place HO.out (by omega)
              have hv : u11 = .slice (some ⟨gv, 0, none⟩) 8 cv := by rw [hv6, HRL]
              clear hv6
              subst u11
              have HGV := Aside0.mk hgv
              clear hgv hj hlt HR62 HBr
              go_wp2
              go_loopw [18] (fun i wr => ∃ j : Nat, j ≤ 8 ∧ i = .int .i64 j ∧ OwW wr w1.heap.size (.slice (some ⟨gv, 0, none⟩) 8 cv) (fins h vv j) ∧ Below w1.heap.size w1 wr) (fun i _ => 8 - (intOf i).toNat)
              case atStart => exact ⟨0, by omega, rfl, HO.out, HBw.out⟩
              case round =>
                clear HO HBw
                obtain ⟨j, hj, rfl, hO, hBr⟩ := hrel
                have HO := Aside0.mk hO
                have HBr := Aside0.mk hBr
                clear hO hBr
                have HLn : (fins h vv j).length = 8 := by rw [fins_len, HRL]
                by_cases hlt : j < 8
                · have HO' : Aside0 (OwW wr w1.heap.size (.slice (some ⟨gv, 0, none⟩) (fins h vv j).length cv) (fins h vv j)) := ⟨by rw [HLn]; exact HO.out⟩
                  have HF : Aside0 (fins h vv (j + 1) = (fins h vv j).set j (ad (rd (fins h vv j) j) (rd h j))) := ⟨rfl⟩
                  have HXV : Aside0 (∀ W, Below wr.heap.size wr W → W.cell? ⟨gv, j, none⟩ = some (.int .u32 (rd (fins h vv j) j))) := ⟨fun W hW => by
                    have := rdW_pl (Kd.C_below (OwW.parts HO.out).2 hW) j (by omega)
                    rwa [Nat.zero_add] at this⟩
                  have HXH : Aside0 (∀ W, Below wr.heap.size wr W → W.cell? ⟨gh, j, none⟩ = some (.int .u32 (rd h j))) := ⟨fun W hW => by
                    have := rdW_pl (Kd.C_below (Kd.C_below (Kd.C_below HH.out HB1.out) HBr.out) hW) j (by omega)
                    rwa [Nat.zero_add] at this⟩
                  have HCF := Aside0.mk (OwW.cell HO'.out (j : Int) (by omega) (by omega))
                  have HST : Aside0 (∀ x, OwW (wr.setCell ⟨gv, j, none⟩ (.int .u32 x)) w1.heap.size (.slice (some ⟨gv, 0, none⟩) 8 cv) ((fins h vv j).set j x)) := ⟨fun x => by
                    have := OwW.store HO'.out (j : Int) x
                    rw [Int.toNat_natCast, HLn] at this
                    exact this⟩
                  have hltI : (j : Int) < 8 := by omega
                  generalize rd (fins h vv j) j = xv at *
                  generalize rd h j = xh at *
                  generalize fins h vv j = ff at *
                  clear HO HO' HLn
                  have D1 : Aside0 (Below wr.heap.size wr wr.drew) := ⟨Below.drew (Below.refl _ _)⟩
                  go_wp2
                  refine seq_start [12] (.take 0 (.take 1 (.take 2 (.take 3 (.take 4 (.take 5 (.take 6 (.take 7 (.take 8 (.take 9 (.take 10 (.take 11 (.run 12 .done))))))))))))) (by kernel_rfl) (by kernel_rfl) (fun _ _ d _ _ h => by cases d <;> exact h) ?_
                  refine seq_take (v := ?_) (a' := ?_) rfl rfl (by rfl) (fun w' hw' => ?_) ?_ ?_
                  rotate_left 2
                  · go_simp
                    with_reducible rfl
                  · simp only [Act.put, List.setIfInBounds_toArray, List.set_cons_zero, List.set_cons_succ, i64_w, i32_w]
                    rfl
                  refine seq_take (v := ?_) (a' := ?_) rfl rfl (by rfl) (fun w' hw' => ?_) ?_ ?_
                  rotate_left 2
                  · go_simp
                    with_reducible rfl
                  · simp only [Act.put, List.setIfInBounds_toArray, List.set_cons_zero, List.set_cons_succ, i64_w, i32_w]
                    rfl
                  refine seq_take (v := ?_) (a' := ?_) rfl rfl (by rfl) (fun w' hw' => ?_) ?_ ?_
                  rotate_left 2
                  · go_simp
                    with_reducible rfl
                  · simp only [Act.put, List.setIfInBounds_toArray, List.set_cons_zero, List.set_cons_succ, i64_w, i32_w]
                    rfl
                  refine seq_take (v := ?_) (a' := ?_) rfl rfl (by rfl) (fun w' hw' => ?_) ?_ ?_
                  rotate_left 2
                  · go_simp
                    with_reducible rfl
                  · simp only [Act.put, List.setIfInBounds_toArray, List.set_cons_zero, List.set_cons_succ, i64_w, i32_w]
                    rfl
                  refine seq_take (v := ?_) (a' := ?_) rfl rfl (by rfl) (fun w' hw' => ?_) ?_ ?_
                  rotate_left 2
                  · go_simp
                    with_reducible rfl
                  · simp only [Act.put, List.setIfInBounds_toArray, List.set_cons_zero, List.set_cons_succ, i64_w, i32_w]
                    rfl
                  refine seq_take (v := ?_) (a' := ?_) rfl rfl (by rfl) (fun w' hw' => ?_) ?_ ?_
                  rotate_left 2
                  · have hx := HXV.out w' (D1.out.trans hw'); go_simp
                    with_reducible rfl
                  · simp only [Act.put, List.setIfInBounds_toArray, List.set_cons_zero, List.set_cons_succ, i64_w, i32_w]
                    rfl
                  refine seq_take (v := ?_) (a' := ?_) rfl rfl (by rfl) (fun w' hw' => ?_) ?_ ?_
                  rotate_left 2
                  · go_simp
                    with_reducible rfl
                  · simp only [Act.put, List.setIfInBounds_toArray, List.set_cons_zero, List.set_cons_succ, i64_w, i32_w]
                    rfl
                  refine seq_take (v := ?_) (a' := ?_) rfl rfl (by rfl) (fun w' hw' => ?_) ?_ ?_
                  rotate_left 2
                  · go_simp
                    with_reducible rfl
                  · simp only [Act.put, List.setIfInBounds_toArray, List.set_cons_zero, List.set_cons_succ, i64_w, i32_w]
                    rfl
                  refine seq_take (v := ?_) (a' := ?_) rfl rfl (by rfl) (fun w' hw' => ?_) ?_ ?_
                  rotate_left 2
                  · go_simp
                    with_reducible rfl
                  · simp only [Act.put, List.setIfInBounds_toArray, List.set_cons_zero, List.set_cons_succ, i64_w, i32_w]
                    rfl
                  refine seq_take (v := ?_) (a' := ?_) rfl rfl (by rfl) (fun w' hw' => ?_) ?_ ?_
                  rotate_left 2
                  · have hx := HXH.out w' (D1.out.trans hw'); go_simp
                    with_reducible rfl
                  · simp only [Act.put, List.setIfInBounds_toArray, List.set_cons_zero, List.set_cons_succ, i64_w, i32_w]
                    rfl
                  refine seq_take (v := ?_) (a' := ?_) rfl rfl (by rfl) (fun w' hw' => ?_) ?_ ?_
                  rotate_left 2
                  · go_simp
                    with_reducible rfl
                  · simp only [Act.put, List.setIfInBounds_toArray, List.set_cons_zero, List.set_cons_succ, i64_w, i32_w]
                    rfl
                  refine seq_take (v := ?_) (a' := ?_) rfl rfl (by rfl) (fun w' hw' => ?_) ?_ ?_
                  rotate_left 2
                  · go_simp
                    with_reducible rfl
                  · simp only [Act.put, List.setIfInBounds_toArray, List.set_cons_zero, List.set_cons_succ, i64_w, i32_w]
                    rfl
                  refine seq_run ?_
                  refine do_store (w1 := ?_) rfl rfl (by rfl) ?_ ?_
                  rotate_left
                  · obtain ⟨hc, hf⟩ := HCF.out; rw [Int.toNat_natCast] at hc hf; go_simp
                    rfl
                  refine ⟨fun h => absurd (by simp) h, ?_⟩
                  refine seq_end ?_
                  go_wp2
                  go_roundw
                  case rel =>
                    refine ⟨j + 1, by omega, by go_num, ?_, ?_⟩
                    · rw [HF.out]
                      exact (HST.out (ad xv xh)).below (Below.drew (Below.refl _ _))
                    · exact Below.drew (HBr.out.setCell (p := ⟨gv, j, none⟩) HGV.out _)
                  case measure => simp [intOf]; omega
                · obtain rfl : j = 8 := by omega
                  go_wp2
                  go_ret
                  exact ⟨gv, cv, rfl, Kd.R_lower (by rw [HC.out]; exact HO.out) HB1.out.size, below_tr HB1.out HBr.out HB1.out.size⟩
end Go.Proofs.YtnkkjmbpopodlaaDoor
