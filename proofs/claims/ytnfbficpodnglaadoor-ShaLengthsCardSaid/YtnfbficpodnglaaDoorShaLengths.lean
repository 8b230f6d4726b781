/- The law ShaLengths: its walk. Conditions: what sha's table of roots holds. -/
import Derived.Test.YtnfbficpodnglaaDoorShaClones
import Derived.Test.YtnfbficpodnglaaDoorBuf
namespace Go.Proofs.YtnfbficpodnglaaDoor
open Go.RowKit Go.Proofs.YtnfbficpodnglaaDoorW.PrintWords Go.Proofs.YtnfbficpodnglaaDoorW.PrintMore
set_option linter.unusedVariables false
set_option linter.unusedSimpArgs false
section
variable {P : Program} {ops : Array Oper} {Q : Exit → Act → World → Prop} {rest : List Oper} {a : Act} {d : Option Tmp} {ty0 ty : TypeId} {x y : Operand} {ps : String} {af : Array Edge} {gd : Option (Nat × Bool)}
theorem at_mk (w : World) (h : wpList P ops Q ({ dst := d, op := .makeSlice ty x y, type := ty0, pos := ps, after := af, guard := gd } :: rest) a w) : wpList P ops Q ({ dst := d, op := .makeSlice ty x y, type := ty0, pos := ps, after := af, guard := gd } :: rest) a w := h
end
section
variable {md : Mode} {ops : Array Oper} {Q : Exit → Act → World → Prop}
theorem do_makeB {w0 W : World} {i : Nat} {o : Oper} {N : Tmp} {a : Act} {K : Act → World → Prop} (base : Nat) (hi : ops[i]? = some o) (hN : o.dst = some N) (hw : Region.wanted o (yielded ops a.tmps) = true) (x y : Operand) (ho : o.op = .makeSlice 22 x y) (n : Int) (hx : a.eval x = .int .i64 n) (hy : a.eval y = .int .i64 n) (h0 : 0 ≤ n) (hl : n ≤ 281474976710656)
    (HB : Below base w0 W) (hbase : base ≤ W.heap.size)
    (h : ∀ v1 w1, OwB w1 base v1 (List.replicate n.toNat 0) → Below base w0 w1 → K (a.put (some N) v1) w1) : wpOp Tryd.prog ops Q i K a W := by
  refine do_ hi hw ?_
  have h2 := Kd.R_make_step (P := Tryd.prog) (ops := ops) (o := o) (a := a) (Q := Q) (Kc := K) (Kd.int .u8) (w0 := w0) (W := W) base 5 hw hN 22 x y ho n hx hy Tryd.underlying22 (.int .u8 0) 1 infoB rfl (by decide) (by decide) (0 : Int) (ok := fun _ => True) (okp := fun _ => True) rfl (fun _ _ => trivial) trivial h0 (by omega) HB hbase
    (fun v1 w1 h1 h2 _ _ => by rw [hN]; exact h v1 w1 h1 h2)
  rw [if_pos hw] at h2
  exact h2
end
theorem zerosB (n : Nat) : Bytes (List.replicate n 0) := fun x hx => by rw [(List.mem_replicate.1 hx).2]; omega
set_option maxRecDepth 20000 in
set_option maxHeartbeats 3200000 in
theorem shaLengths_walk (k m : Int) (w : World) (hk0 : -9223372036854775808 ≤ k) (hk1 : k ≤ 9223372036854775807) (hm0 : -9223372036854775808 ≤ m) (hm1 : m ≤ 9223372036854775807) (hk : Roots w)
    (HINJ : Aside0 (∀ a b : Nat, a < 131 → b < 131 → shaL (List.replicate a 0) = shaL (List.replicate b 0) → a = b)) :
    Calls Tryd.prog 4 #[.int .i64 k, .int .i64 m] w fun e w' => e = .returned (.bool true) ∧ Below w.heap.size w w' := by
  have HK := Aside0.mk hk
  have hgd := dig_gd
  obtain ⟨ha0, ha1⟩ := around_range k 131 (by omega)
  obtain ⟨hb0, hb1⟩ := around_range m 131 (by omega)
  obtain ⟨a, ha⟩ := Int.eq_ofNat_of_zero_le ha0
  obtain ⟨b, hb⟩ := Int.eq_ofNat_of_zero_le hb0
  have HA := Aside0.mk ha
  have HB := Aside0.mk hb
  have ha' : a < 131 := by omega
  have hb' : b < 131 := by omega
  have la : (List.replicate a (0 : Int)).length = a := List.length_replicate
  have lb : (List.replicate b (0 : Int)).length = b := List.length_replicate
  have La := Aside0.mk la
  have Lb := Aside0.mk lb
  clear hk ha hb ha0 ha1 hb0 hb1 la lb
  go_enter Tryd.func4, Tryd.ntmps4
  go_wp2_with (first
    | (go_at_call_of 9 k; refine (around_calls k 131 _ hk0 hk1 (by omega) (by omega)).mono ?_; rw [HA.out]; rintro e u0 ⟨rfl, rfl⟩)
    | (go_at_call_of 9 m; refine (around_calls m 131 _ hm0 hm1 (by omega) (by omega)).mono ?_; rw [HB.out]; rintro e u0 ⟨rfl, rfl⟩)
    | ((with_reducible refine at_mk w ?_); refine makeB (w0 := w) w.heap.size rfl rfl _ _ rfl a rfl rfl (by omega) (by omega) (Below.refl _ _) (Nat.le_refl _) ?_; intro v1 w1 hO hB; rw [Int.toNat_natCast] at hO; obtain ⟨A1, c1, rfl, hc1, hr1⟩ := OwB.reads hO; rw [La.out] at hr1 hc1; rw [La.out]; have HR1 := Aside0.mk hr1; have Z1 := Aside0.mk hB; clear hO hB hr1)
    | (go_at_call 10; (with_reducible refine at_cw w1 ?_); refine (psum_calls A1 a c1 _ w1 HR1.out (zerosB a) (HK.out.below Z1.out) (by omega)).mono ?_; obtain ⟨X, hX⟩ : ∃ X, X = shaL (List.replicate a 0) := ⟨_, rfl⟩; rw [← hX]; rintro e w2 ⟨rfl, hB⟩; have HXX := Aside0.mk hX; have Z2 := Aside0.mk (below_tr Z1.out hB Z1.out.size); have lX := (show X.length = 32 by rw [hX]; exact shaL_len _); clear hB hX)
    | ((with_reducible refine at_st 26 (.tmp 7) (.tmp 15) ?_); refine store_blk rfl 26 (.tmp 7) (.tmp 15) rfl rfl rfl (blk_new w2 _) (by rw [Nm_len, lX]; rfl) (size_d _ lX) (Nm_one _) ?_; rintro w3 HS3; have Z3 := Aside0.mk (Z2.out.trans ((((Below.refl _ _).alloc (Nat.le_refl _) _).trans (HS3.below (Nat.le_refl _))).mono Z2.out.size)); have B3 := Aside0.mk HS3.at_; clear HS3)
    | ((with_reducible refine at_mk w3 ?_); refine makeB (w0 := w3) w3.heap.size rfl rfl _ _ rfl b rfl rfl (by omega) (by omega) (Below.refl _ _) (Nat.le_refl _) ?_; intro v4 w4 hO hB; rw [Int.toNat_natCast] at hO; obtain ⟨A4, c4, rfl, hc4, hr4⟩ := OwB.reads hO; rw [Lb.out] at hr4 hc4; rw [Lb.out]; have HR4 := Aside0.mk hr4; have Z4 := Aside0.mk (below_tr Z3.out hB Z3.out.size); have B4 := Aside0.mk (blk_below hB B3.out); clear hO hB hr4)
    | (go_at_call 10; (with_reducible refine at_cw w4 ?_); refine (psum_calls A4 b c4 _ w4 HR4.out (zerosB b) (HK.out.below Z4.out) (by omega)).mono ?_; obtain ⟨Y, hY⟩ : ∃ Y, Y = shaL (List.replicate b 0) := ⟨_, rfl⟩; rw [← hY]; rintro e w5 ⟨rfl, hB⟩; have HYY := Aside0.mk hY; have Z5 := Aside0.mk (below_tr Z4.out hB Z4.out.size); have B5 := Aside0.mk (blk_below hB B4.out); have lY := (show Y.length = 32 by rw [hY]; exact shaL_len _); clear hB hY)
    | ((with_reducible refine at_st 26 (.tmp 8) (.tmp 18) ?_); refine store_blk rfl 26 (.tmp 8) (.tmp 18) rfl rfl rfl (blk_new w5 _) (by rw [Nm_len, lY]; rfl) (size_d _ lY) (Nm_one _) ?_; rintro w6 HS6; have Z6 := Aside0.mk (Z5.out.trans ((((Below.refl _ _).alloc (Nat.le_refl _) _).trans (HS6.below (Nat.le_refl _))).mono Z5.out.size)); have Y6 := Aside0.mk HS6.at_; have X6 := Aside0.mk (blk_below (((Below.refl _ _).alloc (Nat.le_refl _) _).trans (HS6.below (Nat.le_refl _))) B5.out); clear HS6))
  have HXY : Aside0 (∀ W, (binOp .eql 26 (.agg (Nm X).toArray) (.agg (Nm Y).toArray)).run Tryd.prog W = .ok (.bool (decide ((a : Int) = (b : Int)))) W) := ⟨fun W => by
    rw [d_eql lX lY]
    congr 2
    refine decide_eq_decide.2 ⟨fun e => ?_, fun e => ?_⟩
    · rw [HXX.out, HYY.out] at e
      rw [HINJ.out a b ha' hb' e]
    · have e' : a = b := by omega
      rw [HXX.out, HYY.out, e']⟩
  clear HR1 hc1 HR4 hc4 Z1 Z2 Z3 Z4 Z5 B3 B4 B5
  by_cases hab : a = b
  · subst hab
    have HXY' : Aside0 (∀ W, (binOp .eql 26 (.agg (Nm X).toArray) (.agg (Nm Y).toArray)).run Tryd.prog W = .ok (.bool true) W) := ⟨fun W => by rw [HXY.out]; simp⟩
    go_wp2
    refine seq_start [] (.take 0 (.take 1 (.run 2 (.run 3 (.take 4 (.take 5 (.take 6 (.take 7 (.take 8 (.take 9 (.take 10 (.take 11 (.take 12 (.take 13 (.take 14 (.run 15 (.take 16 (.take 17 .done)))))))))))))))))) (by kernel_rfl) (by kernel_rfl) (fun _ _ d _ _ h => by cases d <;> exact h) ?_
    refine seq_take (v := _) (a' := ?_) rfl rfl (by rfl) (fun w' hw' => load_run rfl (p := .pointer (some ⟨w2.heap.size, 0, none⟩)) rfl (ld_row (P := Tryd.prog) (hw'.heap (w := w6.drew) X6.out) 26 _ Tryd.underlying26 rfl (by rw [List.size_toArray]; exact size_d _ lX))) ?_ ?_
    rotate_left
    · simp only [Act.put, List.setIfInBounds_toArray, List.set_cons_zero, List.set_cons_succ, Go.Proofs.YtnfbficpodnglaaDoorW.PrintLast.i64_w, Go.Proofs.YtnfbficpodnglaaDoorW.PrintLast.i32_w]
      rfl
    refine seq_take (v := ?_) (a' := ?_) rfl rfl (by rfl) (fun w' hw' => ?_) ?_ ?_
    rotate_left 2
    · go_simp
      with_reducible rfl
    · simp only [Act.put, List.setIfInBounds_toArray, List.set_cons_zero, List.set_cons_succ, Go.Proofs.YtnfbficpodnglaaDoorW.PrintLast.i64_w, Go.Proofs.YtnfbficpodnglaaDoorW.PrintLast.i32_w]
      rfl
    refine seq_run ?_
    refine do_makeB (w0 := w6.drew) (W := w6.drew) w6.drew.heap.size rfl rfl (by rfl) (.tmp 20) (.tmp 20) rfl a rfl rfl (by omega) (by omega) (Below.refl _ _) (Nat.le_refl _) ?_
    intro v7 w7 hO hB7
    rw [Int.toNat_natCast] at hO
    obtain ⟨A7, c7, rfl, hc7, hr7⟩ := OwB.reads hO
    rw [La.out] at hr7 hc7
    rw [La.out]
    refine ⟨fun _ => hB7, ?_⟩
    simp only [Act.put, List.setIfInBounds_toArray, List.set_cons_zero, List.set_cons_succ]
    have D6 := Aside0.mk (Below.drew (Below.refl w6.heap.size w6))
    have Z7 := Aside0.mk (Z6.out.trans ((D6.out.trans hB7).mono Z6.out.size))
    have E7 := Aside0.mk (D6.out.trans hB7)
    refine seq_run ?_
    refine do_call rfl rfl (by rfl) rfl Tryd.func11 (by kernel_rfl) rfl #[.slice A7 a c7] (by simp only [List.map_toArray, List.map_cons, List.map_nil]; rfl) ?_
    with_reducible refine (rsum_calls A7 a c7 _ w7 hr7 (zerosB a) (by omega)).mono ?_
    rintro e w8 ⟨rfl, hB8⟩
    refine ⟨_, ?_, rfl, ?_, fun _ => hB8, ?_⟩
    rotate_left
    · simp only [Act.put, List.setIfInBounds_toArray, List.set_cons_zero, List.set_cons_succ, Go.Proofs.YtnfbficpodnglaaDoorW.PrintLast.i64_w, Go.Proofs.YtnfbficpodnglaaDoorW.PrintLast.i32_w]
      rfl
    rw [← HXX.out]
    refine seq_take (v := _) (a' := ?_) rfl rfl (by rfl) (fun w' hw' => (bin_run .eql 26 (.tmp 19) (.tmp 22) 26 rfl (p := .agg (Nm X).toArray) (q := .agg (Nm X).toArray) rfl rfl (run_eqGuard_agg _ .eql _ _ _ _ _ hgd) (d_eql_same lX))) ?_ ?_
    rotate_left
    · simp only [Act.put, List.setIfInBounds_toArray, List.set_cons_zero, List.set_cons_succ, Go.Proofs.YtnfbficpodnglaaDoorW.PrintLast.i64_w, Go.Proofs.YtnfbficpodnglaaDoorW.PrintLast.i32_w]
      rfl
    refine seq_take (v := ?_) (a' := ?_) rfl rfl (by rfl) (fun w' hw' => ?_) ?_ ?_
    rotate_left 2
    · go_simp
      with_reducible rfl
    · simp only [Act.put, List.setIfInBounds_toArray, List.set_cons_zero, List.set_cons_succ, Go.Proofs.YtnfbficpodnglaaDoorW.PrintLast.i64_w, Go.Proofs.YtnfbficpodnglaaDoorW.PrintLast.i32_w]
      rfl
    have Z8 := Aside0.mk (below_tr Z7.out hB8 Z7.out.size)
    have E8 := Aside0.mk (below_tr E7.out hB8 E7.out.size)
    have X8 := Aside0.mk (blk_below E8.out X6.out)
    have Y8 := Aside0.mk (blk_below E8.out Y6.out)
    refine seq_take (v := _) (a' := ?_) rfl rfl (by rfl) (fun w' hw' => load_run rfl (p := .pointer (some ⟨w2.heap.size, 0, none⟩)) rfl (ld_row (P := Tryd.prog) (hw'.heap X8.out) 26 _ Tryd.underlying26 rfl (by rw [List.size_toArray]; exact size_d _ lX))) ?_ ?_
    rotate_left
    · simp only [Act.put, List.setIfInBounds_toArray, List.set_cons_zero, List.set_cons_succ, Go.Proofs.YtnfbficpodnglaaDoorW.PrintLast.i64_w, Go.Proofs.YtnfbficpodnglaaDoorW.PrintLast.i32_w]
      rfl
    refine seq_take (v := _) (a' := ?_) rfl rfl (by rfl) (fun w' hw' => load_run rfl (p := .pointer (some ⟨w5.heap.size, 0, none⟩)) rfl (ld_row (P := Tryd.prog) (hw'.heap Y8.out) 26 _ Tryd.underlying26 rfl (by rw [List.size_toArray]; exact size_d _ lY))) ?_ ?_
    rotate_left
    · simp only [Act.put, List.setIfInBounds_toArray, List.set_cons_zero, List.set_cons_succ, Go.Proofs.YtnfbficpodnglaaDoorW.PrintLast.i64_w, Go.Proofs.YtnfbficpodnglaaDoorW.PrintLast.i32_w]
      rfl
    refine seq_take (v := _) (a' := ?_) rfl rfl (by rfl) (fun w' hw' => (bin_run .eql 26 (.tmp 25) (.tmp 26) 26 rfl (p := .agg (Nm X).toArray) (q := .agg (Nm Y).toArray) rfl rfl (run_eqGuard_agg _ .eql _ _ _ _ _ hgd) (HXY'.out _))) ?_ ?_
    rotate_left
    · simp only [Act.put, List.setIfInBounds_toArray, List.set_cons_zero, List.set_cons_succ, Go.Proofs.YtnfbficpodnglaaDoorW.PrintLast.i64_w, Go.Proofs.YtnfbficpodnglaaDoorW.PrintLast.i32_w]
      rfl
    refine seq_take (v := ?_) (a' := ?_) rfl rfl (by rfl) (fun w' hw' => ?_) ?_ ?_
    rotate_left 2
    · go_simp
      with_reducible rfl
    · simp only [Act.put, List.setIfInBounds_toArray, List.set_cons_zero, List.set_cons_succ, Go.Proofs.YtnfbficpodnglaaDoorW.PrintLast.i64_w, Go.Proofs.YtnfbficpodnglaaDoorW.PrintLast.i32_w]
      rfl
    refine seq_take (v := ?_) (a' := ?_) rfl rfl (by rfl) (fun w' hw' => ?_) ?_ ?_
    rotate_left 2
    · go_simp
      with_reducible rfl
    · simp only [Act.put, List.setIfInBounds_toArray, List.set_cons_zero, List.set_cons_succ, Go.Proofs.YtnfbficpodnglaaDoorW.PrintLast.i64_w, Go.Proofs.YtnfbficpodnglaaDoorW.PrintLast.i32_w]
      rfl
    refine seq_take (v := ?_) (a' := ?_) rfl rfl (by rfl) (fun w' hw' => ?_) ?_ ?_
    rotate_left 2
    · go_simp
      with_reducible rfl
    · simp only [Act.put, List.setIfInBounds_toArray, List.set_cons_zero, List.set_cons_succ, Go.Proofs.YtnfbficpodnglaaDoorW.PrintLast.i64_w, Go.Proofs.YtnfbficpodnglaaDoorW.PrintLast.i32_w]
      rfl
    refine seq_take (v := ?_) (a' := ?_) rfl rfl (by rfl) (fun w' hw' => ?_) ?_ ?_
    rotate_left 2
    · go_simp
      with_reducible rfl
    · simp only [Act.put, List.setIfInBounds_toArray, List.set_cons_zero, List.set_cons_succ, Go.Proofs.YtnfbficpodnglaaDoorW.PrintLast.i64_w, Go.Proofs.YtnfbficpodnglaaDoorW.PrintLast.i32_w]
      rfl
    refine seq_take (v := ?_) (a' := ?_) rfl rfl (by rfl) (fun w' hw' => ?_) ?_ ?_
    rotate_left 2
    · go_simp
      with_reducible rfl
    · simp only [Act.put, List.setIfInBounds_toArray, List.set_cons_zero, List.set_cons_succ, Go.Proofs.YtnfbficpodnglaaDoorW.PrintLast.i64_w, Go.Proofs.YtnfbficpodnglaaDoorW.PrintLast.i32_w]
      rfl
    refine seq_take (v := ?_) (a' := ?_) rfl rfl (by rfl) (fun w' hw' => ?_) ?_ ?_
    rotate_left 2
    · go_simp
      with_reducible rfl
    · simp only [Act.put, List.setIfInBounds_toArray, List.set_cons_zero, List.set_cons_succ, Go.Proofs.YtnfbficpodnglaaDoorW.PrintLast.i64_w, Go.Proofs.YtnfbficpodnglaaDoorW.PrintLast.i32_w]
      rfl
    refine seq_run ?_
    refine do_call rfl rfl (by rfl) rfl Tryd.func13 (by kernel_rfl) rfl #[] (by simp only [List.map_toArray, List.map_nil]) ?_
    with_reducible refine (lives_calls w8 (HK.out.below Z8.out)).mono ?_
    rintro e w9 ⟨rfl, hB9⟩
    refine ⟨_, ?_, rfl, ?_, fun _ => hB9, ?_⟩
    rotate_left
    · simp only [Act.put, List.setIfInBounds_toArray, List.set_cons_zero, List.set_cons_succ, Go.Proofs.YtnfbficpodnglaaDoorW.PrintLast.i64_w, Go.Proofs.YtnfbficpodnglaaDoorW.PrintLast.i32_w]
      rfl
    refine seq_take (v := ?_) (a' := ?_) rfl rfl (by rfl) (fun w' hw' => ?_) ?_ ?_
    rotate_left 2
    · go_simp
      with_reducible rfl
    · simp only [Act.put, List.setIfInBounds_toArray, List.set_cons_zero, List.set_cons_succ, Go.Proofs.YtnfbficpodnglaaDoorW.PrintLast.i64_w, Go.Proofs.YtnfbficpodnglaaDoorW.PrintLast.i32_w]
      rfl
    refine seq_take (v := ?_) (a' := ?_) rfl rfl (by rfl) (fun w' hw' => ?_) ?_ ?_
    rotate_left 2
    · go_simp
      with_reducible rfl
    · simp only [Act.put, List.setIfInBounds_toArray, List.set_cons_zero, List.set_cons_succ, Go.Proofs.YtnfbficpodnglaaDoorW.PrintLast.i64_w, Go.Proofs.YtnfbficpodnglaaDoorW.PrintLast.i32_w]
      rfl
    refine seq_end ?_
    go_wp2
    go_ret
    exact ⟨rfl, below_tr Z8.out hB9 Z8.out.size⟩
  · have hne : ((a : Int) == (b : Int)) = false := by rw [beq_eq_false_iff_ne]; omega
    have hne' : ¬ (a : Int) = (b : Int) := by omega
    have HXY' : Aside0 (∀ W, (binOp .eql 26 (.agg (Nm X).toArray) (.agg (Nm Y).toArray)).run Tryd.prog W = .ok (.bool false) W) := ⟨fun W => by rw [HXY.out]; simp [hne']⟩
    go_wp2
    refine seq_start [] (.take 0 (.take 1 (.run 2 (.run 3 (.take 4 (.take 5 (.take 6 (.take 7 (.take 8 (.take 9 (.take 10 (.take 11 (.take 12 (.take 13 (.take 14 (.run 15 (.take 16 (.take 17 .done)))))))))))))))))) (by kernel_rfl) (by kernel_rfl) (fun _ _ d _ _ h => by cases d <;> exact h) ?_
    refine seq_take (v := _) (a' := ?_) rfl rfl (by rfl) (fun w' hw' => load_run rfl (p := .pointer (some ⟨w2.heap.size, 0, none⟩)) rfl (ld_row (P := Tryd.prog) (hw'.heap (w := w6.drew) X6.out) 26 _ Tryd.underlying26 rfl (by rw [List.size_toArray]; exact size_d _ lX))) ?_ ?_
    rotate_left
    · simp only [Act.put, List.setIfInBounds_toArray, List.set_cons_zero, List.set_cons_succ, Go.Proofs.YtnfbficpodnglaaDoorW.PrintLast.i64_w, Go.Proofs.YtnfbficpodnglaaDoorW.PrintLast.i32_w]
      rfl
    refine seq_take (v := ?_) (a' := ?_) rfl rfl (by rfl) (fun w' hw' => ?_) ?_ ?_
    rotate_left 2
    · go_simp
      with_reducible rfl
    · simp only [Act.put, List.setIfInBounds_toArray, List.set_cons_zero, List.set_cons_succ, Go.Proofs.YtnfbficpodnglaaDoorW.PrintLast.i64_w, Go.Proofs.YtnfbficpodnglaaDoorW.PrintLast.i32_w]
      rfl
    refine seq_run ?_
    refine do_makeB (w0 := w6.drew) (W := w6.drew) w6.drew.heap.size rfl rfl (by rfl) (.tmp 20) (.tmp 20) rfl a rfl rfl (by omega) (by omega) (Below.refl _ _) (Nat.le_refl _) ?_
    intro v7 w7 hO hB7
    rw [Int.toNat_natCast] at hO
    obtain ⟨A7, c7, rfl, hc7, hr7⟩ := OwB.reads hO
    rw [La.out] at hr7 hc7
    rw [La.out]
    refine ⟨fun _ => hB7, ?_⟩
    simp only [Act.put, List.setIfInBounds_toArray, List.set_cons_zero, List.set_cons_succ]
    have D6 := Aside0.mk (Below.drew (Below.refl w6.heap.size w6))
    have Z7 := Aside0.mk (Z6.out.trans ((D6.out.trans hB7).mono Z6.out.size))
    have E7 := Aside0.mk (D6.out.trans hB7)
    refine seq_run ?_
    refine do_call rfl rfl (by rfl) rfl Tryd.func11 (by kernel_rfl) rfl #[.slice A7 a c7] (by simp only [List.map_toArray, List.map_cons, List.map_nil]; rfl) ?_
    with_reducible refine (rsum_calls A7 a c7 _ w7 hr7 (zerosB a) (by omega)).mono ?_
    rintro e w8 ⟨rfl, hB8⟩
    refine ⟨_, ?_, rfl, ?_, fun _ => hB8, ?_⟩
    rotate_left
    · simp only [Act.put, List.setIfInBounds_toArray, List.set_cons_zero, List.set_cons_succ, Go.Proofs.YtnfbficpodnglaaDoorW.PrintLast.i64_w, Go.Proofs.YtnfbficpodnglaaDoorW.PrintLast.i32_w]
      rfl
    rw [← HXX.out]
    refine seq_take (v := _) (a' := ?_) rfl rfl (by rfl) (fun w' hw' => (bin_run .eql 26 (.tmp 19) (.tmp 22) 26 rfl (p := .agg (Nm X).toArray) (q := .agg (Nm X).toArray) rfl rfl (run_eqGuard_agg _ .eql _ _ _ _ _ hgd) (d_eql_same lX))) ?_ ?_
    rotate_left
    · simp only [Act.put, List.setIfInBounds_toArray, List.set_cons_zero, List.set_cons_succ, Go.Proofs.YtnfbficpodnglaaDoorW.PrintLast.i64_w, Go.Proofs.YtnfbficpodnglaaDoorW.PrintLast.i32_w]
      rfl
    refine seq_take (v := ?_) (a' := ?_) rfl rfl (by rfl) (fun w' hw' => ?_) ?_ ?_
    rotate_left 2
    · go_simp
      with_reducible rfl
    · simp only [Act.put, List.setIfInBounds_toArray, List.set_cons_zero, List.set_cons_succ, Go.Proofs.YtnfbficpodnglaaDoorW.PrintLast.i64_w, Go.Proofs.YtnfbficpodnglaaDoorW.PrintLast.i32_w]
      rfl
    have Z8 := Aside0.mk (below_tr Z7.out hB8 Z7.out.size)
    have E8 := Aside0.mk (below_tr E7.out hB8 E7.out.size)
    have X8 := Aside0.mk (blk_below E8.out X6.out)
    have Y8 := Aside0.mk (blk_below E8.out Y6.out)
    refine seq_take (v := _) (a' := ?_) rfl rfl (by rfl) (fun w' hw' => load_run rfl (p := .pointer (some ⟨w2.heap.size, 0, none⟩)) rfl (ld_row (P := Tryd.prog) (hw'.heap X8.out) 26 _ Tryd.underlying26 rfl (by rw [List.size_toArray]; exact size_d _ lX))) ?_ ?_
    rotate_left
    · simp only [Act.put, List.setIfInBounds_toArray, List.set_cons_zero, List.set_cons_succ, Go.Proofs.YtnfbficpodnglaaDoorW.PrintLast.i64_w, Go.Proofs.YtnfbficpodnglaaDoorW.PrintLast.i32_w]
      rfl
    refine seq_take (v := _) (a' := ?_) rfl rfl (by rfl) (fun w' hw' => load_run rfl (p := .pointer (some ⟨w5.heap.size, 0, none⟩)) rfl (ld_row (P := Tryd.prog) (hw'.heap Y8.out) 26 _ Tryd.underlying26 rfl (by rw [List.size_toArray]; exact size_d _ lY))) ?_ ?_
    rotate_left
    · simp only [Act.put, List.setIfInBounds_toArray, List.set_cons_zero, List.set_cons_succ, Go.Proofs.YtnfbficpodnglaaDoorW.PrintLast.i64_w, Go.Proofs.YtnfbficpodnglaaDoorW.PrintLast.i32_w]
      rfl
    refine seq_take (v := _) (a' := ?_) rfl rfl (by rfl) (fun w' hw' => (bin_run .eql 26 (.tmp 25) (.tmp 26) 26 rfl (p := .agg (Nm X).toArray) (q := .agg (Nm Y).toArray) rfl rfl (run_eqGuard_agg _ .eql _ _ _ _ _ hgd) (HXY'.out _))) ?_ ?_
    rotate_left
    · simp only [Act.put, List.setIfInBounds_toArray, List.set_cons_zero, List.set_cons_succ, Go.Proofs.YtnfbficpodnglaaDoorW.PrintLast.i64_w, Go.Proofs.YtnfbficpodnglaaDoorW.PrintLast.i32_w]
      rfl
    refine seq_take (v := ?_) (a' := ?_) rfl rfl (by rfl) (fun w' hw' => ?_) ?_ ?_
    rotate_left 2
    · go_simp
      with_reducible rfl
    · simp only [Act.put, List.setIfInBounds_toArray, List.set_cons_zero, List.set_cons_succ, Go.Proofs.YtnfbficpodnglaaDoorW.PrintLast.i64_w, Go.Proofs.YtnfbficpodnglaaDoorW.PrintLast.i32_w]
      rfl
    refine seq_take (v := ?_) (a' := ?_) rfl rfl (by rfl) (fun w' hw' => ?_) ?_ ?_
    rotate_left 2
    · go_simp
      with_reducible rfl
    · simp only [Act.put, List.setIfInBounds_toArray, List.set_cons_zero, List.set_cons_succ, Go.Proofs.YtnfbficpodnglaaDoorW.PrintLast.i64_w, Go.Proofs.YtnfbficpodnglaaDoorW.PrintLast.i32_w]
      rfl
    refine seq_take (v := ?_) (a' := ?_) rfl rfl (by rfl) (fun w' hw' => ?_) ?_ ?_
    rotate_left 2
    · go_simp
      with_reducible rfl
    · simp only [Act.put, List.setIfInBounds_toArray, List.set_cons_zero, List.set_cons_succ, Go.Proofs.YtnfbficpodnglaaDoorW.PrintLast.i64_w, Go.Proofs.YtnfbficpodnglaaDoorW.PrintLast.i32_w]
      rfl
    refine seq_take (v := ?_) (a' := ?_) rfl rfl (by rfl) (fun w' hw' => ?_) ?_ ?_
    rotate_left 2
    · go_simp
      with_reducible rfl
    · simp only [Act.put, List.setIfInBounds_toArray, List.set_cons_zero, List.set_cons_succ, Go.Proofs.YtnfbficpodnglaaDoorW.PrintLast.i64_w, Go.Proofs.YtnfbficpodnglaaDoorW.PrintLast.i32_w]
      rfl
    refine seq_take (v := ?_) (a' := ?_) rfl rfl (by rfl) (fun w' hw' => ?_) ?_ ?_
    rotate_left 2
    · go_simp
      with_reducible rfl
    · simp only [Act.put, List.setIfInBounds_toArray, List.set_cons_zero, List.set_cons_succ, Go.Proofs.YtnfbficpodnglaaDoorW.PrintLast.i64_w, Go.Proofs.YtnfbficpodnglaaDoorW.PrintLast.i32_w]
      rfl
    refine seq_take (v := ?_) (a' := ?_) rfl rfl (by rfl) (fun w' hw' => ?_) ?_ ?_
    rotate_left 2
    · go_simp
      with_reducible rfl
    · simp only [Act.put, List.setIfInBounds_toArray, List.set_cons_zero, List.set_cons_succ, Go.Proofs.YtnfbficpodnglaaDoorW.PrintLast.i64_w, Go.Proofs.YtnfbficpodnglaaDoorW.PrintLast.i32_w]
      rfl
    refine seq_run ?_
    refine do_call rfl rfl (by rfl) rfl Tryd.func13 (by kernel_rfl) rfl #[] (by simp only [List.map_toArray, List.map_nil]) ?_
    with_reducible refine (lives_calls w8 (HK.out.below Z8.out)).mono ?_
    rintro e w9 ⟨rfl, hB9⟩
    refine ⟨_, ?_, rfl, ?_, fun _ => hB9, ?_⟩
    rotate_left
    · simp only [Act.put, List.setIfInBounds_toArray, List.set_cons_zero, List.set_cons_succ, Go.Proofs.YtnfbficpodnglaaDoorW.PrintLast.i64_w, Go.Proofs.YtnfbficpodnglaaDoorW.PrintLast.i32_w]
      rfl
    refine seq_take (v := ?_) (a' := ?_) rfl rfl (by rfl) (fun w' hw' => ?_) ?_ ?_
    rotate_left 2
    · go_simp
      with_reducible rfl
    · simp only [Act.put, List.setIfInBounds_toArray, List.set_cons_zero, List.set_cons_succ, Go.Proofs.YtnfbficpodnglaaDoorW.PrintLast.i64_w, Go.Proofs.YtnfbficpodnglaaDoorW.PrintLast.i32_w]
      rfl
    refine seq_take (v := ?_) (a' := ?_) rfl rfl (by rfl) (fun w' hw' => ?_) ?_ ?_
    rotate_left 2
    · go_simp
      with_reducible rfl
    · simp only [Act.put, List.setIfInBounds_toArray, List.set_cons_zero, List.set_cons_succ, Go.Proofs.YtnfbficpodnglaaDoorW.PrintLast.i64_w, Go.Proofs.YtnfbficpodnglaaDoorW.PrintLast.i32_w]
      rfl
    refine seq_end ?_
    go_wp2
    go_ret
    exact ⟨rfl, below_tr Z8.out hB9 Z8.out.size⟩
end Go.Proofs.YtnfbficpodnglaaDoor
