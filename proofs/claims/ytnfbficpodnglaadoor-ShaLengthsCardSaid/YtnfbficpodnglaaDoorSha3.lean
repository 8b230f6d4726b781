/- Contract: sha.mix. Conditions: its own, and what sha's table of roots holds. -/
import Derived.Test.YtnfbficpodnglaaDoorSha2
namespace Go.Proofs.YtnfbficpodnglaaDoor
open Go.RowKit Go.Proofs.YtnfbficpodnglaaDoorW.PrintWords Go.Proofs.YtnfbficpodnglaaDoorW.PrintMore
set_option linter.unusedVariables false
set_option linter.unusedSimpArgs false
theorem ones_sub (s : Nat) (h : s < 4294967296) : ((4294967295 ^^^ s : Nat) : Int) = 4294967295 - (s : Int) := by
  have : 4294967295 ^^^ s = 4294967295 - s := by
    have h1 : s ^^^ (2 ^ 32 - 1) = 2 ^ 32 - 1 - s := by
      apply Nat.eq_of_testBit_eq
      intro i
      rw [Nat.testBit_xor, Nat.testBit_two_pow_sub_one, Nat.sub_sub, Nat.add_comm 1 s]
      rw [Nat.testBit_two_pow_sub_succ (by omega)]
      by_cases hi : i < 32
      · simp [hi]
      · have hs : s.testBit i = false := Nat.testBit_lt_two_pow (Nat.lt_of_lt_of_le h (show 2 ^ 32 ≤ 2 ^ i from Nat.pow_le_pow_right (by omega) (by omega)))
        simp [hi, hs]
    rw [Nat.xor_comm]
    exact h1
  rw [this]
  omega

theorem un_xor (x : Nat) (h : x < 4294967296) : Op.unary .xor (.int .u32 (x : Int)) = pure (.int .u32 ((4294967295 ^^^ x : Nat) : Int)) := by
  have hm : IntKind.u32.max = 4294967295 := by simp [IntKind.max, IntKind.bits, IntKind.signed]
  rw [unary_xor, intBits_xor, hm, if_neg (by simp [IntKind.signed])]
  rw [u32_xor _ _ (by omega) (by omega) (by omega) (by omega), Int.toNat_natCast]
  rfl

theorem un_not (x : Int) (h0 : 0 ≤ x) (h1 : x < 4294967296) : Op.unary .xor (.int .u32 x) = pure (.int .u32 (4294967295 - x)) := by
  obtain ⟨n, rfl⟩ := Int.eq_ofNat_of_zero_le h0
  rw [un_xor n (by omega), ones_sub n (by omega)]
theorem a64_info : ∃ it z, Tryd.prog.info? 56 = some it ∧ it.zero = some z ∧ it.size = 64 ∧ z.cells.size = 64 := by
  have h : (Tryd.prog.info? 56).map (fun i => (i.zero.map (·.cells.size), i.size)) = some (some 64, 64) := by kernel_rfl
  obtain ⟨it, h1, h2⟩ := Option.map_eq_some_iff.1 h
  simp only [Prod.mk.injEq] at h2
  obtain ⟨z, h3, h4⟩ := Option.map_eq_some_iff.1 h2.1
  exact ⟨it, z, h1, h3, h2.2, h4⟩
theorem a8_info : ∃ it z, Tryd.prog.info? 45 = some it ∧ it.zero = some z ∧ it.size = 8 ∧ z.cells.size = 8 := by
  have h : (Tryd.prog.info? 45).map (fun i => (i.zero.map (·.cells.size), i.size)) = some (some 8, 8) := by kernel_rfl
  obtain ⟨it, h1, h2⟩ := Option.map_eq_some_iff.1 h
  simp only [Prod.mk.injEq] at h2
  obtain ⟨z, h3, h4⟩ := Option.map_eq_some_iff.1 h2.1
  exact ⟨it, z, h1, h3, h2.2, h4⟩
theorem size_a8 (xs : List Int) (hn : xs.length = 8) : (Tryd.prog.info? 45).map (·.size) = some (Us xs).length := by rw [Us_len, hn]; kernel_rfl
theorem built_a8 (x0 x1 x2 x3 x4 x5 x6 x7 : Int) : Tryd.prog.built 45 [(0, .int .u32 x0), (1, .int .u32 x1), (2, .int .u32 x2), (3, .int .u32 x3), (4, .int .u32 x4), (5, .int .u32 x5), (6, .int .u32 x6), (7, .int .u32 x7)] = some (Us [x0, x1, x2, x3, x4, x5, x6, x7]).toArray := by kernel_rfl
section
variable {P : Program} {ops : Array Oper} {rest : List Oper} {a : Act} {Q : Exit → Act → World → Prop} {w : World} {d : Option Tmp} {ty0 : TypeId} {ps : String} {af : Array Edge}
theorem at_al (ty : TypeId) (h : wpList P ops Q ({ dst := d, op := .alloc ty, type := ty0, pos := ps, after := af, guard := none } :: rest) a w) : wpList P ops Q ({ dst := d, op := .alloc ty, type := ty0, pos := ps, after := af, guard := none } :: rest) a w := h
end
section
variable {ops : Array Oper} {rest : List Oper} {o : Oper} {a : Act} {Q : Exit → Act → World → Prop} {w : World}
theorem new_a64 {xs : List Int} {o1 o2 : Oper} {N : Tmp} (hg1 : o1.guard = none) (hg2 : o2.guard = none) (hd1 : o1.dst = some N) (ho1 : o1.op = .alloc 56) (y : Operand) (ho2 : o2.op = .store 56 (.tmp N) y) (hN : N < a.tmps.size)
    (hy : (a.put (some N) (.pointer (some ⟨w.heap.size, 0, none⟩))).eval y = .agg (Us xs).toArray) (hn : xs.length = 64)
    (h : ∀ w1 g, NewBlk w w1 g (.cells (Us xs).toArray 56 (0, 0)) → wpList Tryd.prog ops Q rest ((a.put (some N) (.pointer (some ⟨g, 0, none⟩))).put o2.dst undef) w1) : wpList Tryd.prog ops Q (o1 :: o2 :: rest) a w := by
  obtain ⟨it, z, h1, h2, h3, h4⟩ := a64_info
  exact new_var hg1 hg2 hd1 _ ho1 y ho2 hN hy h1 h2 (by rw [h4, Us_len, hn]) (by rw [h3, Us_len, hn]) (Us_one _) h
theorem new_a8 {xs : List Int} {o1 o2 : Oper} {N : Tmp} (hg1 : o1.guard = none) (hg2 : o2.guard = none) (hd1 : o1.dst = some N) (ho1 : o1.op = .alloc 45) (y : Operand) (ho2 : o2.op = .store 45 (.tmp N) y) (hN : N < a.tmps.size)
    (hy : (a.put (some N) (.pointer (some ⟨w.heap.size, 0, none⟩))).eval y = .agg (Us xs).toArray) (hn : xs.length = 8)
    (h : ∀ w1 g, NewBlk w w1 g (.cells (Us xs).toArray 45 (0, 0)) → wpList Tryd.prog ops Q rest ((a.put (some N) (.pointer (some ⟨g, 0, none⟩))).put o2.dst undef) w1) : wpList Tryd.prog ops Q (o1 :: o2 :: rest) a w := by
  obtain ⟨it, z, h1, h2, h3, h4⟩ := a8_info
  exact new_var hg1 hg2 hd1 _ ho1 y ho2 hN hy h1 h2 (by rw [h4, Us_len, hn]) (by rw [h3, Us_len, hn]) (Us_one _) h
end
theorem ld_a8 {W : World} {g T : Nat} {fr : Nat × Nat} {xs : List Int} (h : W.heap[g]? = some (.cells (Us xs).toArray T fr)) (hn : xs.length = 8) : (Instr.loadAt 45 (.pointer (some ⟨g, 0, none⟩))).run Tryd.prog W = .ok (.agg (Us xs).toArray) W :=
  ld_row (P := Tryd.prog) h 45 _ Tryd.underlying45 rfl (by rw [List.size_toArray]; exact size_a8 xs hn)
/-- What sha's table holds. -/
def Roots (w : World) : Prop := ∀ i : Nat, i < 64 → w.cell? ⟨0, i, none⟩ = some (.int .u32 (rd Kc i))
theorem Roots.below {w w1 : World} (h : Roots w) (hb : Below w.heap.size w w1) : Roots w1 := fun i hi => pw_cell_below hb (h i hi)
theorem Us8 (xs : List Int) (h : xs.length = 8) : Us xs = Us [rd xs 0, rd xs 1, rd xs 2, rd xs 3, rd xs 4, rd xs 5, rd xs 6, rd xs 7] := by
  match xs, h with
  | [a, b, c, d, e, f, g, h], _ => rfl
set_option maxHeartbeats 3200000 in
set_option maxRecDepth 20000 in
theorem mix_calls (h : List Int) (C : Array Value) (g o c : Nat) (b : List Int) (w : World) (hC : C = (Us h).toArray) (hh : h.length = 8) (hw : Ws h) (hb : RdB w (some ⟨g, o, none⟩) 64 b) (hc : 64 ≤ c) (hbb : Bytes b) (hk : Roots w) :
    Calls Tryd.prog 22 #[.agg C, .slice (some ⟨g, o, none⟩) 64 c] w fun e w' => e = .returned (.agg (Us (comp h b)).toArray) ∧ Below w.heap.size w w' := by
  have HB := Aside0.mk hb
  have HBB := Aside0.mk hbb
  have HK := Aside0.mk hk
  have HW := Aside0.mk hw
  have HH := Aside0.mk hh
  have Q0 : Aside0 (Bag w ((w.alloc (.cells C 45)).alloc (.cells (Us (List.replicate 8 0)).toArray 45)) [(w.heap.size, .cells (Us h).toArray 45 (0, 0)), (w.heap.size + 1, .cells (Us (List.replicate 8 0)).toArray 45 (0, 0))]) := ⟨by
    have h := ((Bag.nil w).box C 45).box (Us (List.replicate 8 0)).toArray 45
    rw [show (w.alloc (.cells C 45)).heap.size = w.heap.size + 1 by simp] at h
    rw [← hC]
    exact h⟩
  clear hb hbb hk hC hw hh
  obtain ⟨ss, HSS⟩ : ∃ ss, Aside0 (ss = sched b 64) := ⟨_, ⟨rfl⟩⟩
  have HSL : Aside0 (ss.length = 64) := ⟨by rw [HSS.out]; exact sched_len b 64⟩
  have HCP : Aside0 (comp h b = fins h (rounds ss h 64) 8) := ⟨by rw [HSS.out]; rfl⟩
  go_enter Tryd.func22, Tryd.ntmps22
  go_wp2_with (first
    | (go_at_call 29; refine (words_calls g o c b _ (Kd.C_below HB.out Q0.out.below) hc HBB.out).mono ?_; rw [← HSS.out]; rintro e w1 ⟨rfl, hB1⟩; have Q1 := Q0.out.call hB1; clear hB1)
    | ((with_reducible refine at_al 56 ?_); refine new_a64 rfl rfl rfl rfl (.tmp 14) rfl (of_decide_eq_true rfl) rfl HSL.out ?_; rintro w2 g5 N5; have Q2 := Q1.new N5; clear N5)
    | ((with_reducible refine at_ld (w := w2) 45 (.tmp 2) ?_); have hq := Q2.at 0 rfl; refine load_arm rfl 45 (.tmp 2) rfl rfl (ld_a8 hq HH.out) ?_; clear hq; simp only [Act.put, List.setIfInBounds_toArray, List.set_cons_zero, List.set_cons_succ])
    | ((with_reducible refine at_al 45 ?_); refine new_a8 rfl rfl rfl rfl (.tmp 15) rfl (of_decide_eq_true rfl) rfl HH.out ?_; rintro w3 g6 N6; have Q3 := Q2.new N6; clear N6))
  have HQ3 := Aside0.mk Q3
  clear Q1 Q2 Q3
  go_loopw [16] (fun i wr => ∃ j : Nat, j ≤ 64 ∧ i = .int .i64 j ∧ Bag w wr [(w.heap.size, .cells (Us h).toArray 45 (0, 0)), (w.heap.size + 1, .cells (Us (List.replicate 8 0)).toArray 45 (0, 0)), (g5, .cells (Us ss).toArray 56 (0, 0)), (g6, .cells (Us (rounds ss h j)).toArray 45 (0, 0))]) (fun i _ => 64 - (intOf i).toNat)
  case atStart => exact ⟨0, by omega, rfl, HQ3.out⟩
  case round =>
    clear HQ3 Q0
    obtain ⟨j, hj, rfl, hQ⟩ := hrel
    have HQ := Aside0.mk hQ
    clear hQ
    by_cases hlt : j < 64
    · have HRL := Aside0.mk (rounds_len (w := ss) HH.out j)
      have HRW := Aside0.mk (rounds_ws (w := ss) HW.out j)
      have HKC : Aside0 (∀ W, Below wr.heap.size wr W → W.cell? ⟨0, j, none⟩ = some (.int .u32 (rd Kc j))) := ⟨fun W hW => (HK.out.below (HQ.out.below.trans (hW.mono HQ.out.below.size))) j hlt⟩
      have HWC : Aside0 (∀ W, Below wr.heap.size wr W → W.cell? ⟨g5, j, none⟩ = some (.int .u32 (rd ss j))) := ⟨fun W hW => us_cell (blk_below hW (HQ.out.at 2 rfl)) j (by rw [HSL.out]; omega)⟩
      have HN : Aside0 (rounds ss h (j + 1) = rnd (rounds ss h j) (rd Kc j) (rd ss j)) := ⟨rfl⟩
      generalize rounds ss h j = vv at *
      have V0 : Aside0 (∀ W, Below wr.heap.size wr W → W.cell? ⟨g6, 0, none⟩ = some (.int .u32 (rd vv 0))) := ⟨fun W hW => us_cell (blk_below hW (HQ.out.at 3 rfl)) 0 (by rw [HRL.out]; omega)⟩
      have V1 : Aside0 (∀ W, Below wr.heap.size wr W → W.cell? ⟨g6, 1, none⟩ = some (.int .u32 (rd vv 1))) := ⟨fun W hW => us_cell (blk_below hW (HQ.out.at 3 rfl)) 1 (by rw [HRL.out]; omega)⟩
      have V2 : Aside0 (∀ W, Below wr.heap.size wr W → W.cell? ⟨g6, 2, none⟩ = some (.int .u32 (rd vv 2))) := ⟨fun W hW => us_cell (blk_below hW (HQ.out.at 3 rfl)) 2 (by rw [HRL.out]; omega)⟩
      have V3 : Aside0 (∀ W, Below wr.heap.size wr W → W.cell? ⟨g6, 3, none⟩ = some (.int .u32 (rd vv 3))) := ⟨fun W hW => us_cell (blk_below hW (HQ.out.at 3 rfl)) 3 (by rw [HRL.out]; omega)⟩
      have V4 : Aside0 (∀ W, Below wr.heap.size wr W → W.cell? ⟨g6, 4, none⟩ = some (.int .u32 (rd vv 4))) := ⟨fun W hW => us_cell (blk_below hW (HQ.out.at 3 rfl)) 4 (by rw [HRL.out]; omega)⟩
      have V5 : Aside0 (∀ W, Below wr.heap.size wr W → W.cell? ⟨g6, 5, none⟩ = some (.int .u32 (rd vv 5))) := ⟨fun W hW => us_cell (blk_below hW (HQ.out.at 3 rfl)) 5 (by rw [HRL.out]; omega)⟩
      have V6 : Aside0 (∀ W, Below wr.heap.size wr W → W.cell? ⟨g6, 6, none⟩ = some (.int .u32 (rd vv 6))) := ⟨fun W hW => us_cell (blk_below hW (HQ.out.at 3 rfl)) 6 (by rw [HRL.out]; omega)⟩
      have V7 : Aside0 (∀ W, Below wr.heap.size wr W → W.cell? ⟨g6, 7, none⟩ = some (.int .u32 (rd vv 7))) := ⟨fun W hW => us_cell (blk_below hW (HQ.out.at 3 rfl)) 7 (by rw [HRL.out]; omega)⟩
      have HX6 : Aside0 (wr.heap[g6]? = some (.cells (Us vv).toArray 45 (0, 0))) := ⟨HQ.out.at 3 rfl⟩
      have HN2 : Aside0 (rounds ss h (j + 1) = [ad (ad (ad (ad (ad (rd vv 7) (bs1 (rd vv 4))) (ch (rd vv 4) (rd vv 5) (rd vv 6))) (rd Kc j)) (rd ss j)) (ad (bs0 (rd vv 0)) (maj (rd vv 0) (rd vv 1) (rd vv 2))), rd vv 0, rd vv 1, rd vv 2, ad (rd vv 3) (ad (ad (ad (ad (rd vv 7) (bs1 (rd vv 4))) (ch (rd vv 4) (rd vv 5) (rd vv 6))) (rd Kc j)) (rd ss j)), rd vv 4, rd vv 5, rd vv 6]) := ⟨by rw [HN.out]; rfl⟩
      have W4 := HRW.out.at_ 4
      have W0 := HRW.out.at_ 0
      generalize rd Kc j = kj at *
      generalize rd ss j = wj at *
      generalize hx0 : rd vv 0 = x0 at *
      generalize hx1 : rd vv 1 = x1 at *
      generalize hx2 : rd vv 2 = x2 at *
      generalize hx3 : rd vv 3 = x3 at *
      generalize hx4 : rd vv 4 = x4 at *
      generalize hx5 : rd vv 5 = x5 at *
      generalize hx6 : rd vv 6 = x6 at *
      generalize hx7 : rd vv 7 = x7 at *
      clear HN
      have hun := un_not x4 W4.1 W4.2
      have hltI : (j : Int) < 64 := by omega
      have D1 : Aside0 (Below wr.heap.size wr wr.drew) := ⟨Below.drew (Below.refl _ _)⟩
      have D2 : Aside0 (Below wr.heap.size wr wr.drew.drew) := ⟨Below.drew D1.out⟩
      have D3 : Aside0 (Below wr.heap.size wr wr.drew.drew.drew) := ⟨Below.drew D2.out⟩
      go_wp2
      refine seq_start [] (.take 0 (.take 1 (.take 2 (.take 3 (.take 4 (.take 5 .done)))))) (by kernel_rfl) (by kernel_rfl) (fun _ _ d _ _ h => by cases d <;> exact h) ?_
      refine seq_take (v := ?_) (a' := ?_) rfl rfl (by rfl) (fun w' hw' => ?_) ?_ ?_
      rotate_left 2
      · go_simp
        with_reducible rfl
      · simp only [Act.put, List.setIfInBounds_toArray, List.set_cons_zero, List.set_cons_succ, Go.Proofs.YtnfbficpodnglaaDoorW.PrintLast.i64_w, Go.Proofs.YtnfbficpodnglaaDoorW.PrintLast.i32_w]
        rfl
      refine seq_take (v := ?_) (a' := ?_) rfl rfl (by rfl) (fun w' hw' => ?_) ?_ ?_
      rotate_left 2
      · have hx := V4.out w' (D1.out.trans hw'); go_simp
        with_reducible rfl
      · simp only [Act.put, List.setIfInBounds_toArray, List.set_cons_zero, List.set_cons_succ, Go.Proofs.YtnfbficpodnglaaDoorW.PrintLast.i64_w, Go.Proofs.YtnfbficpodnglaaDoorW.PrintLast.i32_w]
        rfl
      refine seq_take (v := ?_) (a' := ?_) rfl rfl (by rfl) (fun w' hw' => ?_) ?_ ?_
      rotate_left 2
      · go_simp
        with_reducible rfl
      · simp only [Act.put, List.setIfInBounds_toArray, List.set_cons_zero, List.set_cons_succ, Go.Proofs.YtnfbficpodnglaaDoorW.PrintLast.i64_w, Go.Proofs.YtnfbficpodnglaaDoorW.PrintLast.i32_w]
        rfl
      refine seq_take (v := ?_) (a' := ?_) rfl rfl (by rfl) (fun w' hw' => ?_) ?_ ?_
      rotate_left 2
      · have hx := V0.out w' (D1.out.trans hw'); go_simp
        with_reducible rfl
      · simp only [Act.put, List.setIfInBounds_toArray, List.set_cons_zero, List.set_cons_succ, Go.Proofs.YtnfbficpodnglaaDoorW.PrintLast.i64_w, Go.Proofs.YtnfbficpodnglaaDoorW.PrintLast.i32_w]
        rfl
      refine seq_take (v := ?_) (a' := ?_) rfl rfl (by rfl) (fun w' hw' => ?_) ?_ ?_
      rotate_left 2
      · go_simp
        with_reducible rfl
      · simp only [Act.put, List.setIfInBounds_toArray, List.set_cons_zero, List.set_cons_succ, Go.Proofs.YtnfbficpodnglaaDoorW.PrintLast.i64_w, Go.Proofs.YtnfbficpodnglaaDoorW.PrintLast.i32_w]
        rfl
      refine seq_take (v := ?_) (a' := ?_) rfl rfl (by rfl) (fun w' hw' => ?_) ?_ ?_
      rotate_left 2
      · go_simp
        with_reducible rfl
      · simp only [Act.put, List.setIfInBounds_toArray, List.set_cons_zero, List.set_cons_succ, Go.Proofs.YtnfbficpodnglaaDoorW.PrintLast.i64_w, Go.Proofs.YtnfbficpodnglaaDoorW.PrintLast.i32_w]
        rfl
      refine seq_end ?_
      go_wp2
      refine seq_start [] (.take 0 (.take 1 (.take 2 (.take 3 (.take 4 (.take 5 (.take 6 (.take 7 (.take 8 (.take 9 (.take 10 (.take 11 (.take 12 (.take 13 (.take 14 (.take 15 (.take 16 (.take 17 (.take 18 (.take 19 (.take 20 (.take 21 (.take 22 (.take 23 (.take 24 .done))))))))))))))))))))))))) (by kernel_rfl) (by kernel_rfl) (fun _ _ d _ _ h => by cases d <;> exact h) ?_
      refine seq_take (v := ?_) (a' := ?_) rfl rfl (by rfl) (fun w' hw' => ?_) ?_ ?_
      rotate_left 2
      · go_simp
        with_reducible rfl
      · simp only [Act.put, List.setIfInBounds_toArray, List.set_cons_zero, List.set_cons_succ, Go.Proofs.YtnfbficpodnglaaDoorW.PrintLast.i64_w, Go.Proofs.YtnfbficpodnglaaDoorW.PrintLast.i32_w]
        rfl
      refine seq_take (v := ?_) (a' := ?_) rfl rfl (by rfl) (fun w' hw' => ?_) ?_ ?_
      rotate_left 2
      · have hx := V7.out w' (D2.out.trans hw'); go_simp
        with_reducible rfl
      · simp only [Act.put, List.setIfInBounds_toArray, List.set_cons_zero, List.set_cons_succ, Go.Proofs.YtnfbficpodnglaaDoorW.PrintLast.i64_w, Go.Proofs.YtnfbficpodnglaaDoorW.PrintLast.i32_w]
        rfl
      refine seq_take (v := ?_) (a' := ?_) rfl rfl (by rfl) (fun w' hw' => ?_) ?_ ?_
      rotate_left 2
      · go_simp
        with_reducible rfl
      · simp only [Act.put, List.setIfInBounds_toArray, List.set_cons_zero, List.set_cons_succ, Go.Proofs.YtnfbficpodnglaaDoorW.PrintLast.i64_w, Go.Proofs.YtnfbficpodnglaaDoorW.PrintLast.i32_w]
        rfl
      refine seq_quiet (v := ?_) (a' := ?_) rfl rfl (by rfl) rfl Tryd.func30 (by kernel_rfl) rfl #[.int .u32 x4, .int .i64 6, .int .i64 11, .int .i64 25] (by simp only [List.map_toArray, List.map_cons, List.map_nil]; rfl) (fun w' hw' => ?_) ?_ ?_
      rotate_left 2
      · with_reducible exact turnedE x4 w' W4.1 W4.2
      · simp only [Act.put, List.setIfInBounds_toArray, List.set_cons_zero, List.set_cons_succ, Go.Proofs.YtnfbficpodnglaaDoorW.PrintLast.i64_w, Go.Proofs.YtnfbficpodnglaaDoorW.PrintLast.i32_w]
        rfl
      refine seq_take (v := ?_) (a' := ?_) rfl rfl (by rfl) (fun w' hw' => ?_) ?_ ?_
      rotate_left 2
      · go_simp
        with_reducible rfl
      · simp only [Act.put, List.setIfInBounds_toArray, List.set_cons_zero, List.set_cons_succ, Go.Proofs.YtnfbficpodnglaaDoorW.PrintLast.i64_w, Go.Proofs.YtnfbficpodnglaaDoorW.PrintLast.i32_w]
        rfl
      refine seq_take (v := ?_) (a' := ?_) rfl rfl (by rfl) (fun w' hw' => ?_) ?_ ?_
      rotate_left 2
      · go_simp
        with_reducible rfl
      · simp only [Act.put, List.setIfInBounds_toArray, List.set_cons_zero, List.set_cons_succ, Go.Proofs.YtnfbficpodnglaaDoorW.PrintLast.i64_w, Go.Proofs.YtnfbficpodnglaaDoorW.PrintLast.i32_w]
        rfl
      refine seq_take (v := ?_) (a' := ?_) rfl rfl (by rfl) (fun w' hw' => ?_) ?_ ?_
      rotate_left 2
      · go_simp
        with_reducible rfl
      · simp only [Act.put, List.setIfInBounds_toArray, List.set_cons_zero, List.set_cons_succ, Go.Proofs.YtnfbficpodnglaaDoorW.PrintLast.i64_w, Go.Proofs.YtnfbficpodnglaaDoorW.PrintLast.i32_w]
        rfl
      refine seq_take (v := ?_) (a' := ?_) rfl rfl (by rfl) (fun w' hw' => ?_) ?_ ?_
      rotate_left 2
      · have hx := V5.out w' (D2.out.trans hw'); go_simp
        with_reducible rfl
      · simp only [Act.put, List.setIfInBounds_toArray, List.set_cons_zero, List.set_cons_succ, Go.Proofs.YtnfbficpodnglaaDoorW.PrintLast.i64_w, Go.Proofs.YtnfbficpodnglaaDoorW.PrintLast.i32_w]
        rfl
      refine seq_take (v := ?_) (a' := ?_) rfl rfl (by rfl) (fun w' hw' => ?_) ?_ ?_
      rotate_left 2
      · go_simp
        with_reducible rfl
      · simp only [Act.put, List.setIfInBounds_toArray, List.set_cons_zero, List.set_cons_succ, Go.Proofs.YtnfbficpodnglaaDoorW.PrintLast.i64_w, Go.Proofs.YtnfbficpodnglaaDoorW.PrintLast.i32_w]
        rfl
      refine seq_take (v := ?_) (a' := ?_) rfl rfl (by rfl) (fun w' hw' => ?_) ?_ ?_
      rotate_left 2
      · go_simp
        with_reducible rfl
      · simp only [Act.put, List.setIfInBounds_toArray, List.set_cons_zero, List.set_cons_succ, Go.Proofs.YtnfbficpodnglaaDoorW.PrintLast.i64_w, Go.Proofs.YtnfbficpodnglaaDoorW.PrintLast.i32_w]
        rfl
      refine seq_take (v := ?_) (a' := ?_) rfl rfl (by rfl) (fun w' hw' => ?_) ?_ ?_
      rotate_left 2
      · go_simp
        with_reducible rfl
      · simp only [Act.put, List.setIfInBounds_toArray, List.set_cons_zero, List.set_cons_succ, Go.Proofs.YtnfbficpodnglaaDoorW.PrintLast.i64_w, Go.Proofs.YtnfbficpodnglaaDoorW.PrintLast.i32_w]
        rfl
      refine seq_take (v := ?_) (a' := ?_) rfl rfl (by rfl) (fun w' hw' => ?_) ?_ ?_
      rotate_left 2
      · go_simp
        with_reducible rfl
      · simp only [Act.put, List.setIfInBounds_toArray, List.set_cons_zero, List.set_cons_succ, Go.Proofs.YtnfbficpodnglaaDoorW.PrintLast.i64_w, Go.Proofs.YtnfbficpodnglaaDoorW.PrintLast.i32_w]
        rfl
      refine seq_take (v := ?_) (a' := ?_) rfl rfl (by rfl) (fun w' hw' => ?_) ?_ ?_
      rotate_left 2
      · have hx := V6.out w' (D2.out.trans hw'); go_simp
        with_reducible rfl
      · simp only [Act.put, List.setIfInBounds_toArray, List.set_cons_zero, List.set_cons_succ, Go.Proofs.YtnfbficpodnglaaDoorW.PrintLast.i64_w, Go.Proofs.YtnfbficpodnglaaDoorW.PrintLast.i32_w]
        rfl
      refine seq_take (v := ?_) (a' := ?_) rfl rfl (by rfl) (fun w' hw' => ?_) ?_ ?_
      rotate_left 2
      · go_simp
        with_reducible rfl
      · simp only [Act.put, List.setIfInBounds_toArray, List.set_cons_zero, List.set_cons_succ, Go.Proofs.YtnfbficpodnglaaDoorW.PrintLast.i64_w, Go.Proofs.YtnfbficpodnglaaDoorW.PrintLast.i32_w]
        rfl
      refine seq_take (v := ?_) (a' := ?_) rfl rfl (by rfl) (fun w' hw' => ?_) ?_ ?_
      rotate_left 2
      · go_simp
        with_reducible rfl
      · simp only [Act.put, List.setIfInBounds_toArray, List.set_cons_zero, List.set_cons_succ, Go.Proofs.YtnfbficpodnglaaDoorW.PrintLast.i64_w, Go.Proofs.YtnfbficpodnglaaDoorW.PrintLast.i32_w]
        rfl
      refine seq_take (v := ?_) (a' := ?_) rfl rfl (by rfl) (fun w' hw' => ?_) ?_ ?_
      rotate_left 2
      · go_simp
        with_reducible rfl
      · simp only [Act.put, List.setIfInBounds_toArray, List.set_cons_zero, List.set_cons_succ, Go.Proofs.YtnfbficpodnglaaDoorW.PrintLast.i64_w, Go.Proofs.YtnfbficpodnglaaDoorW.PrintLast.i32_w]
        rfl
      refine seq_take (v := ?_) (a' := ?_) rfl rfl (by rfl) (fun w' hw' => ?_) ?_ ?_
      rotate_left 2
      · go_simp
        with_reducible rfl
      · simp only [Act.put, List.setIfInBounds_toArray, List.set_cons_zero, List.set_cons_succ, Go.Proofs.YtnfbficpodnglaaDoorW.PrintLast.i64_w, Go.Proofs.YtnfbficpodnglaaDoorW.PrintLast.i32_w]
        rfl
      refine seq_take (v := ?_) (a' := ?_) rfl rfl (by rfl) (fun w' hw' => ?_) ?_ ?_
      rotate_left 2
      · go_simp
        with_reducible rfl
      · simp only [Act.put, List.setIfInBounds_toArray, List.set_cons_zero, List.set_cons_succ, Go.Proofs.YtnfbficpodnglaaDoorW.PrintLast.i64_w, Go.Proofs.YtnfbficpodnglaaDoorW.PrintLast.i32_w]
        rfl
      refine seq_take (v := ?_) (a' := ?_) rfl rfl (by rfl) (fun w' hw' => ?_) ?_ ?_
      rotate_left 2
      · have hx := HKC.out w' (D2.out.trans hw'); go_simp
        with_reducible rfl
      · simp only [Act.put, List.setIfInBounds_toArray, List.set_cons_zero, List.set_cons_succ, Go.Proofs.YtnfbficpodnglaaDoorW.PrintLast.i64_w, Go.Proofs.YtnfbficpodnglaaDoorW.PrintLast.i32_w]
        rfl
      refine seq_take (v := ?_) (a' := ?_) rfl rfl (by rfl) (fun w' hw' => ?_) ?_ ?_
      rotate_left 2
      · go_simp
        with_reducible rfl
      · simp only [Act.put, List.setIfInBounds_toArray, List.set_cons_zero, List.set_cons_succ, Go.Proofs.YtnfbficpodnglaaDoorW.PrintLast.i64_w, Go.Proofs.YtnfbficpodnglaaDoorW.PrintLast.i32_w]
        rfl
      refine seq_take (v := ?_) (a' := ?_) rfl rfl (by rfl) (fun w' hw' => ?_) ?_ ?_
      rotate_left 2
      · go_simp
        with_reducible rfl
      · simp only [Act.put, List.setIfInBounds_toArray, List.set_cons_zero, List.set_cons_succ, Go.Proofs.YtnfbficpodnglaaDoorW.PrintLast.i64_w, Go.Proofs.YtnfbficpodnglaaDoorW.PrintLast.i32_w]
        rfl
      refine seq_take (v := ?_) (a' := ?_) rfl rfl (by rfl) (fun w' hw' => ?_) ?_ ?_
      rotate_left 2
      · go_simp
        with_reducible rfl
      · simp only [Act.put, List.setIfInBounds_toArray, List.set_cons_zero, List.set_cons_succ, Go.Proofs.YtnfbficpodnglaaDoorW.PrintLast.i64_w, Go.Proofs.YtnfbficpodnglaaDoorW.PrintLast.i32_w]
        rfl
      refine seq_take (v := ?_) (a' := ?_) rfl rfl (by rfl) (fun w' hw' => ?_) ?_ ?_
      rotate_left 2
      · have hx := HWC.out w' (D2.out.trans hw'); go_simp
        with_reducible rfl
      · simp only [Act.put, List.setIfInBounds_toArray, List.set_cons_zero, List.set_cons_succ, Go.Proofs.YtnfbficpodnglaaDoorW.PrintLast.i64_w, Go.Proofs.YtnfbficpodnglaaDoorW.PrintLast.i32_w]
        rfl
      refine seq_take (v := ?_) (a' := ?_) rfl rfl (by rfl) (fun w' hw' => ?_) ?_ ?_
      rotate_left 2
      · go_simp
        with_reducible rfl
      · simp only [Act.put, List.setIfInBounds_toArray, List.set_cons_zero, List.set_cons_succ, Go.Proofs.YtnfbficpodnglaaDoorW.PrintLast.i64_w, Go.Proofs.YtnfbficpodnglaaDoorW.PrintLast.i32_w]
        rfl
      refine seq_take (v := ?_) (a' := ?_) rfl rfl (by rfl) (fun w' hw' => ?_) ?_ ?_
      rotate_left 2
      · go_simp
        with_reducible rfl
      · simp only [Act.put, List.setIfInBounds_toArray, List.set_cons_zero, List.set_cons_succ, Go.Proofs.YtnfbficpodnglaaDoorW.PrintLast.i64_w, Go.Proofs.YtnfbficpodnglaaDoorW.PrintLast.i32_w]
        rfl
      refine seq_end ?_
      go_wp2
      refine seq_start [] (.take 0 (.take 1 (.take 2 (.take 3 (.take 4 (.take 5 (.take 6 (.take 7 (.take 8 (.take 9 (.take 10 (.take 11 (.take 12 (.take 13 (.take 14 (.take 15 (.take 16 (.take 17 (.take 18 .done))))))))))))))))))) (by kernel_rfl) (by kernel_rfl) (fun _ _ d _ _ h => by cases d <;> exact h) ?_
      refine seq_take (v := ?_) (a' := ?_) rfl rfl (by rfl) (fun w' hw' => ?_) ?_ ?_
      rotate_left 2
      · go_simp
        with_reducible rfl
      · simp only [Act.put, List.setIfInBounds_toArray, List.set_cons_zero, List.set_cons_succ, Go.Proofs.YtnfbficpodnglaaDoorW.PrintLast.i64_w, Go.Proofs.YtnfbficpodnglaaDoorW.PrintLast.i32_w]
        rfl
      refine seq_quiet (v := ?_) (a' := ?_) rfl rfl (by rfl) rfl Tryd.func30 (by kernel_rfl) rfl #[.int .u32 x0, .int .i64 2, .int .i64 13, .int .i64 22] (by simp only [List.map_toArray, List.map_cons, List.map_nil]; rfl) (fun w' hw' => ?_) ?_ ?_
      rotate_left 2
      · with_reducible exact turnedA x0 w' W0.1 W0.2
      · simp only [Act.put, List.setIfInBounds_toArray, List.set_cons_zero, List.set_cons_succ, Go.Proofs.YtnfbficpodnglaaDoorW.PrintLast.i64_w, Go.Proofs.YtnfbficpodnglaaDoorW.PrintLast.i32_w]
        rfl
      refine seq_take (v := ?_) (a' := ?_) rfl rfl (by rfl) (fun w' hw' => ?_) ?_ ?_
      rotate_left 2
      · go_simp
        with_reducible rfl
      · simp only [Act.put, List.setIfInBounds_toArray, List.set_cons_zero, List.set_cons_succ, Go.Proofs.YtnfbficpodnglaaDoorW.PrintLast.i64_w, Go.Proofs.YtnfbficpodnglaaDoorW.PrintLast.i32_w]
        rfl
      refine seq_take (v := ?_) (a' := ?_) rfl rfl (by rfl) (fun w' hw' => ?_) ?_ ?_
      rotate_left 2
      · go_simp
        with_reducible rfl
      · simp only [Act.put, List.setIfInBounds_toArray, List.set_cons_zero, List.set_cons_succ, Go.Proofs.YtnfbficpodnglaaDoorW.PrintLast.i64_w, Go.Proofs.YtnfbficpodnglaaDoorW.PrintLast.i32_w]
        rfl
      refine seq_take (v := ?_) (a' := ?_) rfl rfl (by rfl) (fun w' hw' => ?_) ?_ ?_
      rotate_left 2
      · have hx := V1.out w' (D3.out.trans hw'); go_simp
        with_reducible rfl
      · simp only [Act.put, List.setIfInBounds_toArray, List.set_cons_zero, List.set_cons_succ, Go.Proofs.YtnfbficpodnglaaDoorW.PrintLast.i64_w, Go.Proofs.YtnfbficpodnglaaDoorW.PrintLast.i32_w]
        rfl
      refine seq_take (v := ?_) (a' := ?_) rfl rfl (by rfl) (fun w' hw' => ?_) ?_ ?_
      rotate_left 2
      · go_simp
        with_reducible rfl
      · simp only [Act.put, List.setIfInBounds_toArray, List.set_cons_zero, List.set_cons_succ, Go.Proofs.YtnfbficpodnglaaDoorW.PrintLast.i64_w, Go.Proofs.YtnfbficpodnglaaDoorW.PrintLast.i32_w]
        rfl
      refine seq_take (v := ?_) (a' := ?_) rfl rfl (by rfl) (fun w' hw' => ?_) ?_ ?_
      rotate_left 2
      · go_simp
        with_reducible rfl
      · simp only [Act.put, List.setIfInBounds_toArray, List.set_cons_zero, List.set_cons_succ, Go.Proofs.YtnfbficpodnglaaDoorW.PrintLast.i64_w, Go.Proofs.YtnfbficpodnglaaDoorW.PrintLast.i32_w]
        rfl
      refine seq_take (v := ?_) (a' := ?_) rfl rfl (by rfl) (fun w' hw' => ?_) ?_ ?_
      rotate_left 2
      · go_simp
        with_reducible rfl
      · simp only [Act.put, List.setIfInBounds_toArray, List.set_cons_zero, List.set_cons_succ, Go.Proofs.YtnfbficpodnglaaDoorW.PrintLast.i64_w, Go.Proofs.YtnfbficpodnglaaDoorW.PrintLast.i32_w]
        rfl
      refine seq_take (v := ?_) (a' := ?_) rfl rfl (by rfl) (fun w' hw' => ?_) ?_ ?_
      rotate_left 2
      · have hx := V2.out w' (D3.out.trans hw'); go_simp
        with_reducible rfl
      · simp only [Act.put, List.setIfInBounds_toArray, List.set_cons_zero, List.set_cons_succ, Go.Proofs.YtnfbficpodnglaaDoorW.PrintLast.i64_w, Go.Proofs.YtnfbficpodnglaaDoorW.PrintLast.i32_w]
        rfl
      refine seq_take (v := ?_) (a' := ?_) rfl rfl (by rfl) (fun w' hw' => ?_) ?_ ?_
      rotate_left 2
      · go_simp
        with_reducible rfl
      · simp only [Act.put, List.setIfInBounds_toArray, List.set_cons_zero, List.set_cons_succ, Go.Proofs.YtnfbficpodnglaaDoorW.PrintLast.i64_w, Go.Proofs.YtnfbficpodnglaaDoorW.PrintLast.i32_w]
        rfl
      refine seq_take (v := ?_) (a' := ?_) rfl rfl (by rfl) (fun w' hw' => ?_) ?_ ?_
      rotate_left 2
      · go_simp
        with_reducible rfl
      · simp only [Act.put, List.setIfInBounds_toArray, List.set_cons_zero, List.set_cons_succ, Go.Proofs.YtnfbficpodnglaaDoorW.PrintLast.i64_w, Go.Proofs.YtnfbficpodnglaaDoorW.PrintLast.i32_w]
        rfl
      refine seq_take (v := ?_) (a' := ?_) rfl rfl (by rfl) (fun w' hw' => ?_) ?_ ?_
      rotate_left 2
      · go_simp
        with_reducible rfl
      · simp only [Act.put, List.setIfInBounds_toArray, List.set_cons_zero, List.set_cons_succ, Go.Proofs.YtnfbficpodnglaaDoorW.PrintLast.i64_w, Go.Proofs.YtnfbficpodnglaaDoorW.PrintLast.i32_w]
        rfl
      refine seq_take (v := ?_) (a' := ?_) rfl rfl (by rfl) (fun w' hw' => ?_) ?_ ?_
      rotate_left 2
      · have hx := V1.out w' (D3.out.trans hw'); go_simp
        with_reducible rfl
      · simp only [Act.put, List.setIfInBounds_toArray, List.set_cons_zero, List.set_cons_succ, Go.Proofs.YtnfbficpodnglaaDoorW.PrintLast.i64_w, Go.Proofs.YtnfbficpodnglaaDoorW.PrintLast.i32_w]
        rfl
      refine seq_take (v := ?_) (a' := ?_) rfl rfl (by rfl) (fun w' hw' => ?_) ?_ ?_
      rotate_left 2
      · go_simp
        with_reducible rfl
      · simp only [Act.put, List.setIfInBounds_toArray, List.set_cons_zero, List.set_cons_succ, Go.Proofs.YtnfbficpodnglaaDoorW.PrintLast.i64_w, Go.Proofs.YtnfbficpodnglaaDoorW.PrintLast.i32_w]
        rfl
      refine seq_take (v := ?_) (a' := ?_) rfl rfl (by rfl) (fun w' hw' => ?_) ?_ ?_
      rotate_left 2
      · have hx := V2.out w' (D3.out.trans hw'); go_simp
        with_reducible rfl
      · simp only [Act.put, List.setIfInBounds_toArray, List.set_cons_zero, List.set_cons_succ, Go.Proofs.YtnfbficpodnglaaDoorW.PrintLast.i64_w, Go.Proofs.YtnfbficpodnglaaDoorW.PrintLast.i32_w]
        rfl
      refine seq_take (v := ?_) (a' := ?_) rfl rfl (by rfl) (fun w' hw' => ?_) ?_ ?_
      rotate_left 2
      · go_simp
        with_reducible rfl
      · simp only [Act.put, List.setIfInBounds_toArray, List.set_cons_zero, List.set_cons_succ, Go.Proofs.YtnfbficpodnglaaDoorW.PrintLast.i64_w, Go.Proofs.YtnfbficpodnglaaDoorW.PrintLast.i32_w]
        rfl
      refine seq_take (v := ?_) (a' := ?_) rfl rfl (by rfl) (fun w' hw' => ?_) ?_ ?_
      rotate_left 2
      · go_simp
        with_reducible rfl
      · simp only [Act.put, List.setIfInBounds_toArray, List.set_cons_zero, List.set_cons_succ, Go.Proofs.YtnfbficpodnglaaDoorW.PrintLast.i64_w, Go.Proofs.YtnfbficpodnglaaDoorW.PrintLast.i32_w]
        rfl
      refine seq_take (v := ?_) (a' := ?_) rfl rfl (by rfl) (fun w' hw' => ?_) ?_ ?_
      rotate_left 2
      · go_simp
        with_reducible rfl
      · simp only [Act.put, List.setIfInBounds_toArray, List.set_cons_zero, List.set_cons_succ, Go.Proofs.YtnfbficpodnglaaDoorW.PrintLast.i64_w, Go.Proofs.YtnfbficpodnglaaDoorW.PrintLast.i32_w]
        rfl
      refine seq_take (v := ?_) (a' := ?_) rfl rfl (by rfl) (fun w' hw' => ?_) ?_ ?_
      rotate_left 2
      · go_simp
        with_reducible rfl
      · simp only [Act.put, List.setIfInBounds_toArray, List.set_cons_zero, List.set_cons_succ, Go.Proofs.YtnfbficpodnglaaDoorW.PrintLast.i64_w, Go.Proofs.YtnfbficpodnglaaDoorW.PrintLast.i32_w]
        rfl
      refine seq_end ?_
      simp only [wrap_ad]
      have HT0 : Aside0 (∀ T U, ad (ad (ad (ad x7 (bs1 x4)) (Go.bits .xor .u32 (Go.bits .and .u32 x4 x5) (Go.bits .and .u32 (4294967295 - x4) x6))) kj) wj = T → ad (bs0 x0) (Go.bits .xor .u32 (Go.bits .xor .u32 (Go.bits .and .u32 x0 x1) (Go.bits .and .u32 x0 x2)) (Go.bits .and .u32 x1 x2)) = U → rounds ss h (j + 1) = [ad T U, x0, x1, x2, ad x3 T, x4, x5, x6]) := ⟨fun T U hT hU => by
        rw [← hT, ← hU]
        exact HN2.out⟩
      generalize hT : ad (ad (ad (ad x7 (bs1 x4)) (Go.bits .xor .u32 (Go.bits .and .u32 x4 x5) (Go.bits .and .u32 (4294967295 - x4) x6))) kj) wj = T
      generalize hU : ad (bs0 x0) (Go.bits .xor .u32 (Go.bits .xor .u32 (Go.bits .and .u32 x0 x1) (Go.bits .and .u32 x0 x2)) (Go.bits .and .u32 x1 x2)) = U
      have HN3 := Aside0.mk (HT0.out T U hT hU)
      have HQD := Aside0.mk HQ.out.drew.drew.drew
      obtain ⟨c0, c1, c2, c3⟩ : wr.cell? ⟨g6, 0, none⟩ = some (.int .u32 x0) ∧ wr.cell? ⟨g6, 1, none⟩ = some (.int .u32 x1) ∧ wr.cell? ⟨g6, 2, none⟩ = some (.int .u32 x2) ∧ wr.cell? ⟨g6, 3, none⟩ = some (.int .u32 x3) := ⟨V0.out wr (Below.refl _ _), V1.out wr (Below.refl _ _), V2.out wr (Below.refl _ _), V3.out wr (Below.refl _ _)⟩
      obtain ⟨c4, c5, c6⟩ : wr.cell? ⟨g6, 4, none⟩ = some (.int .u32 x4) ∧ wr.cell? ⟨g6, 5, none⟩ = some (.int .u32 x5) ∧ wr.cell? ⟨g6, 6, none⟩ = some (.int .u32 x6) := ⟨V4.out wr (Below.refl _ _), V5.out wr (Below.refl _ _), V6.out wr (Below.refl _ _)⟩
      clear hT hU hun HT0 HN2 W4 W0
      go_wp2_with (first
        | ((with_reducible refine at_bd 45 ?_); refine build_arm rfl 45 _ rfl (built_a8 (ad T U) x0 x1 x2 (ad x3 T) x4 x5 x6) ?_; simp only [Act.put, List.setIfInBounds_toArray, List.set_cons_zero, List.set_cons_succ])
        | ((with_reducible refine at_st 45 (.tmp 6) (.tmp 84) ?_); refine store_blk rfl 45 (.tmp 6) (.tmp 84) rfl rfl rfl (HQD.out.at 3 rfl) (by rw [List.size_toArray, Us_len, Us_len, HRL.out]; rfl) (size_a8 _ rfl) (Us_one _) ?_; rintro w4 HS))
      have Q4 := HQD.out.set 3 rfl HS
      go_roundw
      case rel => exact ⟨j + 1, by omega, by go_num, by rw [HN3.out]; exact Q4⟩
      case measure => simp [intOf]; omega
    · obtain rfl : j = 64 := by omega
      have HRL := rounds_len (w := ss) HH.out 64
      generalize rounds ss h 64 = vv at *
      clear hj hlt
      go_wp2
      go_loopw [86] (fun i wr => ∃ j : Nat, j ≤ 8 ∧ i = .int .i64 j ∧ Bag w wr [(w.heap.size, .cells (Us h).toArray 45 (0, 0)), (w.heap.size + 1, .cells (Us (List.replicate 8 0)).toArray 45 (0, 0)), (g5, .cells (Us ss).toArray 56 (0, 0)), (g6, .cells (Us (fins h vv j)).toArray 45 (0, 0))]) (fun i _ => 8 - (intOf i).toNat)
      case atStart => exact ⟨0, by omega, rfl, HQ.out⟩
      case round =>
        clear HQ
        obtain ⟨j, hj, rfl, hQ⟩ := hrel
        have HQ := Aside0.mk hQ
        clear hQ
        have HLn := Aside0.mk ((fins_len h vv j).trans HRL)
        by_cases hlt : j < 8
        · have HF : Aside0 (fins h vv (j + 1) = (fins h vv j).set j (ad (rd (fins h vv j) j) (rd h j))) := ⟨rfl⟩
          have HXV : Aside0 (∀ W, Below wr.heap.size wr W → W.cell? ⟨g6, j, none⟩ = some (.int .u32 (rd (fins h vv j) j))) := ⟨fun W hW => us_cell (blk_below hW (HQ.out.at 3 rfl)) j (by rw [HLn.out]; omega)⟩
          have HXH : Aside0 (∀ W, Below wr.heap.size wr W → W.cell? ⟨w.heap.size, j, none⟩ = some (.int .u32 (rd h j))) := ⟨fun W hW => us_cell (blk_below hW (HQ.out.at 0 rfl)) j (by rw [HH.out]; omega)⟩
          have HST := Aside0.mk (us_set (HQ.out.at 3 rfl) j (ad (rd (fins h vv j) j) (rd h j)))
          have hfz : wr.frozen? ⟨g6, j, none⟩ = false := blk_frozen (HQ.out.at 3 rfl) _
          have hltI : (j : Int) < 8 := by omega
          rw [← HF.out] at HST
          generalize rd (fins h vv j) j = xv at *
          generalize rd h j = xh at *
          have HQS := Aside0.mk (HQ.out.set 3 rfl HST.out)
          have D1 : Aside0 (Below wr.heap.size wr wr.drew) := ⟨Below.drew (Below.refl _ _)⟩
          have hcv := HXV.out wr (Below.refl _ _)
          clear HST HF
          go_wp2
          refine seq_start [8] (.take 0 (.take 1 (.take 2 (.take 3 (.take 4 (.take 5 (.take 6 (.take 7 (.run 8 .done))))))))) (by kernel_rfl) (by kernel_rfl) (fun _ _ d _ _ h => by cases d <;> exact h) ?_
          refine seq_take (v := ?_) (a' := ?_) rfl rfl (by rfl) (fun w' hw' => ?_) ?_ ?_
          rotate_left 2
          · go_simp
            with_reducible rfl
          · simp only [Act.put, List.setIfInBounds_toArray, List.set_cons_zero, List.set_cons_succ, Go.Proofs.YtnfbficpodnglaaDoorW.PrintLast.i64_w, Go.Proofs.YtnfbficpodnglaaDoorW.PrintLast.i32_w]
            rfl
          refine seq_take (v := ?_) (a' := ?_) rfl rfl (by rfl) (fun w' hw' => ?_) ?_ ?_
          rotate_left 2
          · go_simp
            with_reducible rfl
          · simp only [Act.put, List.setIfInBounds_toArray, List.set_cons_zero, List.set_cons_succ, Go.Proofs.YtnfbficpodnglaaDoorW.PrintLast.i64_w, Go.Proofs.YtnfbficpodnglaaDoorW.PrintLast.i32_w]
            rfl
          refine seq_take (v := ?_) (a' := ?_) rfl rfl (by rfl) (fun w' hw' => ?_) ?_ ?_
          rotate_left 2
          · have hx := HXV.out w' (D1.out.trans hw'); go_simp
            with_reducible rfl
          · simp only [Act.put, List.setIfInBounds_toArray, List.set_cons_zero, List.set_cons_succ, Go.Proofs.YtnfbficpodnglaaDoorW.PrintLast.i64_w, Go.Proofs.YtnfbficpodnglaaDoorW.PrintLast.i32_w]
            rfl
          refine seq_take (v := ?_) (a' := ?_) rfl rfl (by rfl) (fun w' hw' => ?_) ?_ ?_
          rotate_left 2
          · go_simp
            with_reducible rfl
          · simp only [Act.put, List.setIfInBounds_toArray, List.set_cons_zero, List.set_cons_succ, Go.Proofs.YtnfbficpodnglaaDoorW.PrintLast.i64_w, Go.Proofs.YtnfbficpodnglaaDoorW.PrintLast.i32_w]
            rfl
          refine seq_take (v := ?_) (a' := ?_) rfl rfl (by rfl) (fun w' hw' => ?_) ?_ ?_
          rotate_left 2
          · go_simp
            with_reducible rfl
          · simp only [Act.put, List.setIfInBounds_toArray, List.set_cons_zero, List.set_cons_succ, Go.Proofs.YtnfbficpodnglaaDoorW.PrintLast.i64_w, Go.Proofs.YtnfbficpodnglaaDoorW.PrintLast.i32_w]
            rfl
          refine seq_take (v := ?_) (a' := ?_) rfl rfl (by rfl) (fun w' hw' => ?_) ?_ ?_
          rotate_left 2
          · have hx := HXH.out w' (D1.out.trans hw'); go_simp
            with_reducible rfl
          · simp only [Act.put, List.setIfInBounds_toArray, List.set_cons_zero, List.set_cons_succ, Go.Proofs.YtnfbficpodnglaaDoorW.PrintLast.i64_w, Go.Proofs.YtnfbficpodnglaaDoorW.PrintLast.i32_w]
            rfl
          refine seq_take (v := ?_) (a' := ?_) rfl rfl (by rfl) (fun w' hw' => ?_) ?_ ?_
          rotate_left 2
          · go_simp
            with_reducible rfl
          · simp only [Act.put, List.setIfInBounds_toArray, List.set_cons_zero, List.set_cons_succ, Go.Proofs.YtnfbficpodnglaaDoorW.PrintLast.i64_w, Go.Proofs.YtnfbficpodnglaaDoorW.PrintLast.i32_w]
            rfl
          refine seq_take (v := ?_) (a' := ?_) rfl rfl (by rfl) (fun w' hw' => ?_) ?_ ?_
          rotate_left 2
          · go_simp
            with_reducible rfl
          · simp only [Act.put, List.setIfInBounds_toArray, List.set_cons_zero, List.set_cons_succ, Go.Proofs.YtnfbficpodnglaaDoorW.PrintLast.i64_w, Go.Proofs.YtnfbficpodnglaaDoorW.PrintLast.i32_w]
            rfl
          refine seq_run ?_
          refine do_store (w1 := ?_) rfl rfl (by rfl) ?_ ?_
          rotate_left
          · go_simp
            rfl
          refine ⟨fun h => absurd (by simp) h, ?_⟩
          refine seq_end ?_
          go_wp2
          go_roundw
          case rel => exact ⟨j + 1, by omega, by go_num, HQS.out.drew⟩
          case measure => simp [intOf]; omega
        · obtain rfl : j = 8 := by omega
          obtain ⟨S, HS0⟩ : ∃ S, Aside0 (S = fins h vv 8) := ⟨_, ⟨rfl⟩⟩
          rw [← HS0.out] at HQ HLn
          have hn8 := HLn.out
          have hst := st_row (P := Tryd.prog) (HQ.out.at 1 rfl) 45 (Us S) (by rw [List.size_toArray, Us_len, Us_len, hn8, List.length_replicate]) (size_a8 S hn8) (Us_one _)
          have hld := ld_a8 (HQ.out.at 3 rfl) hn8
          have hset := setBlk_cells (HQ.out.at 1 rfl) (Us S) (by rw [List.size_toArray, Us_len, Us_len, hn8, List.length_replicate])
          generalize wr.setCells (w.heap.size + 1) 0 (Us S) = w2 at *
          have Q9 := HQ.out.set 1 rfl hset
          have HST := Aside0.mk hst
          have HLD := Aside0.mk hld
          have H2 := Aside0.mk hset
          clear hst hld hset
          go_wp2_with (first | (refine load_arm rfl 45 (.tmp 6) rfl rfl HLD.out ?_) | (refine store_arm rfl 45 (.tmp 4) (.tmp 98) rfl rfl rfl HST.out ?_))
          (try simp only [Exit.inBlock, Exit.then])
          refine bodyPost_ret (v := .agg (Us S).toArray) (results_cell_row rfl _ _ (w.heap.size + 1) _ _ _ _ rfl H2.out.at_ Tryd.underlying45 rfl ?_) rfl ⟨by rw [HCP.out, HS0.out], Q9.below⟩
          rw [size_a8 S hn8, List.size_toArray]
end Go.Proofs.YtnfbficpodnglaaDoor
