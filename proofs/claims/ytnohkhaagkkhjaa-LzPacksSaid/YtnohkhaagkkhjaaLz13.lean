/- The law LzPacks: its walk. Conditions: what each argument reads. -/
import Derived.Test.YtnohkhaagkkhjaaLz11
import Derived.Test.YtnohkhaagkkhjaaLz12
namespace Go.Proofs.Ytnohkhaagkkhjaa
open Go.RowKit Go.Shelf Go.Proofs.YtnohkhaagkkhjaaW.PrintWords Go.Proofs.YtnohkhaagkkhjaaW.PrintMore
set_option linter.unusedVariables false
set_option linter.unusedSimpArgs false
theorem pk_wrap (n : Nat) (h : n ≤ 359) : ((n : Int) + 127).tdiv 128 = ((n : Int) + 127) / 128 ∧ wrap64 ((n : Int) + 127) = (n : Int) + 127 ∧ wrap64 (((n : Int) + 127) / 128) = ((n : Int) + 127) / 128 ∧ wrap64 ((n : Int) + ((n : Int) + 127) / 128) = (n : Int) + ((n : Int) + 127) / 128 :=
  ⟨Int.tdiv_eq_ediv_of_nonneg (by omega), by unfold wrap64; omega, by unfold wrap64; omega, by unfold wrap64; omega⟩
theorem pk_le (Y : List Int) : ¬ ((Y.length : Int) + ((Y.length : Int) + 127) / 128 < ((packL Y).length : Int)) := by
  have := pack_len Y
  omega
set_option maxRecDepth 20000 in
set_option maxHeartbeats 3200000 in
theorem lzPacks_walk (A1 A2 : Option Addr) (n1 c1 n2 c2 : Nat) (xb xl : List Int) (w : World) (h1 : RdB w A1 n1 xb) (hc1 : n1 ≤ c1) (hb1 : Bytes xb) (h2 : RdN w A2 n2 xl) :
    Calls Try.prog 4 #[.slice A1 n1 c1, .slice A2 n2 c2] w fun e w' => e = .returned (.bool true) ∧ Below w.heap.size w w' := by
  have H1 := Aside0.mk h1
  have H2 := Aside0.mk h2
  clear h1 h2
  go_enter Try.func4, Try.ntmps4
  go_wp2_with (first
    | (go_at_call 9; (with_reducible refine at_cw w ?_); refine (few_new A1 n1 c1 xb 200 w H1.out hc1 hb1 (by omega) (by omega)).mono ?_; rintro e w1 ⟨BX, dX, X, rfl, E_X, hby, O_X, hd_X, hyl, R_X, hB⟩; have L1 : Aside0 (Later w w1) := ⟨hB⟩; have Y_X : Aside0 (Bytes X ∧ X.length ≤ 200) := ⟨hby, hyl⟩; have D_X := Aside0.mk hd_X; clear hB hby hyl hd_X)
    | (go_at_call 10; (with_reducible refine at_cw w1 ?_); refine (made_calls A2 n2 c2 xl w1 (Kd.C_below H2.out L1.out)).mono ?_; rintro e w3 ⟨BZ, dZ, Z, rfl, hby, O_Z, hdM, hlM, R_Z, hB⟩; have L3 : Aside0 (Later w1 w3) := ⟨hB⟩; have Y_Z := Aside0.mk hby; clear hB hby))
  obtain ⟨w4, hw4, L4, HC4⟩ : ∃ w4, w4 = w3.alloc (.cells #[.slice BX X.length dX, .slice BZ Z.length dZ] 22) ∧ Aside0 (Later w3 w4) ∧ Aside0 (w4.heap[w3.heap.size]? = some (.cells #[.slice BX X.length dX, .slice BZ Z.length dZ] 22 (0, 0))) := ⟨_, rfl, ⟨below_alloc (Below.refl _ _) _⟩, ⟨blk_new w3 _⟩⟩
  rw [← hw4]
  have GX := Aside0.mk ((OwB.gv O_X.out Y_X.out.1 (Nat.le_trans Y_X.out.2 (by omega) : X.length ≤ 359)).later (Later.trans L3.out L4.out))
  have GZ := Aside0.mk ((OwB.gv O_Z.out Y_Z.out hlM).later L4.out)
  have GK : Aside0 (∀ k, k < 2 → ∃ B d X, w4.cell? ⟨w3.heap.size, k, none⟩ = some (.slice B X.length d) ∧ Gv w4 B d X 359) := ⟨fun k hk => by
    rcases k with _ | k
    · exact ⟨BX, dX, X, by rw [blk_cell HC4.out]; rfl, GX.out⟩
    · obtain rfl : k = 0 := by omega
      exact ⟨BZ, dZ, Z, by rw [blk_cell HC4.out]; rfl, GZ.out⟩⟩
  have LW : Aside0 (Later w w4) := ⟨Later.trans L1.out (Later.trans L3.out L4.out)⟩
  clear hw4 GX GZ HC4 O_X O_Z R_X R_Z E_X L1 L3 L4 Y_X Y_Z D_X hdM hlM
  go_loopw [6, 7, 8, 9] (fun k _ _ _ wr => ∃ j : Nat, j ≤ 2 ∧ k = .int .i64 j ∧ Below w4.heap.size w4 wr) (fun k _ _ _ _ => 2 - (intOf k).toNat)
  case atStart => exact ⟨0, by omega, rfl, Below.refl _ _⟩
  case round =>
    obtain ⟨k, hk, rfl, hB⟩ := hrel
    have HB := Aside0.mk hB
    clear hB
    by_cases hk2 : k < 2
    · have hk2I : (k : Int) < 2 := by omega
      obtain ⟨B, d, Y, hcell0, hg⟩ := GK.out k hk2
      have HG := Aside0.mk (hg.later HB.out)
      have hYl := hg.len
      have hcell := pw_cell_below HB.out hcell0
      have HU : Aside0 (unp (Y.length : Int) (packL Y) = ⟨Y, 0⟩) := ⟨by rw [unp_pack _ (by omega), if_pos (by omega)]⟩
      have hpl := pack_len Y
      have HPB := Aside0.mk (packL_bytes hg.by_)
      clear hcell0 hg
      go_wp2_with (first
        | (go_at_call 14; (with_reducible refine at_cw wr ?_); refine (pack_calls B Y.length d Y wr HG.out.rd HG.out.at_ HG.out.by_ HG.out.le (by omega)).mono ?_; rintro e w5 ⟨v, rfl, hQ, hB⟩; obtain ⟨AP, cP, rfl, hcP, hrP⟩ := hQ.reads; have L5 : Aside0 (Later wr w5) := ⟨hB⟩; have R_P := Aside0.mk hrP; have hcell5 := pw_cell_below hB hcell; clear hQ hB hrP)
        | (go_at_call 15; (with_reducible refine at_cw w5 ?_); refine (unpack_calls AP (packL Y).length cP (packL Y) (Y.length : Int) w5 R_P.out HPB.out hcP (by omega)).mono ?_; rw [HU.out]; rintro e w6 hp; obtain ⟨AX, dX, rfl, _, hrX, hbX, hdX, hB⟩ := hp.get; have L6 : Aside0 (Later w5 w6) := ⟨hB⟩; have R_U := Aside0.mk hrX; have HC6 := Aside0.mk (pw_cell_below hB hcell5); clear hp hB hrX))
      have HCD := Aside0.mk ((World.cell?_drew w6 _).trans HC6.out)
      have HPD := Aside0.mk (Kd.C_drew (Kd.C_below R_P.out L6.out))
      have HG6 := Aside0.mk (HG.out.later (Later.trans L5.out (Later.trans L6.out (Below.drew (Later.refl w6)))))
      have HUD := Aside0.mk (Kd.C_drew R_U.out)
      refine seq_start [] (.take 0 (.take 1 (.take 2 (.take 3 (.take 4 (.take 5 (.run 6 (.take 7 (.take 8 (.take 9 (.take 10 (.take 11 (.take 12 (.take 13 (.take 14 (.take 15 (.take 16 (.take 17 (.take 18 (.take 19 (.take 20 (.take 21 (.take 22 (.take 23 (.take 24 (.take 25 (.take 26 (.take 27 (.take 28 (.take 29 (.take 30 (.take 31 (.take 32 (.take 33 (.take 34 (.take 35 (.take 36 (.take 37 (.take 38 (.take 39 (.take 40 .done))))))))))))))))))))))))))))))))))))))))) (by kernel_rfl) (by kernel_rfl) (fun _ _ d _ _ h => by cases d <;> exact h) ?_
      refine seq_take (v := ?_) (a' := ?_) rfl rfl (by rfl) (fun w' hw' => ?_) ?_ ?_
      rotate_left 2
      · go_simp
        with_reducible rfl
      · simp only [Act.put, List.setIfInBounds_toArray, List.set_cons_zero, List.set_cons_succ, Go.Proofs.YtnohkhaagkkhjaaW.PrintLast.i64_w, Go.Proofs.YtnohkhaagkkhjaaW.PrintLast.i32_w]
        rfl
      refine seq_take (v := ?_) (a' := ?_) rfl rfl (by rfl) (fun w' hw' => ?_) ?_ ?_
      rotate_left 2
      · have he := conv_str (Kd.C_below HPD.out hw') cP; go_simp
        with_reducible rfl
      · simp only [Act.put, List.setIfInBounds_toArray, List.set_cons_zero, List.set_cons_succ, Go.Proofs.YtnohkhaagkkhjaaW.PrintLast.i64_w, Go.Proofs.YtnohkhaagkkhjaaW.PrintLast.i32_w]
        rfl
      refine seq_take (v := ?_) (a' := ?_) rfl rfl (by rfl) (fun w' hw' => ?_) ?_ ?_
      rotate_left 2
      · go_simp
        with_reducible rfl
      · simp only [Act.put, List.setIfInBounds_toArray, List.set_cons_zero, List.set_cons_succ, Go.Proofs.YtnohkhaagkkhjaaW.PrintLast.i64_w, Go.Proofs.YtnohkhaagkkhjaaW.PrintLast.i32_w]
        rfl
      refine seq_take (v := ?_) (a' := ?_) rfl rfl (by rfl) (fun w' hw' => ?_) ?_ ?_
      rotate_left 2
      · go_simp
        with_reducible rfl
      · simp only [Act.put, List.setIfInBounds_toArray, List.set_cons_zero, List.set_cons_succ, Go.Proofs.YtnohkhaagkkhjaaW.PrintLast.i64_w, Go.Proofs.YtnohkhaagkkhjaaW.PrintLast.i32_w]
        rfl
      refine seq_take (v := ?_) (a' := ?_) rfl rfl (by rfl) (fun w' hw' => ?_) ?_ ?_
      rotate_left 2
      · go_simp
        with_reducible rfl
      · simp only [Act.put, List.setIfInBounds_toArray, List.set_cons_zero, List.set_cons_succ, Go.Proofs.YtnohkhaagkkhjaaW.PrintLast.i64_w, Go.Proofs.YtnohkhaagkkhjaaW.PrintLast.i32_w]
        rfl
      refine seq_take (v := ?_) (a' := ?_) rfl rfl (by rfl) (fun w' hw' => ?_) ?_ ?_
      rotate_left 2
      · have hq := pw_cell_below hw' HCD.out; go_simp
        with_reducible rfl
      · simp only [Act.put, List.setIfInBounds_toArray, List.set_cons_zero, List.set_cons_succ, Go.Proofs.YtnohkhaagkkhjaaW.PrintLast.i64_w, Go.Proofs.YtnohkhaagkkhjaaW.PrintLast.i32_w]
        rfl
      refine seq_run ?_
      refine do_call rfl rfl (by rfl) rfl Try.func16 (by kernel_rfl) rfl #[.slice B Y.length d] (by simp only [List.map_toArray, List.map_cons, List.map_nil]; rfl) ?_
      with_reducible refine (rpack_calls B Y.length d Y w6.drew HG6.out.rd HG6.out.by_ HG6.out.le (by omega)).mono ?_
      rintro e w8 ⟨v8, rfl, hM8⟩
      refine ⟨_, ?_, rfl, ?_, fun _ => hM8.below, ?_⟩
      rotate_left
      · simp only [Act.put, List.setIfInBounds_toArray, List.set_cons_zero, List.set_cons_succ, Go.Proofs.YtnohkhaagkkhjaaW.PrintLast.i64_w, Go.Proofs.YtnohkhaagkkhjaaW.PrintLast.i32_w]
        rfl
      obtain ⟨B8, d8, rfl, hd8, hr8⟩ := hM8.own.reads
      have HR8 := Aside0.mk hr8
      have L8 : Aside0 (Later w6.drew w8) := ⟨hM8.below⟩
      have HC8 := Aside0.mk (pw_cell_below hM8.below HCD.out)
      have HU8 := Aside0.mk (Kd.C_below HUD.out hM8.below)
      have HG8 := Aside0.mk (HG6.out.later hM8.below)
      clear hM8 hr8
      refine seq_take (v := ?_) (a' := ?_) rfl rfl (by rfl) (fun w' hw' => ?_) ?_ ?_
      rotate_left 2
      · have he := conv_str (Kd.C_below HR8.out hw') d8; go_simp
        with_reducible rfl
      · simp only [Act.put, List.setIfInBounds_toArray, List.set_cons_zero, List.set_cons_succ, Go.Proofs.YtnohkhaagkkhjaaW.PrintLast.i64_w, Go.Proofs.YtnohkhaagkkhjaaW.PrintLast.i32_w]
        rfl
      refine seq_take (v := ?_) (a' := ?_) rfl rfl (by rfl) (fun w' hw' => ?_) ?_ ?_
      rotate_left 2
      · go_simp
        with_reducible rfl
      · simp only [Act.put, List.setIfInBounds_toArray, List.set_cons_zero, List.set_cons_succ, Go.Proofs.YtnohkhaagkkhjaaW.PrintLast.i64_w, Go.Proofs.YtnohkhaagkkhjaaW.PrintLast.i32_w]
        rfl
      refine seq_take (v := ?_) (a' := ?_) rfl rfl (by rfl) (fun w' hw' => ?_) ?_ ?_
      rotate_left 2
      · go_simp
        with_reducible rfl
      · simp only [Act.put, List.setIfInBounds_toArray, List.set_cons_zero, List.set_cons_succ, Go.Proofs.YtnohkhaagkkhjaaW.PrintLast.i64_w, Go.Proofs.YtnohkhaagkkhjaaW.PrintLast.i32_w]
        rfl
      refine seq_take (v := ?_) (a' := ?_) rfl rfl (by rfl) (fun w' hw' => ?_) ?_ ?_
      rotate_left 2
      · go_simp
        with_reducible rfl
      · simp only [Act.put, List.setIfInBounds_toArray, List.set_cons_zero, List.set_cons_succ, Go.Proofs.YtnohkhaagkkhjaaW.PrintLast.i64_w, Go.Proofs.YtnohkhaagkkhjaaW.PrintLast.i32_w]
        rfl
      refine seq_take (v := ?_) (a' := ?_) rfl rfl (by rfl) (fun w' hw' => ?_) ?_ ?_
      rotate_left 2
      · go_simp
        with_reducible rfl
      · simp only [Act.put, List.setIfInBounds_toArray, List.set_cons_zero, List.set_cons_succ, Go.Proofs.YtnohkhaagkkhjaaW.PrintLast.i64_w, Go.Proofs.YtnohkhaagkkhjaaW.PrintLast.i32_w]
        rfl
      refine seq_take (v := ?_) (a' := ?_) rfl rfl (by rfl) (fun w' hw' => ?_) ?_ ?_
      rotate_left 2
      · go_simp
        with_reducible rfl
      · simp only [Act.put, List.setIfInBounds_toArray, List.set_cons_zero, List.set_cons_succ, Go.Proofs.YtnohkhaagkkhjaaW.PrintLast.i64_w, Go.Proofs.YtnohkhaagkkhjaaW.PrintLast.i32_w]
        rfl
      refine seq_take (v := ?_) (a' := ?_) rfl rfl (by rfl) (fun w' hw' => ?_) ?_ ?_
      rotate_left 2
      · go_simp
        with_reducible rfl
      · simp only [Act.put, List.setIfInBounds_toArray, List.set_cons_zero, List.set_cons_succ, Go.Proofs.YtnohkhaagkkhjaaW.PrintLast.i64_w, Go.Proofs.YtnohkhaagkkhjaaW.PrintLast.i32_w]
        rfl
      refine seq_take (v := ?_) (a' := ?_) rfl rfl (by rfl) (fun w' hw' => ?_) ?_ ?_
      rotate_left 2
      · go_simp
        with_reducible rfl
      · simp only [Act.put, List.setIfInBounds_toArray, List.set_cons_zero, List.set_cons_succ, Go.Proofs.YtnohkhaagkkhjaaW.PrintLast.i64_w, Go.Proofs.YtnohkhaagkkhjaaW.PrintLast.i32_w]
        rfl
      refine seq_take (v := ?_) (a' := ?_) rfl rfl (by rfl) (fun w' hw' => ?_) ?_ ?_
      rotate_left 2
      · have he := conv_str (Kd.C_below HU8.out hw') dX; go_simp
        with_reducible rfl
      · simp only [Act.put, List.setIfInBounds_toArray, List.set_cons_zero, List.set_cons_succ, Go.Proofs.YtnohkhaagkkhjaaW.PrintLast.i64_w, Go.Proofs.YtnohkhaagkkhjaaW.PrintLast.i32_w]
        rfl
      refine seq_take (v := ?_) (a' := ?_) rfl rfl (by rfl) (fun w' hw' => ?_) ?_ ?_
      rotate_left 2
      · go_simp
        with_reducible rfl
      · simp only [Act.put, List.setIfInBounds_toArray, List.set_cons_zero, List.set_cons_succ, Go.Proofs.YtnohkhaagkkhjaaW.PrintLast.i64_w, Go.Proofs.YtnohkhaagkkhjaaW.PrintLast.i32_w]
        rfl
      refine seq_take (v := ?_) (a' := ?_) rfl rfl (by rfl) (fun w' hw' => ?_) ?_ ?_
      rotate_left 2
      · go_simp
        with_reducible rfl
      · simp only [Act.put, List.setIfInBounds_toArray, List.set_cons_zero, List.set_cons_succ, Go.Proofs.YtnohkhaagkkhjaaW.PrintLast.i64_w, Go.Proofs.YtnohkhaagkkhjaaW.PrintLast.i32_w]
        rfl
      refine seq_take (v := ?_) (a' := ?_) rfl rfl (by rfl) (fun w' hw' => ?_) ?_ ?_
      rotate_left 2
      · go_simp
        with_reducible rfl
      · simp only [Act.put, List.setIfInBounds_toArray, List.set_cons_zero, List.set_cons_succ, Go.Proofs.YtnohkhaagkkhjaaW.PrintLast.i64_w, Go.Proofs.YtnohkhaagkkhjaaW.PrintLast.i32_w]
        rfl
      refine seq_take (v := ?_) (a' := ?_) rfl rfl (by rfl) (fun w' hw' => ?_) ?_ ?_
      rotate_left 2
      · have hq := pw_cell_below hw' HC8.out; go_simp
        with_reducible rfl
      · simp only [Act.put, List.setIfInBounds_toArray, List.set_cons_zero, List.set_cons_succ, Go.Proofs.YtnohkhaagkkhjaaW.PrintLast.i64_w, Go.Proofs.YtnohkhaagkkhjaaW.PrintLast.i32_w]
        rfl
      refine seq_take (v := ?_) (a' := ?_) rfl rfl (by rfl) (fun w' hw' => ?_) ?_ ?_
      rotate_left 2
      · have he := conv_str (Kd.C_below HG8.out.rd hw') d; go_simp
        with_reducible rfl
      · simp only [Act.put, List.setIfInBounds_toArray, List.set_cons_zero, List.set_cons_succ, Go.Proofs.YtnohkhaagkkhjaaW.PrintLast.i64_w, Go.Proofs.YtnohkhaagkkhjaaW.PrintLast.i32_w]
        rfl
      refine seq_take (v := ?_) (a' := ?_) rfl rfl (by rfl) (fun w' hw' => ?_) ?_ ?_
      rotate_left 2
      · go_simp
        with_reducible rfl
      · simp only [Act.put, List.setIfInBounds_toArray, List.set_cons_zero, List.set_cons_succ, Go.Proofs.YtnohkhaagkkhjaaW.PrintLast.i64_w, Go.Proofs.YtnohkhaagkkhjaaW.PrintLast.i32_w]
        rfl
      refine seq_take (v := ?_) (a' := ?_) rfl rfl (by rfl) (fun w' hw' => ?_) ?_ ?_
      rotate_left 2
      · go_simp
        with_reducible rfl
      · simp only [Act.put, List.setIfInBounds_toArray, List.set_cons_zero, List.set_cons_succ, Go.Proofs.YtnohkhaagkkhjaaW.PrintLast.i64_w, Go.Proofs.YtnohkhaagkkhjaaW.PrintLast.i32_w]
        rfl
      refine seq_take (v := ?_) (a' := ?_) rfl rfl (by rfl) (fun w' hw' => ?_) ?_ ?_
      rotate_left 2
      · go_simp
        with_reducible rfl
      · simp only [Act.put, List.setIfInBounds_toArray, List.set_cons_zero, List.set_cons_succ, Go.Proofs.YtnohkhaagkkhjaaW.PrintLast.i64_w, Go.Proofs.YtnohkhaagkkhjaaW.PrintLast.i32_w]
        rfl
      refine seq_take (v := ?_) (a' := ?_) rfl rfl (by rfl) (fun w' hw' => ?_) ?_ ?_
      rotate_left 2
      · go_simp
        with_reducible rfl
      · simp only [Act.put, List.setIfInBounds_toArray, List.set_cons_zero, List.set_cons_succ, Go.Proofs.YtnohkhaagkkhjaaW.PrintLast.i64_w, Go.Proofs.YtnohkhaagkkhjaaW.PrintLast.i32_w]
        rfl
      refine seq_take (v := ?_) (a' := ?_) rfl rfl (by rfl) (fun w' hw' => ?_) ?_ ?_
      rotate_left 2
      · go_simp
        with_reducible rfl
      · simp only [Act.put, List.setIfInBounds_toArray, List.set_cons_zero, List.set_cons_succ, Go.Proofs.YtnohkhaagkkhjaaW.PrintLast.i64_w, Go.Proofs.YtnohkhaagkkhjaaW.PrintLast.i32_w]
        rfl
      refine seq_take (v := ?_) (a' := ?_) rfl rfl (by rfl) (fun w' hw' => ?_) ?_ ?_
      rotate_left 2
      · go_simp
        with_reducible rfl
      · simp only [Act.put, List.setIfInBounds_toArray, List.set_cons_zero, List.set_cons_succ, Go.Proofs.YtnohkhaagkkhjaaW.PrintLast.i64_w, Go.Proofs.YtnohkhaagkkhjaaW.PrintLast.i32_w]
        rfl
      refine seq_take (v := ?_) (a' := ?_) rfl rfl (by rfl) (fun w' hw' => ?_) ?_ ?_
      rotate_left 2
      · go_simp
        with_reducible rfl
      · simp only [Act.put, List.setIfInBounds_toArray, List.set_cons_zero, List.set_cons_succ, Go.Proofs.YtnohkhaagkkhjaaW.PrintLast.i64_w, Go.Proofs.YtnohkhaagkkhjaaW.PrintLast.i32_w]
        rfl
      refine seq_take (v := ?_) (a' := ?_) rfl rfl (by rfl) (fun w' hw' => ?_) ?_ ?_
      rotate_left 2
      · go_simp
        with_reducible rfl
      · simp only [Act.put, List.setIfInBounds_toArray, List.set_cons_zero, List.set_cons_succ, Go.Proofs.YtnohkhaagkkhjaaW.PrintLast.i64_w, Go.Proofs.YtnohkhaagkkhjaaW.PrintLast.i32_w]
        rfl
      refine seq_take (v := ?_) (a' := ?_) rfl rfl (by rfl) (fun w' hw' => ?_) ?_ ?_
      rotate_left 2
      · have hq := pw_cell_below hw' HC8.out; go_simp
        with_reducible rfl
      · simp only [Act.put, List.setIfInBounds_toArray, List.set_cons_zero, List.set_cons_succ, Go.Proofs.YtnohkhaagkkhjaaW.PrintLast.i64_w, Go.Proofs.YtnohkhaagkkhjaaW.PrintLast.i32_w]
        rfl
      refine seq_take (v := ?_) (a' := ?_) rfl rfl (by rfl) (fun w' hw' => ?_) ?_ ?_
      rotate_left 2
      · go_simp
        with_reducible rfl
      · simp only [Act.put, List.setIfInBounds_toArray, List.set_cons_zero, List.set_cons_succ, Go.Proofs.YtnohkhaagkkhjaaW.PrintLast.i64_w, Go.Proofs.YtnohkhaagkkhjaaW.PrintLast.i32_w]
        rfl
      refine seq_take (v := ?_) (a' := ?_) rfl rfl (by rfl) (fun w' hw' => ?_) ?_ ?_
      rotate_left 2
      · go_simp
        with_reducible rfl
      · simp only [Act.put, List.setIfInBounds_toArray, List.set_cons_zero, List.set_cons_succ, Go.Proofs.YtnohkhaagkkhjaaW.PrintLast.i64_w, Go.Proofs.YtnohkhaagkkhjaaW.PrintLast.i32_w]
        rfl
      refine seq_take (v := ?_) (a' := ?_) rfl rfl (by rfl) (fun w' hw' => ?_) ?_ ?_
      rotate_left 2
      · go_simp
        with_reducible rfl
      · simp only [Act.put, List.setIfInBounds_toArray, List.set_cons_zero, List.set_cons_succ, Go.Proofs.YtnohkhaagkkhjaaW.PrintLast.i64_w, Go.Proofs.YtnohkhaagkkhjaaW.PrintLast.i32_w]
        rfl
      refine seq_take (v := ?_) (a' := ?_) rfl rfl (by rfl) (fun w' hw' => ?_) ?_ ?_
      rotate_left 2
      · go_simp
        with_reducible rfl
      · simp only [Act.put, List.setIfInBounds_toArray, List.set_cons_zero, List.set_cons_succ, Go.Proofs.YtnohkhaagkkhjaaW.PrintLast.i64_w, Go.Proofs.YtnohkhaagkkhjaaW.PrintLast.i32_w]
        rfl
      refine seq_take (v := ?_) (a' := ?_) rfl rfl (by rfl) (fun w' hw' => ?_) ?_ ?_
      rotate_left 2
      · have hq := pw_cell_below hw' HC8.out; go_simp
        with_reducible rfl
      · simp only [Act.put, List.setIfInBounds_toArray, List.set_cons_zero, List.set_cons_succ, Go.Proofs.YtnohkhaagkkhjaaW.PrintLast.i64_w, Go.Proofs.YtnohkhaagkkhjaaW.PrintLast.i32_w]
        rfl
      have e1 := (pk_wrap Y.length hYl).1
      have hw1 := (pk_wrap Y.length hYl).2.1
      have hw2 := (pk_wrap Y.length hYl).2.2.1
      have hw3 := (pk_wrap Y.length hYl).2.2.2
      have hgt := pk_le Y
      refine seq_take (v := ?_) (a' := ?_) rfl rfl (by rfl) (fun w' hw' => ?_) ?_ ?_
      rotate_left 2
      · go_simp
        with_reducible rfl
      · simp only [Act.put, List.setIfInBounds_toArray, List.set_cons_zero, List.set_cons_succ, Go.Proofs.YtnohkhaagkkhjaaW.PrintLast.i64_w, Go.Proofs.YtnohkhaagkkhjaaW.PrintLast.i32_w]
        rfl
      refine seq_take (v := ?_) (a' := ?_) rfl rfl (by rfl) (fun w' hw' => ?_) ?_ ?_
      rotate_left 2
      · go_simp
        with_reducible rfl
      · simp only [Act.put, List.setIfInBounds_toArray, List.set_cons_zero, List.set_cons_succ, Go.Proofs.YtnohkhaagkkhjaaW.PrintLast.i64_w, Go.Proofs.YtnohkhaagkkhjaaW.PrintLast.i32_w]
        rfl
      refine seq_take (v := ?_) (a' := ?_) rfl rfl (by rfl) (fun w' hw' => ?_) ?_ ?_
      rotate_left 2
      · go_simp
        with_reducible rfl
      · simp only [Act.put, List.setIfInBounds_toArray, List.set_cons_zero, List.set_cons_succ, Go.Proofs.YtnohkhaagkkhjaaW.PrintLast.i64_w, Go.Proofs.YtnohkhaagkkhjaaW.PrintLast.i32_w]
        rfl
      refine seq_take (v := ?_) (a' := ?_) rfl rfl (by rfl) (fun w' hw' => ?_) ?_ ?_
      rotate_left 2
      · go_simp
        with_reducible rfl
      · simp only [Act.put, List.setIfInBounds_toArray, List.set_cons_zero, List.set_cons_succ, Go.Proofs.YtnohkhaagkkhjaaW.PrintLast.i64_w, Go.Proofs.YtnohkhaagkkhjaaW.PrintLast.i32_w]
        rfl
      refine seq_take (v := ?_) (a' := ?_) rfl rfl (by rfl) (fun w' hw' => ?_) ?_ ?_
      rotate_left 2
      · go_simp
        with_reducible rfl
      · simp only [Act.put, List.setIfInBounds_toArray, List.set_cons_zero, List.set_cons_succ, Go.Proofs.YtnohkhaagkkhjaaW.PrintLast.i64_w, Go.Proofs.YtnohkhaagkkhjaaW.PrintLast.i32_w]
        rfl
      refine seq_take (v := ?_) (a' := ?_) rfl rfl (by rfl) (fun w' hw' => ?_) ?_ ?_
      rotate_left 2
      · go_simp
        with_reducible rfl
      · simp only [Act.put, List.setIfInBounds_toArray, List.set_cons_zero, List.set_cons_succ, Go.Proofs.YtnohkhaagkkhjaaW.PrintLast.i64_w, Go.Proofs.YtnohkhaagkkhjaaW.PrintLast.i32_w]
        rfl
      refine seq_end ?_
      clear e1 hw1 hw2 hw3 hgt
      go_wp2
      go_roundw
      case rel => exact ⟨k + 1, by omega, by go_num, HB.out.trans (Below.mono (Later.trans L5.out (Later.trans L6.out (Later.trans (Below.drew (Later.refl w6)) L8.out))) HB.out.size)⟩
      case measure => simp [intOf]; omega
    · have hk2I : ¬ (k : Int) < 2 := by omega
      go_wp2_with (go_at_call 13; (with_reducible refine at_cw wr ?_); refine (lives_calls wr).mono ?_; rintro e w5 ⟨rfl, hB⟩; have L5 : Aside0 (Later wr w5) := ⟨hB⟩; clear hB)
      (try simp only [Exit.inBlock, Exit.then])
      refine bodyPost_ret (results_tmp rfl _ _ _) rfl ⟨rfl, ?_⟩
      exact Later.trans LW.out (Later.trans HB.out L5.out)
end Go.Proofs.Ytnohkhaagkkhjaa
