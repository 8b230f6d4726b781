/- The law FrameSeals: its walk. Conditions: what each argument reads. -/
import Derived.Test.YtcbcoaafdggniaaFrm13
import Derived.Test.YtcbcoaafdggniaaFrm11
namespace Go.Proofs.Ytcbcoaafdggniaa
open Go.RowKit Go.Shelf Go.Proofs.YtcbcoaafdggniaaW.PrintWords Go.Proofs.YtcbcoaafdggniaaW.PrintMore
set_option linter.unusedVariables false
set_option linter.unusedSimpArgs false
theorem seal_facts {Y : List Int} (hY : Y.length < 4294967296) : ∃ pb : Bool, packedB (sealL Y) = pb ∧ decide (((sealL Y).length : Int) < (Y.length : Int) + 10) = pb ∧ ¬ (Y.length : Int) + 10 < ((sealL Y).length : Int) := by
  have h1 := seal_len Y
  have h2 := sealB_le Y
  refine ⟨_, packed_seal hY, ?_, by omega⟩
  congr 1
  exact propext ⟨fun h => by omega, fun h => by omega⟩
set_option maxRecDepth 20000 in
set_option maxHeartbeats 3200000 in
theorem frameSeals_walk (A1 A2 : Option Addr) (n1 c1 n2 c2 : Nat) (xb xl : List Int) (w : World) (h1 : RdB w A1 n1 xb) (hc1 : n1 ≤ c1) (hb1 : Bytes xb) (h2 : RdN w A2 n2 xl) :
    Calls Try.prog 3 #[.slice A1 n1 c1, .slice A2 n2 c2] w fun e w' => e = .returned (.bool true) ∧ Below w.heap.size w w' := by
  have H1 := Aside0.mk h1
  have H2 := Aside0.mk h2
  clear h1 h2
  go_enter Try.func3, Try.ntmps3
  go_wp2_with (first
    | (go_at_call 8; (with_reducible refine at_cw w ?_); refine (few_new A1 n1 c1 xb 150 w H1.out hc1 hb1 (by omega) (by omega)).mono ?_; rintro e w1 ⟨BX, dX, X, rfl, E_X, hby, O_X, hd_X, hyl, R_X, hB⟩; have L1 : Aside0 (Later w w1) := ⟨hB⟩; have Y_X : Aside0 (Bytes X ∧ X.length ≤ 150) := ⟨hby, hyl⟩; have D_X := Aside0.mk hd_X; clear hB hby hyl hd_X)
    | (go_at_call 9; (with_reducible refine at_cw w1 ?_); refine (made_calls A2 n2 c2 xl w1 (Kd.C_below H2.out L1.out)).mono ?_; rintro e w3 ⟨BZ, dZ, Z, rfl, hby, O_Z, hdM, hlM, R_Z, hB⟩; have L3 : Aside0 (Later w1 w3) := ⟨hB⟩; have Y_Z := Aside0.mk hby; clear hB hby))
  obtain ⟨w4, hw4, L4, HC4⟩ : ∃ w4, w4 = w3.alloc (.cells #[.slice BX X.length dX, .slice BZ Z.length dZ] 22) ∧ Aside0 (Later w3 w4) ∧ Aside0 (w4.heap[w3.heap.size]? = some (.cells #[.slice BX X.length dX, .slice BZ Z.length dZ] 22 (0, 0))) := ⟨_, rfl, ⟨below_alloc (Below.refl _ _) _⟩, ⟨blk_new w3 _⟩⟩
  rw [← hw4]
  have GX := Aside0.mk ((OwB.gv O_X.out Y_X.out.1 (Nat.le_trans Y_X.out.2 (by omega) : X.length ≤ 359)).later (Later.trans L3.out L4.out))
  have GZ := Aside0.mk ((OwB.gv O_Z.out Y_Z.out hlM).later L4.out)
  have GK : Aside0 (∀ k, k < 2 → ∃ B d X, w4.cell? ⟨w3.heap.size, k, none⟩ = some (.slice B X.length d) ∧ Gv w4 B d X 359) := ⟨fun k hk => by
    rcases k with _ | k
    · exact ⟨BX, dX, X, by rw [blk_cell HC4.out]; rfl, GX.out⟩
    · obtain rfl : k = 0 := by omega
      exact ⟨BZ, dZ, Z, by rw [blk_cell HC4.out]; rfl, GZ.out⟩⟩
  have LW : Aside0 (Later w w4) := ⟨Later.trans L1.out (Later.trans L3.out L4.out)⟩
  clear hw4 GX GZ HC4 O_X O_Z R_X R_Z E_X L1 L3 L4 Y_X Y_Z D_X hdM hlM
  go_loopw [6, 7, 8, 9, 10, 11] (fun k _ _ _ _ _ wr => ∃ j : Nat, j ≤ 2 ∧ k = .int .i64 j ∧ Below w4.heap.size w4 wr) (fun k _ _ _ _ _ _ => 2 - (intOf k).toNat)
  case atStart => exact ⟨0, by omega, rfl, Below.refl _ _⟩
  case round =>
    obtain ⟨k, hk, rfl, hB⟩ := hrel
    have HB := Aside0.mk hB
    clear hB
    by_cases hk2 : k < 2
    · have hk2I : (k : Int) < 2 := by omega
      obtain ⟨B, d, Y, hcell0, hg⟩ := GK.out k hk2
      have HG := Aside0.mk (hg.later HB.out)
      have hYl := hg.len
      have hcell := pw_cell_below HB.out hcell0
      have HU : Aside0 (openL (Y.length : Int) (sealL Y) = ⟨Y, 0⟩) := ⟨by rw [open_seal _ (by omega), if_neg (by omega)]⟩
      have HV : Aside0 (lenV (sealL Y) = .tuple #[.int .i64 (Y.length : Int), .int .i64 0]) := ⟨(lenL_some (num_seal (by omega))).2.2.2⟩
      have hsl : (sealL Y).length ≤ Y.length + 10 := by have := seal_len Y; have := sealB_le Y; omega
      have HSB := Aside0.mk (seal_bytes hg.by_)
      clear hcell0 hg
      go_wp2_with (first
        | (go_at_call 10; (with_reducible refine at_cw wr ?_); refine (seal_calls B Y.length d Y wr HG.out.rd HG.out.at_ HG.out.by_ HG.out.le (by omega)).mono ?_; rintro e w5 ⟨v, rfl, hQ, hB⟩; obtain ⟨AP, cP, rfl, hcP, hrP⟩ := hQ.reads; have L5 : Aside0 (Later wr w5) := ⟨hB⟩; have R_P := Aside0.mk hrP; have hcell5 := pw_cell_below hB hcell; clear hQ hB hrP)
        | (go_at_call 11; (with_reducible refine at_cw w5 ?_); refine (open_calls AP (sealL Y).length cP (sealL Y) (Y.length : Int) w5 R_P.out HSB.out hcP (by omega)).mono ?_; rw [HU.out]; rintro e w6 hp; obtain ⟨AX, dX, rfl, _, hrX, hbX, hdX, hB⟩ := hp.get; have L6 : Aside0 (Later w5 w6) := ⟨hB⟩; have R_U := Aside0.mk hrX; have HC6 := Aside0.mk (pw_cell_below hB hcell5); clear hp hB hrX)
        | (go_at_call 12; (with_reducible refine at_cw w6 ?_); refine (length_calls AP (sealL Y).length cP (sealL Y) w6 (Kd.C_below R_P.out L6.out) HSB.out (by omega)).mono ?_; rw [HV.out]; rintro e u0 ⟨rfl, rfl⟩))
      have HCD := Aside0.mk ((World.cell?_drew w6 _).trans HC6.out)
      have HPD := Aside0.mk (Kd.C_drew (Kd.C_below R_P.out L6.out))
      have HG6 := Aside0.mk (HG.out.later (Later.trans L5.out (Later.trans L6.out (Below.drew (Later.refl w6)))))
      have HUD := Aside0.mk (Kd.C_drew R_U.out)
      obtain ⟨pb, hpb, hlt, hgt⟩ := seal_facts (Y := Y) (by omega)
      have HPK : Aside0 (∀ W, RdB W AP (sealL Y).length (sealL Y) → Calls Try.prog 14 #[.slice AP (sealL Y).length cP] W fun e w' => e = .returned (.bool pb) ∧ W = w') := ⟨fun W h => by rw [← hpb]; exact packed_calls AP _ cP (sealL Y) W h HSB.out (by omega)⟩
      have HLT := Aside0.mk hlt
      have HGT := Aside0.mk hgt
      clear hpb hlt hgt
      refine seq_start [] (.take 0 (.take 1 (.take 2 (.take 3 (.take 4 (.take 5 (.run 6 (.take 7 (.take 8 (.take 9 (.take 10 (.take 11 (.take 12 (.take 13 (.take 14 (.take 15 (.take 16 (.take 17 (.take 18 (.take 19 (.take 20 (.take 21 (.take 22 (.take 23 (.take 24 (.take 25 (.take 26 (.take 27 (.take 28 (.take 29 (.take 30 (.take 31 (.take 32 (.take 33 (.take 34 (.take 35 (.take 36 (.take 37 (.take 38 (.take 39 (.take 40 (.take 41 (.take 42 (.take 43 (.take 44 (.take 45 (.take 46 (.take 47 (.take 48 (.take 49 (.take 50 (.take 51 (.take 52 (.take 53 (.take 54 (.take 55 (.take 56 (.take 57 (.take 58 (.take 59 (.take 60 .done))))))))))))))))))))))))))))))))))))))))))))))))))))))))))))) (by kernel_rfl) (by kernel_rfl) (fun _ _ d _ _ h => by cases d <;> exact h) ?_
      refine seq_take (v := ?_) (a' := ?_) rfl rfl (by rfl) (fun w' hw' => ?_) ?_ ?_
      rotate_left 2
      · go_simp
        with_reducible rfl
      · simp only [Act.put, List.setIfInBounds_toArray, List.set_cons_zero, List.set_cons_succ, Go.Proofs.YtcbcoaafdggniaaW.PrintLast.i64_w, Go.Proofs.YtcbcoaafdggniaaW.PrintLast.i32_w]
        rfl
      refine seq_take (v := ?_) (a' := ?_) rfl rfl (by rfl) (fun w' hw' => ?_) ?_ ?_
      rotate_left 2
      · have he := conv_str (Kd.C_below HPD.out hw') cP; go_simp
        with_reducible rfl
      · simp only [Act.put, List.setIfInBounds_toArray, List.set_cons_zero, List.set_cons_succ, Go.Proofs.YtcbcoaafdggniaaW.PrintLast.i64_w, Go.Proofs.YtcbcoaafdggniaaW.PrintLast.i32_w]
        rfl
      refine seq_take (v := ?_) (a' := ?_) rfl rfl (by rfl) (fun w' hw' => ?_) ?_ ?_
      rotate_left 2
      · go_simp
        with_reducible rfl
      · simp only [Act.put, List.setIfInBounds_toArray, List.set_cons_zero, List.set_cons_succ, Go.Proofs.YtcbcoaafdggniaaW.PrintLast.i64_w, Go.Proofs.YtcbcoaafdggniaaW.PrintLast.i32_w]
        rfl
      refine seq_take (v := ?_) (a' := ?_) rfl rfl (by rfl) (fun w' hw' => ?_) ?_ ?_
      rotate_left 2
      · go_simp
        with_reducible rfl
      · simp only [Act.put, List.setIfInBounds_toArray, List.set_cons_zero, List.set_cons_succ, Go.Proofs.YtcbcoaafdggniaaW.PrintLast.i64_w, Go.Proofs.YtcbcoaafdggniaaW.PrintLast.i32_w]
        rfl
      refine seq_take (v := ?_) (a' := ?_) rfl rfl (by rfl) (fun w' hw' => ?_) ?_ ?_
      rotate_left 2
      · go_simp
        with_reducible rfl
      · simp only [Act.put, List.setIfInBounds_toArray, List.set_cons_zero, List.set_cons_succ, Go.Proofs.YtcbcoaafdggniaaW.PrintLast.i64_w, Go.Proofs.YtcbcoaafdggniaaW.PrintLast.i32_w]
        rfl
      refine seq_take (v := ?_) (a' := ?_) rfl rfl (by rfl) (fun w' hw' => ?_) ?_ ?_
      rotate_left 2
      · have hq := pw_cell_below hw' HCD.out; go_simp
        with_reducible rfl
      · simp only [Act.put, List.setIfInBounds_toArray, List.set_cons_zero, List.set_cons_succ, Go.Proofs.YtcbcoaafdggniaaW.PrintLast.i64_w, Go.Proofs.YtcbcoaafdggniaaW.PrintLast.i32_w]
        rfl
      refine seq_run ?_
      refine do_call rfl rfl (by rfl) rfl Try.func13 (by kernel_rfl) rfl #[.slice B Y.length d] (by simp only [List.map_toArray, List.map_cons, List.map_nil]; rfl) ?_
      with_reducible refine (rseal_calls B Y.length d Y w6.drew HG6.out.rd HG6.out.by_ HG6.out.le (by omega)).mono ?_
      rintro e w8 ⟨v8, rfl, hO8, hB8⟩
      refine ⟨_, ?_, rfl, ?_, fun _ => hB8, ?_⟩
      rotate_left
      · simp only [Act.put, List.setIfInBounds_toArray, List.set_cons_zero, List.set_cons_succ, Go.Proofs.YtcbcoaafdggniaaW.PrintLast.i64_w, Go.Proofs.YtcbcoaafdggniaaW.PrintLast.i32_w]
        rfl
      obtain ⟨B8, d8, rfl, hd8, hr8⟩ := hO8.reads
      have HR8 := Aside0.mk hr8
      have L8 : Aside0 (Later w6.drew w8) := ⟨hB8⟩
      have HC8 := Aside0.mk (pw_cell_below hB8 HCD.out)
      have HU8 := Aside0.mk (Kd.C_below HUD.out hB8)
      have HP8 := Aside0.mk (Kd.C_below HPD.out hB8)
      have HG8 := Aside0.mk (HG6.out.later hB8)
      clear hO8 hr8 hB8
      refine seq_take (v := ?_) (a' := ?_) rfl rfl (by rfl) (fun w' hw' => ?_) ?_ ?_
      rotate_left 2
      · have he := conv_str (Kd.C_below HR8.out hw') d8; go_simp
        with_reducible rfl
      · simp only [Act.put, List.setIfInBounds_toArray, List.set_cons_zero, List.set_cons_succ, Go.Proofs.YtcbcoaafdggniaaW.PrintLast.i64_w, Go.Proofs.YtcbcoaafdggniaaW.PrintLast.i32_w]
        rfl
      refine seq_take (v := ?_) (a' := ?_) rfl rfl (by rfl) (fun w' hw' => ?_) ?_ ?_
      rotate_left 2
      · go_simp
        with_reducible rfl
      · simp only [Act.put, List.setIfInBounds_toArray, List.set_cons_zero, List.set_cons_succ, Go.Proofs.YtcbcoaafdggniaaW.PrintLast.i64_w, Go.Proofs.YtcbcoaafdggniaaW.PrintLast.i32_w]
        rfl
      refine seq_take (v := ?_) (a' := ?_) rfl rfl (by rfl) (fun w' hw' => ?_) ?_ ?_
      rotate_left 2
      · go_simp
        with_reducible rfl
      · simp only [Act.put, List.setIfInBounds_toArray, List.set_cons_zero, List.set_cons_succ, Go.Proofs.YtcbcoaafdggniaaW.PrintLast.i64_w, Go.Proofs.YtcbcoaafdggniaaW.PrintLast.i32_w]
        rfl
      refine seq_take (v := ?_) (a' := ?_) rfl rfl (by rfl) (fun w' hw' => ?_) ?_ ?_
      rotate_left 2
      · go_simp
        with_reducible rfl
      · simp only [Act.put, List.setIfInBounds_toArray, List.set_cons_zero, List.set_cons_succ, Go.Proofs.YtcbcoaafdggniaaW.PrintLast.i64_w, Go.Proofs.YtcbcoaafdggniaaW.PrintLast.i32_w]
        rfl
      refine seq_take (v := ?_) (a' := ?_) rfl rfl (by rfl) (fun w' hw' => ?_) ?_ ?_
      rotate_left 2
      · go_simp
        with_reducible rfl
      · simp only [Act.put, List.setIfInBounds_toArray, List.set_cons_zero, List.set_cons_succ, Go.Proofs.YtcbcoaafdggniaaW.PrintLast.i64_w, Go.Proofs.YtcbcoaafdggniaaW.PrintLast.i32_w]
        rfl
      refine seq_take (v := ?_) (a' := ?_) rfl rfl (by rfl) (fun w' hw' => ?_) ?_ ?_
      rotate_left 2
      · go_simp
        with_reducible rfl
      · simp only [Act.put, List.setIfInBounds_toArray, List.set_cons_zero, List.set_cons_succ, Go.Proofs.YtcbcoaafdggniaaW.PrintLast.i64_w, Go.Proofs.YtcbcoaafdggniaaW.PrintLast.i32_w]
        rfl
      refine seq_take (v := ?_) (a' := ?_) rfl rfl (by rfl) (fun w' hw' => ?_) ?_ ?_
      rotate_left 2
      · go_simp
        with_reducible rfl
      · simp only [Act.put, List.setIfInBounds_toArray, List.set_cons_zero, List.set_cons_succ, Go.Proofs.YtcbcoaafdggniaaW.PrintLast.i64_w, Go.Proofs.YtcbcoaafdggniaaW.PrintLast.i32_w]
        rfl
      refine seq_take (v := ?_) (a' := ?_) rfl rfl (by rfl) (fun w' hw' => ?_) ?_ ?_
      rotate_left 2
      · go_simp
        with_reducible rfl
      · simp only [Act.put, List.setIfInBounds_toArray, List.set_cons_zero, List.set_cons_succ, Go.Proofs.YtcbcoaafdggniaaW.PrintLast.i64_w, Go.Proofs.YtcbcoaafdggniaaW.PrintLast.i32_w]
        rfl
      refine seq_take (v := ?_) (a' := ?_) rfl rfl (by rfl) (fun w' hw' => ?_) ?_ ?_
      rotate_left 2
      · have he := conv_str (Kd.C_below HU8.out hw') dX; go_simp
        with_reducible rfl
      · simp only [Act.put, List.setIfInBounds_toArray, List.set_cons_zero, List.set_cons_succ, Go.Proofs.YtcbcoaafdggniaaW.PrintLast.i64_w, Go.Proofs.YtcbcoaafdggniaaW.PrintLast.i32_w]
        rfl
      refine seq_take (v := ?_) (a' := ?_) rfl rfl (by rfl) (fun w' hw' => ?_) ?_ ?_
      rotate_left 2
      · go_simp
        with_reducible rfl
      · simp only [Act.put, List.setIfInBounds_toArray, List.set_cons_zero, List.set_cons_succ, Go.Proofs.YtcbcoaafdggniaaW.PrintLast.i64_w, Go.Proofs.YtcbcoaafdggniaaW.PrintLast.i32_w]
        rfl
      refine seq_take (v := ?_) (a' := ?_) rfl rfl (by rfl) (fun w' hw' => ?_) ?_ ?_
      rotate_left 2
      · go_simp
        with_reducible rfl
      · simp only [Act.put, List.setIfInBounds_toArray, List.set_cons_zero, List.set_cons_succ, Go.Proofs.YtcbcoaafdggniaaW.PrintLast.i64_w, Go.Proofs.YtcbcoaafdggniaaW.PrintLast.i32_w]
        rfl
      refine seq_take (v := ?_) (a' := ?_) rfl rfl (by rfl) (fun w' hw' => ?_) ?_ ?_
      rotate_left 2
      · go_simp
        with_reducible rfl
      · simp only [Act.put, List.setIfInBounds_toArray, List.set_cons_zero, List.set_cons_succ, Go.Proofs.YtcbcoaafdggniaaW.PrintLast.i64_w, Go.Proofs.YtcbcoaafdggniaaW.PrintLast.i32_w]
        rfl
      refine seq_take (v := ?_) (a' := ?_) rfl rfl (by rfl) (fun w' hw' => ?_) ?_ ?_
      rotate_left 2
      · have hq := pw_cell_below hw' HC8.out; go_simp
        with_reducible rfl
      · simp only [Act.put, List.setIfInBounds_toArray, List.set_cons_zero, List.set_cons_succ, Go.Proofs.YtcbcoaafdggniaaW.PrintLast.i64_w, Go.Proofs.YtcbcoaafdggniaaW.PrintLast.i32_w]
        rfl
      refine seq_take (v := ?_) (a' := ?_) rfl rfl (by rfl) (fun w' hw' => ?_) ?_ ?_
      rotate_left 2
      · have he := conv_str (Kd.C_below HG8.out.rd hw') d; go_simp
        with_reducible rfl
      · simp only [Act.put, List.setIfInBounds_toArray, List.set_cons_zero, List.set_cons_succ, Go.Proofs.YtcbcoaafdggniaaW.PrintLast.i64_w, Go.Proofs.YtcbcoaafdggniaaW.PrintLast.i32_w]
        rfl
      refine seq_take (v := ?_) (a' := ?_) rfl rfl (by rfl) (fun w' hw' => ?_) ?_ ?_
      rotate_left 2
      · go_simp
        with_reducible rfl
      · simp only [Act.put, List.setIfInBounds_toArray, List.set_cons_zero, List.set_cons_succ, Go.Proofs.YtcbcoaafdggniaaW.PrintLast.i64_w, Go.Proofs.YtcbcoaafdggniaaW.PrintLast.i32_w]
        rfl
      refine seq_take (v := ?_) (a' := ?_) rfl rfl (by rfl) (fun w' hw' => ?_) ?_ ?_
      rotate_left 2
      · go_simp
        with_reducible rfl
      · simp only [Act.put, List.setIfInBounds_toArray, List.set_cons_zero, List.set_cons_succ, Go.Proofs.YtcbcoaafdggniaaW.PrintLast.i64_w, Go.Proofs.YtcbcoaafdggniaaW.PrintLast.i32_w]
        rfl
      refine seq_take (v := ?_) (a' := ?_) rfl rfl (by rfl) (fun w' hw' => ?_) ?_ ?_
      rotate_left 2
      · go_simp
        with_reducible rfl
      · simp only [Act.put, List.setIfInBounds_toArray, List.set_cons_zero, List.set_cons_succ, Go.Proofs.YtcbcoaafdggniaaW.PrintLast.i64_w, Go.Proofs.YtcbcoaafdggniaaW.PrintLast.i32_w]
        rfl
      refine seq_take (v := ?_) (a' := ?_) rfl rfl (by rfl) (fun w' hw' => ?_) ?_ ?_
      rotate_left 2
      · go_simp
        with_reducible rfl
      · simp only [Act.put, List.setIfInBounds_toArray, List.set_cons_zero, List.set_cons_succ, Go.Proofs.YtcbcoaafdggniaaW.PrintLast.i64_w, Go.Proofs.YtcbcoaafdggniaaW.PrintLast.i32_w]
        rfl
      refine seq_take (v := ?_) (a' := ?_) rfl rfl (by rfl) (fun w' hw' => ?_) ?_ ?_
      rotate_left 2
      · go_simp
        with_reducible rfl
      · simp only [Act.put, List.setIfInBounds_toArray, List.set_cons_zero, List.set_cons_succ, Go.Proofs.YtcbcoaafdggniaaW.PrintLast.i64_w, Go.Proofs.YtcbcoaafdggniaaW.PrintLast.i32_w]
        rfl
      refine seq_take (v := ?_) (a' := ?_) rfl rfl (by rfl) (fun w' hw' => ?_) ?_ ?_
      rotate_left 2
      · go_simp
        with_reducible rfl
      · simp only [Act.put, List.setIfInBounds_toArray, List.set_cons_zero, List.set_cons_succ, Go.Proofs.YtcbcoaafdggniaaW.PrintLast.i64_w, Go.Proofs.YtcbcoaafdggniaaW.PrintLast.i32_w]
        rfl
      refine seq_take (v := ?_) (a' := ?_) rfl rfl (by rfl) (fun w' hw' => ?_) ?_ ?_
      rotate_left 2
      · go_simp
        with_reducible rfl
      · simp only [Act.put, List.setIfInBounds_toArray, List.set_cons_zero, List.set_cons_succ, Go.Proofs.YtcbcoaafdggniaaW.PrintLast.i64_w, Go.Proofs.YtcbcoaafdggniaaW.PrintLast.i32_w]
        rfl
      refine seq_take (v := ?_) (a' := ?_) rfl rfl (by rfl) (fun w' hw' => ?_) ?_ ?_
      rotate_left 2
      · have hq := pw_cell_below hw' HC8.out; go_simp
        with_reducible rfl
      · simp only [Act.put, List.setIfInBounds_toArray, List.set_cons_zero, List.set_cons_succ, Go.Proofs.YtcbcoaafdggniaaW.PrintLast.i64_w, Go.Proofs.YtcbcoaafdggniaaW.PrintLast.i32_w]
        rfl
      refine seq_take (v := ?_) (a' := ?_) rfl rfl (by rfl) (fun w' hw' => ?_) ?_ ?_
      rotate_left 2
      · go_simp
        with_reducible rfl
      · simp only [Act.put, List.setIfInBounds_toArray, List.set_cons_zero, List.set_cons_succ, Go.Proofs.YtcbcoaafdggniaaW.PrintLast.i64_w, Go.Proofs.YtcbcoaafdggniaaW.PrintLast.i32_w]
        rfl
      refine seq_take (v := ?_) (a' := ?_) rfl rfl (by rfl) (fun w' hw' => ?_) ?_ ?_
      rotate_left 2
      · go_simp
        with_reducible rfl
      · simp only [Act.put, List.setIfInBounds_toArray, List.set_cons_zero, List.set_cons_succ, Go.Proofs.YtcbcoaafdggniaaW.PrintLast.i64_w, Go.Proofs.YtcbcoaafdggniaaW.PrintLast.i32_w]
        rfl
      refine seq_take (v := ?_) (a' := ?_) rfl rfl (by rfl) (fun w' hw' => ?_) ?_ ?_
      rotate_left 2
      · go_simp
        with_reducible rfl
      · simp only [Act.put, List.setIfInBounds_toArray, List.set_cons_zero, List.set_cons_succ, Go.Proofs.YtcbcoaafdggniaaW.PrintLast.i64_w, Go.Proofs.YtcbcoaafdggniaaW.PrintLast.i32_w]
        rfl
      refine seq_take (v := ?_) (a' := ?_) rfl rfl (by rfl) (fun w' hw' => ?_) ?_ ?_
      rotate_left 2
      · go_simp
        with_reducible rfl
      · simp only [Act.put, List.setIfInBounds_toArray, List.set_cons_zero, List.set_cons_succ, Go.Proofs.YtcbcoaafdggniaaW.PrintLast.i64_w, Go.Proofs.YtcbcoaafdggniaaW.PrintLast.i32_w]
        rfl
      refine seq_take (v := ?_) (a' := ?_) rfl rfl (by rfl) (fun w' hw' => ?_) ?_ ?_
      rotate_left 2
      · go_simp
        with_reducible rfl
      · simp only [Act.put, List.setIfInBounds_toArray, List.set_cons_zero, List.set_cons_succ, Go.Proofs.YtcbcoaafdggniaaW.PrintLast.i64_w, Go.Proofs.YtcbcoaafdggniaaW.PrintLast.i32_w]
        rfl
      refine seq_take (v := ?_) (a' := ?_) rfl rfl (by rfl) (fun w' hw' => ?_) ?_ ?_
      rotate_left 2
      · go_simp
        with_reducible rfl
      · simp only [Act.put, List.setIfInBounds_toArray, List.set_cons_zero, List.set_cons_succ, Go.Proofs.YtcbcoaafdggniaaW.PrintLast.i64_w, Go.Proofs.YtcbcoaafdggniaaW.PrintLast.i32_w]
        rfl
      refine seq_take (v := ?_) (a' := ?_) rfl rfl (by rfl) (fun w' hw' => ?_) ?_ ?_
      rotate_left 2
      · go_simp
        with_reducible rfl
      · simp only [Act.put, List.setIfInBounds_toArray, List.set_cons_zero, List.set_cons_succ, Go.Proofs.YtcbcoaafdggniaaW.PrintLast.i64_w, Go.Proofs.YtcbcoaafdggniaaW.PrintLast.i32_w]
        rfl
      refine seq_take (v := ?_) (a' := ?_) rfl rfl (by rfl) (fun w' hw' => ?_) ?_ ?_
      rotate_left 2
      · go_simp
        with_reducible rfl
      · simp only [Act.put, List.setIfInBounds_toArray, List.set_cons_zero, List.set_cons_succ, Go.Proofs.YtcbcoaafdggniaaW.PrintLast.i64_w, Go.Proofs.YtcbcoaafdggniaaW.PrintLast.i32_w]
        rfl
      refine seq_take (v := ?_) (a' := ?_) rfl rfl (by rfl) (fun w' hw' => ?_) ?_ ?_
      rotate_left 2
      · go_simp
        with_reducible rfl
      · simp only [Act.put, List.setIfInBounds_toArray, List.set_cons_zero, List.set_cons_succ, Go.Proofs.YtcbcoaafdggniaaW.PrintLast.i64_w, Go.Proofs.YtcbcoaafdggniaaW.PrintLast.i32_w]
        rfl
      refine seq_take (v := ?_) (a' := ?_) rfl rfl (by rfl) (fun w' hw' => ?_) ?_ ?_
      rotate_left 2
      · go_simp
        with_reducible rfl
      · simp only [Act.put, List.setIfInBounds_toArray, List.set_cons_zero, List.set_cons_succ, Go.Proofs.YtcbcoaafdggniaaW.PrintLast.i64_w, Go.Proofs.YtcbcoaafdggniaaW.PrintLast.i32_w]
        rfl
      refine seq_take (v := ?_) (a' := ?_) rfl rfl (by rfl) (fun w' hw' => ?_) ?_ ?_
      rotate_left 2
      · go_simp
        with_reducible rfl
      · simp only [Act.put, List.setIfInBounds_toArray, List.set_cons_zero, List.set_cons_succ, Go.Proofs.YtcbcoaafdggniaaW.PrintLast.i64_w, Go.Proofs.YtcbcoaafdggniaaW.PrintLast.i32_w]
        rfl
      refine seq_take (v := ?_) (a' := ?_) rfl rfl (by rfl) (fun w' hw' => ?_) ?_ ?_
      rotate_left 2
      · go_simp
        with_reducible rfl
      · simp only [Act.put, List.setIfInBounds_toArray, List.set_cons_zero, List.set_cons_succ, Go.Proofs.YtcbcoaafdggniaaW.PrintLast.i64_w, Go.Proofs.YtcbcoaafdggniaaW.PrintLast.i32_w]
        rfl
      refine seq_take (v := ?_) (a' := ?_) rfl rfl (by rfl) (fun w' hw' => ?_) ?_ ?_
      rotate_left 2
      · go_simp
        with_reducible rfl
      · simp only [Act.put, List.setIfInBounds_toArray, List.set_cons_zero, List.set_cons_succ, Go.Proofs.YtcbcoaafdggniaaW.PrintLast.i64_w, Go.Proofs.YtcbcoaafdggniaaW.PrintLast.i32_w]
        rfl
      refine seq_take (v := ?_) (a' := ?_) rfl rfl (by rfl) (fun w' hw' => ?_) ?_ ?_
      rotate_left 2
      · have hq := pw_cell_below hw' HC8.out; go_simp
        with_reducible rfl
      · simp only [Act.put, List.setIfInBounds_toArray, List.set_cons_zero, List.set_cons_succ, Go.Proofs.YtcbcoaafdggniaaW.PrintLast.i64_w, Go.Proofs.YtcbcoaafdggniaaW.PrintLast.i32_w]
        rfl
      refine seq_take (v := ?_) (a' := ?_) rfl rfl (by rfl) (fun w' hw' => ?_) ?_ ?_
      rotate_left 2
      · go_simp
        with_reducible rfl
      · simp only [Act.put, List.setIfInBounds_toArray, List.set_cons_zero, List.set_cons_succ, Go.Proofs.YtcbcoaafdggniaaW.PrintLast.i64_w, Go.Proofs.YtcbcoaafdggniaaW.PrintLast.i32_w]
        rfl
      refine seq_take (v := ?_) (a' := ?_) rfl rfl (by rfl) (fun w' hw' => ?_) ?_ ?_
      rotate_left 2
      · go_simp
        with_reducible rfl
      · simp only [Act.put, List.setIfInBounds_toArray, List.set_cons_zero, List.set_cons_succ, Go.Proofs.YtcbcoaafdggniaaW.PrintLast.i64_w, Go.Proofs.YtcbcoaafdggniaaW.PrintLast.i32_w]
        rfl
      have hw1 : wrap64 ((Y.length : Int) + 10) = (Y.length : Int) + 10 := by unfold wrap64; omega
      refine seq_take (v := ?_) (a' := ?_) rfl rfl (by rfl) (fun w' hw' => ?_) ?_ ?_
      rotate_left 2
      · have hgt := HGT.out; go_simp
        with_reducible rfl
      · simp only [Act.put, List.setIfInBounds_toArray, List.set_cons_zero, List.set_cons_succ, Go.Proofs.YtcbcoaafdggniaaW.PrintLast.i64_w, Go.Proofs.YtcbcoaafdggniaaW.PrintLast.i32_w]
        rfl
      refine seq_take (v := ?_) (a' := ?_) rfl rfl (by rfl) (fun w' hw' => ?_) ?_ ?_
      rotate_left 2
      · go_simp
        with_reducible rfl
      · simp only [Act.put, List.setIfInBounds_toArray, List.set_cons_zero, List.set_cons_succ, Go.Proofs.YtcbcoaafdggniaaW.PrintLast.i64_w, Go.Proofs.YtcbcoaafdggniaaW.PrintLast.i32_w]
        rfl
      refine seq_take (v := ?_) (a' := ?_) rfl rfl (by rfl) (fun w' hw' => ?_) ?_ ?_
      rotate_left 2
      · go_simp
        with_reducible rfl
      · simp only [Act.put, List.setIfInBounds_toArray, List.set_cons_zero, List.set_cons_succ, Go.Proofs.YtcbcoaafdggniaaW.PrintLast.i64_w, Go.Proofs.YtcbcoaafdggniaaW.PrintLast.i32_w]
        rfl
      refine seq_take (v := ?_) (a' := ?_) rfl rfl (by rfl) (fun w' hw' => ?_) ?_ ?_
      rotate_left 2
      · go_simp
        with_reducible rfl
      · simp only [Act.put, List.setIfInBounds_toArray, List.set_cons_zero, List.set_cons_succ, Go.Proofs.YtcbcoaafdggniaaW.PrintLast.i64_w, Go.Proofs.YtcbcoaafdggniaaW.PrintLast.i32_w]
        rfl
      refine seq_quiet (v := ?_) (a' := ?_) rfl rfl (by rfl) rfl Try.func14 (by kernel_rfl) rfl #[.slice AP (sealL Y).length cP] (by simp only [List.map_toArray, List.map_cons, List.map_nil]; rfl) (fun w' hw' => ?_) ?_ ?_
      rotate_left 2
      · with_reducible exact HPK.out w' (Kd.C_below HP8.out hw'.bel)
      · simp only [Act.put, List.setIfInBounds_toArray, List.set_cons_zero, List.set_cons_succ, Go.Proofs.YtcbcoaafdggniaaW.PrintLast.i64_w, Go.Proofs.YtcbcoaafdggniaaW.PrintLast.i32_w]
        rfl
      refine seq_take (v := ?_) (a' := ?_) rfl rfl (by rfl) (fun w' hw' => ?_) ?_ ?_
      rotate_left 2
      · go_simp
        with_reducible rfl
      · simp only [Act.put, List.setIfInBounds_toArray, List.set_cons_zero, List.set_cons_succ, Go.Proofs.YtcbcoaafdggniaaW.PrintLast.i64_w, Go.Proofs.YtcbcoaafdggniaaW.PrintLast.i32_w]
        rfl
      refine seq_take (v := ?_) (a' := ?_) rfl rfl (by rfl) (fun w' hw' => ?_) ?_ ?_
      rotate_left 2
      · go_simp
        with_reducible rfl
      · simp only [Act.put, List.setIfInBounds_toArray, List.set_cons_zero, List.set_cons_succ, Go.Proofs.YtcbcoaafdggniaaW.PrintLast.i64_w, Go.Proofs.YtcbcoaafdggniaaW.PrintLast.i32_w]
        rfl
      refine seq_take (v := ?_) (a' := ?_) rfl rfl (by rfl) (fun w' hw' => ?_) ?_ ?_
      rotate_left 2
      · go_simp
        with_reducible rfl
      · simp only [Act.put, List.setIfInBounds_toArray, List.set_cons_zero, List.set_cons_succ, Go.Proofs.YtcbcoaafdggniaaW.PrintLast.i64_w, Go.Proofs.YtcbcoaafdggniaaW.PrintLast.i32_w]
        rfl
      refine seq_take (v := ?_) (a' := ?_) rfl rfl (by rfl) (fun w' hw' => ?_) ?_ ?_
      rotate_left 2
      · go_simp
        with_reducible rfl
      · simp only [Act.put, List.setIfInBounds_toArray, List.set_cons_zero, List.set_cons_succ, Go.Proofs.YtcbcoaafdggniaaW.PrintLast.i64_w, Go.Proofs.YtcbcoaafdggniaaW.PrintLast.i32_w]
        rfl
      refine seq_take (v := ?_) (a' := ?_) rfl rfl (by rfl) (fun w' hw' => ?_) ?_ ?_
      rotate_left 2
      · go_simp
        with_reducible rfl
      · simp only [Act.put, List.setIfInBounds_toArray, List.set_cons_zero, List.set_cons_succ, Go.Proofs.YtcbcoaafdggniaaW.PrintLast.i64_w, Go.Proofs.YtcbcoaafdggniaaW.PrintLast.i32_w]
        rfl
      refine seq_take (v := ?_) (a' := ?_) rfl rfl (by rfl) (fun w' hw' => ?_) ?_ ?_
      rotate_left 2
      · have hq := pw_cell_below hw' HC8.out; go_simp
        with_reducible rfl
      · simp only [Act.put, List.setIfInBounds_toArray, List.set_cons_zero, List.set_cons_succ, Go.Proofs.YtcbcoaafdggniaaW.PrintLast.i64_w, Go.Proofs.YtcbcoaafdggniaaW.PrintLast.i32_w]
        rfl
      refine seq_take (v := ?_) (a' := ?_) rfl rfl (by rfl) (fun w' hw' => ?_) ?_ ?_
      rotate_left 2
      · go_simp
        with_reducible rfl
      · simp only [Act.put, List.setIfInBounds_toArray, List.set_cons_zero, List.set_cons_succ, Go.Proofs.YtcbcoaafdggniaaW.PrintLast.i64_w, Go.Proofs.YtcbcoaafdggniaaW.PrintLast.i32_w]
        rfl
      refine seq_take (v := ?_) (a' := ?_) rfl rfl (by rfl) (fun w' hw' => ?_) ?_ ?_
      rotate_left 2
      · go_simp
        with_reducible rfl
      · simp only [Act.put, List.setIfInBounds_toArray, List.set_cons_zero, List.set_cons_succ, Go.Proofs.YtcbcoaafdggniaaW.PrintLast.i64_w, Go.Proofs.YtcbcoaafdggniaaW.PrintLast.i32_w]
        rfl
      refine seq_take (v := ?_) (a' := ?_) rfl rfl (by rfl) (fun w' hw' => ?_) ?_ ?_
      rotate_left 2
      · have hlt := HLT.out; go_simp
        with_reducible rfl
      · simp only [Act.put, List.setIfInBounds_toArray, List.set_cons_zero, List.set_cons_succ, Go.Proofs.YtcbcoaafdggniaaW.PrintLast.i64_w, Go.Proofs.YtcbcoaafdggniaaW.PrintLast.i32_w]
        rfl
      refine seq_take (v := ?_) (a' := ?_) rfl rfl (by rfl) (fun w' hw' => ?_) ?_ ?_
      rotate_left 2
      · go_simp
        with_reducible rfl
      · simp only [Act.put, List.setIfInBounds_toArray, List.set_cons_zero, List.set_cons_succ, Go.Proofs.YtcbcoaafdggniaaW.PrintLast.i64_w, Go.Proofs.YtcbcoaafdggniaaW.PrintLast.i32_w]
        rfl
      refine seq_take (v := ?_) (a' := ?_) rfl rfl (by rfl) (fun w' hw' => ?_) ?_ ?_
      rotate_left 2
      · go_simp
        with_reducible rfl
      · simp only [Act.put, List.setIfInBounds_toArray, List.set_cons_zero, List.set_cons_succ, Go.Proofs.YtcbcoaafdggniaaW.PrintLast.i64_w, Go.Proofs.YtcbcoaafdggniaaW.PrintLast.i32_w]
        rfl
      refine seq_end ?_
      clear hw1
      go_wp2
      go_roundw
      case rel => exact ⟨k + 1, by omega, by go_num, HB.out.trans (Below.mono (Later.trans L5.out (Later.trans L6.out (Later.trans (Below.drew (Later.refl w6)) L8.out))) HB.out.size)⟩
      case measure => simp [intOf]; omega
    · have hk2I : ¬ (k : Int) < 2 := by omega
      go_wp2_with (go_at_call 15; (with_reducible refine at_cw wr ?_); refine (lives_calls wr).mono ?_; rintro e w5 ⟨rfl, hB⟩; have L5 : Aside0 (Later wr w5) := ⟨hB⟩; clear hB)
      (try simp only [Exit.inBlock, Exit.then])
      refine bodyPost_ret (results_tmp rfl _ _ _) rfl ⟨rfl, ?_⟩
      exact Later.trans LW.out (Later.trans HB.out L5.out)
end Go.Proofs.Ytcbcoaafdggniaa
