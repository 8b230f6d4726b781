/- WireSame's walk. -/
import Derived.Test.YtbagphegelbgcaaWire3
import Derived.Test.YtbagphegelbgcaaBag
import Derived.Test.YtbagphegelbgcaaOpenM2
import Derived.Test.YtbagphegelbgcaaWireMay
namespace Go.Proofs.Ytbagphegelbgcaa
open Go.RowKit Go.Proofs.YtbagphegelbgcaaW.PrintWords Go.Proofs.YtbagphegelbgcaaW.PrintMore
set_option linter.unusedVariables false
set_option linter.unusedSimpArgs false
def M6 (k s : Int) (nm : List Int) (b : ByteArray) (k' s' : Int) (nm' : List Int) (b' : ByteArray) : List (List Value) :=
  [Mc k s nm (.string b), Mc k' s' nm' (.string b'), Mc k' s nm (.string b), Mc k s' nm (.string b), Mc k s nm' (.string b), Mc k s nm (.string b')]
theorem M6_len {k s : Int} {nm : List Int} {b : ByteArray} {k' s' : Int} {nm' : List Int} {b' : ByteArray} (hn : nm.length = 32) (hn' : nm'.length = 32) : ∀ v ∈ M6 k s nm b k' s' nm' b', v.length = 35 := by
  intro v hv
  simp only [M6, List.mem_cons, List.not_mem_nil, or_false] at hv
  rcases hv with rfl | rfl | rfl | rfl | rfl | rfl
  · exact Mc_len hn
  · exact Mc_len hn'
  · exact Mc_len hn
  · exact Mc_len hn
  · exact Mc_len hn'
  · exact Mc_len hn
theorem M6_at {k s : Int} {nm : List Int} {b : ByteArray} {k' s' : Int} {nm' : List Int} {b' : ByteArray} (hn : nm.length = 32) (hn' : nm'.length = 32) (hb : b.size ≤ 40) (hb' : b'.size ≤ 40) (j : Nat) (hj : j < 6) :
    ∃ (k1 s1 : Int) (nm1 : List Int) (b1 : ByteArray), (M6 k s nm b k' s' nm' b')[j]? = some (Mc k1 s1 nm1 (.string b1)) ∧ nm1.length = 32 ∧ b1.size ≤ 40 := by
  obtain rfl | rfl | rfl | rfl | rfl | rfl : j = 0 ∨ j = 1 ∨ j = 2 ∨ j = 3 ∨ j = 4 ∨ j = 5 := by omega
  · exact ⟨_, _, _, _, rfl, hn, hb⟩
  · exact ⟨_, _, _, _, rfl, hn', hb'⟩
  · exact ⟨_, _, _, _, rfl, hn, hb⟩
  · exact ⟨_, _, _, _, rfl, hn, hb⟩
  · exact ⟨_, _, _, _, rfl, hn', hb⟩
  · exact ⟨_, _, _, _, rfl, hn, hb'⟩
theorem same_mSame (k s k' s' : Int) (nm nm' : List Int) (b b' : ByteArray) : mSame k s nm b k' s' nm' b' = decide (k = k' ∧ s = s' ∧ nm = nm' ∧ bytesOf b = bytesOf b') := by
  have e : (bytesOf b = bytesOf b') ↔ (b = b') := ⟨bytesOf_inj, fun h => by rw [h]⟩
  rw [Bool.eq_iff_iff]
  simp [mSame, e]

set_option maxHeartbeats 1600000 in
theorem wireSame_walk (k s : Int) (nm : List Int) (b : ByteArray) (k' s' : Int) (nm' : List Int) (b' : ByteArray) (C D : Array Value) (w : World) (hC : C = (Mc k s nm (.string b)).toArray) (hD : D = (Mc k' s' nm' (.string b')).toArray) (hn : nm.length = 32) (hn' : nm'.length = 32)
    (hm : b.size ≤ 9223372036854775807) (hm' : b'.size ≤ 9223372036854775807)
    (hk0 : -9223372036854775808 ≤ k) (hk1 : k ≤ 9223372036854775807) (hs0 : -9223372036854775808 ≤ s) (hs1 : s ≤ 9223372036854775807)
    (hk0' : -9223372036854775808 ≤ k') (hk1' : k' ≤ 9223372036854775807) (hs0' : -9223372036854775808 ≤ s') (hs1' : s' ≤ 9223372036854775807) :
    Calls Try.prog 4 #[.agg C, .agg D] w fun e w' => e = .returned (.bool true) ∧ Below w.heap.size w w' := by
  have Q0 : Bag w ((w.alloc (.cells C 25)).alloc (.cells D 25)) [(w.heap.size, .cells (Mc k s nm (.string b)).toArray 25 (0, 0)), (w.heap.size + 1, .cells (Mc k' s' nm' (.string b')).toArray 25 (0, 0))] := by
    have h := ((Bag.nil w).box C 25).box D 25
    rw [show (w.alloc (.cells C 25)).heap.size = w.heap.size + 1 by simp] at h
    rw [← hC, ← hD]
    exact h
  have HN := Aside0.mk (And.intro hn hn')
  have HG := Aside0.mk (And.intro (goodB_size k b) (goodB_size k' b'))
  clear hC hD hn hn'
  obtain ⟨it, zv, hi, hz, hs, _⟩ := m_info
  have HI := Aside0.mk (And.intro hi (And.intro hz hs))
  clear hi hz hs
  go_enter Try.func4, Try.ntmps4
  go_wp2_with (first
    | ((with_reducible refine at_ld 25 (.tmp 2) ?_); refine load_arm rfl 25 (.tmp 2) rfl rfl (ld_m (Q0.at 0 rfl) HN.out.1) ?_; simp only [Act.put, List.setIfInBounds_toArray, List.set_cons_zero, List.set_cons_succ])
    | (go_at_call 9; (with_reducible refine (good_calls k s nm b _ _ rfl HN.out.1 hm hk0 hk1 hs0 hs1).mono ?_); rintro e w1 ⟨rfl, hB1⟩; have Q1 := Q0.call hB1; clear hB1)
    | ((with_reducible refine at_al 25 ?_); refine new_m rfl rfl rfl rfl (.tmp 15) rfl (of_decide_eq_true rfl) rfl HN.out.1 rfl ?_; rintro w2 g5 N1; have Q2 := Q1.new N1; clear N1 Q0)
    | ((with_reducible refine at_ld (w := w2) 25 (.tmp 3) ?_); have hq := Q2.at 1 rfl; refine load_arm rfl 25 (.tmp 3) rfl rfl (ld_m hq HN.out.2) ?_; clear hq; simp only [Act.put, List.setIfInBounds_toArray, List.set_cons_zero, List.set_cons_succ])
    | (go_at_call 9; (with_reducible refine (good_calls k' s' nm' b' _ _ rfl HN.out.2 hm' hk0' hk1' hs0' hs1').mono ?_); rintro e w3 ⟨rfl, hB3⟩; have Q3 := Q2.call hB3; clear hB3)
    | ((with_reducible refine at_al 25 ?_); refine new_m rfl rfl rfl rfl (.tmp 17) rfl (of_decide_eq_true rfl) rfl HN.out.2 rfl ?_; rintro w4 g6 N2; have Q4 := Q3.new N2; clear N2 Q1 Q2 Q3)
    | ((with_reducible refine at_ld (w := w4) 25 (.tmp 5) ?_); have hq := Q4.at 2 rfl; refine load_arm rfl 25 (.tmp 5) rfl rfl (ld_m hq HN.out.1) ?_; clear hq; simp only [Act.put, List.setIfInBounds_toArray, List.set_cons_zero, List.set_cons_succ])
    | ((with_reducible refine at_al 25 ?_); refine new_m rfl rfl rfl rfl (.tmp 18) rfl (of_decide_eq_true rfl) rfl HN.out.1 rfl ?_; rintro w5 g7 N3; have Q5 := Q4.new N3; clear N3)
    | ((with_reducible refine at_ld (w := w5) 3 (.tmp 19) ?_); have hq := Q5.at 3 rfl; refine load_arm rfl 3 (.tmp 19) rfl rfl (ld_f0 hq HN.out.2) ?_; clear hq; simp only [Act.put, List.setIfInBounds_toArray, List.set_cons_zero, List.set_cons_succ])
    | ((with_reducible refine at_st 3 (.tmp 21) (.tmp 20) ?_); refine store_f0 rfl (.tmp 21) (.tmp 20) rfl rfl rfl (Q5.at 4 rfl) HN.out.1 ?_; rintro w6 S1; have Q6 := Q5.set 4 rfl S1; clear S1 Q4)
    | ((with_reducible refine at_ld (w := w6) 25 (.tmp 5) ?_); have hq := Q6.at 2 rfl; refine load_arm rfl 25 (.tmp 5) rfl rfl (ld_m hq HN.out.1) ?_; clear hq; simp only [Act.put, List.setIfInBounds_toArray, List.set_cons_zero, List.set_cons_succ])
    | ((with_reducible refine at_al 25 ?_); refine new_m rfl rfl rfl rfl (.tmp 22) rfl (of_decide_eq_true rfl) rfl HN.out.1 rfl ?_; rintro w7 g8 N4; have Q7 := Q6.new N4; clear N4 Q5)
    | ((with_reducible refine at_ld (w := w7) 3 (.tmp 23) ?_); have hq := Q7.at 3 rfl; refine load_arm rfl 3 (.tmp 23) rfl rfl (ld_f1 hq HN.out.2) ?_; clear hq; simp only [Act.put, List.setIfInBounds_toArray, List.set_cons_zero, List.set_cons_succ])
    | ((with_reducible refine at_st 3 (.tmp 25) (.tmp 24) ?_); refine store_f1 rfl (.tmp 25) (.tmp 24) rfl rfl rfl (Q7.at 5 rfl) HN.out.1 ?_; rintro w8 S2; have Q8 := Q7.set 5 rfl S2; clear S2 Q6)
    | ((with_reducible refine at_ld (w := w8) 25 (.tmp 5) ?_); have hq := Q8.at 2 rfl; refine load_arm rfl 25 (.tmp 5) rfl rfl (ld_m hq HN.out.1) ?_; clear hq; simp only [Act.put, List.setIfInBounds_toArray, List.set_cons_zero, List.set_cons_succ])
    | ((with_reducible refine at_al 25 ?_); refine new_m rfl rfl rfl rfl (.tmp 26) rfl (of_decide_eq_true rfl) rfl HN.out.1 rfl ?_; rintro w9 g9 N5; have Q9 := Q8.new N5; clear N5 Q7)
    | ((with_reducible refine at_ld (w := w9) 23 (.tmp 27) ?_); have hq := Q9.at 3 rfl; refine load_arm rfl 23 (.tmp 27) rfl rfl (ld_f2 hq HN.out.2) ?_; clear hq; simp only [Act.put, List.setIfInBounds_toArray, List.set_cons_zero, List.set_cons_succ])
    | ((with_reducible refine at_st 23 (.tmp 29) (.tmp 28) ?_); refine store_f2 rfl (.tmp 29) (.tmp 28) rfl rfl rfl (Q9.at 6 rfl) HN.out.1 HN.out.2 ?_; rintro w10 S3; have Q10 := Q9.set 6 rfl S3; clear S3 Q8)
    | ((with_reducible refine at_ld (w := w10) 25 (.tmp 5) ?_); have hq := Q10.at 2 rfl; refine load_arm rfl 25 (.tmp 5) rfl rfl (ld_m hq HN.out.1) ?_; clear hq; simp only [Act.put, List.setIfInBounds_toArray, List.set_cons_zero, List.set_cons_succ])
    | ((with_reducible refine at_al 25 ?_); refine new_m rfl rfl rfl rfl (.tmp 30) rfl (of_decide_eq_true rfl) rfl HN.out.1 rfl ?_; rintro w11 g10 N6; have Q11 := Q10.new N6; clear N6 Q9)
    | ((with_reducible refine at_ld (w := w11) 9 (.tmp 31) ?_); have hq := Q11.at 3 rfl; refine load_arm rfl 9 (.tmp 31) rfl rfl (ld_f3s hq HN.out.2) ?_; clear hq; simp only [Act.put, List.setIfInBounds_toArray, List.set_cons_zero, List.set_cons_succ])
    | ((with_reducible refine at_st 9 (.tmp 33) (.tmp 32) ?_); refine store_f3s rfl (.tmp 33) (.tmp 32) rfl rfl rfl (Q11.at 7 rfl) HN.out.1 ?_; rintro w12 S4; have Q12 := Q11.set 7 rfl S4; clear S4 Q10)
    | ((with_reducible refine at_ld (w := w12) 25 (.tmp 5) ?_); have hq := Q12.at 2 rfl; refine load_arm rfl 25 (.tmp 5) rfl rfl (ld_m hq HN.out.1) ?_; clear hq; simp only [Act.put, List.setIfInBounds_toArray, List.set_cons_zero, List.set_cons_succ])
    | ((with_reducible refine at_ld (w := w12) 25 (.tmp 6) ?_); have hq := Q12.at 3 rfl; refine load_arm rfl 25 (.tmp 6) rfl rfl (ld_m hq HN.out.2) ?_; clear hq; simp only [Act.put, List.setIfInBounds_toArray, List.set_cons_zero, List.set_cons_succ])
    | ((with_reducible refine at_ld (w := w12) 25 (.tmp 7) ?_); have hq := Q12.at 4 rfl; refine load_arm rfl 25 (.tmp 7) rfl rfl (ld_m hq HN.out.1) ?_; clear hq; simp only [Act.put, List.setIfInBounds_toArray, List.set_cons_zero, List.set_cons_succ])
    | ((with_reducible refine at_ld (w := w12) 25 (.tmp 8) ?_); have hq := Q12.at 5 rfl; refine load_arm rfl 25 (.tmp 8) rfl rfl (ld_m hq HN.out.1) ?_; clear hq; simp only [Act.put, List.setIfInBounds_toArray, List.set_cons_zero, List.set_cons_succ])
    | ((with_reducible refine at_ld (w := w12) 25 (.tmp 9) ?_); have hq := Q12.at 6 rfl; refine load_arm rfl 25 (.tmp 9) rfl rfl (ld_m hq HN.out.2) ?_; clear hq; simp only [Act.put, List.setIfInBounds_toArray, List.set_cons_zero, List.set_cons_succ])
    | ((with_reducible refine at_ld (w := w12) 25 (.tmp 10) ?_); have hq := Q12.at 7 rfl; refine load_arm rfl 25 (.tmp 10) rfl rfl (ld_m hq HN.out.1) ?_; clear hq; simp only [Act.put, List.setIfInBounds_toArray, List.set_cons_zero, List.set_cons_succ])
    | ((with_reducible refine at_bs 30 ?_); refine rows_arm rfl _ _ rfl Try.underlying30 HI.out.1 HI.out.2.1 HI.out.2.2 (M6 (goodK k) (goodS s) nm (goodB k b) (goodK k') (goodS s') nm' (goodB k' b')) (M6_len HN.out.1 HN.out.2) (show 6 * 35 ≤ 2 ^ 24 by decide) (show 6 * 35 ≠ 0 by decide) rfl rfl ?_; rintro w13 ga N7; have Q13 := Q12.new N7; clear N7 Q11))
  have hGA := Q13.at 8 rfl
  have HB13 := Aside0.mk Q13.below
  have hat := fun j hj => M6_at (k := goodK k) (s := goodS s) (nm := nm) (b := goodB k b) (k' := goodK k') (s' := goodS s') (nm' := nm') (b' := goodB k' b') HN.out.1 HN.out.2 HG.out.1 HG.out.2 j hj
  have hML := M6_len (k := goodK k) (s := goodS s) (nm := nm) (b := goodB k b) (k' := goodK k') (s' := goodS s') (nm' := nm') (b' := goodB k' b') HN.out.1 HN.out.2
  clear Q12 Q13
  generalize M6 (goodK k) (goodS s) nm (goodB k b) (goodK k') (goodS s') nm' (goodB k' b') = vs at *
  have HGA := Aside0.mk hGA
  have HAT := Aside0.mk hat
  have HML := Aside0.mk hML
  clear hGA hat hML
  go_loopw [12] (fun i wr => ∃ j : Nat, j ≤ 6 ∧ i = .int .i64 j ∧ Below w13.heap.size w13 wr) (fun i _ => 6 - (intOf i).toNat)
  case atStart => exact ⟨0, by omega, rfl, Below.refl _ _⟩
  case round =>
    obtain ⟨j, hj, rfl, hB⟩ := hrel
    have HB := Aside0.mk hB
    clear hB
    by_cases hlt : j < 6
    · obtain ⟨k1, s1, nm1, b1, hv1, hn1, hb1⟩ := HAT.out j hlt
      have HLD1 : Aside0 (∀ W, Below w13.heap.size w13 W → (Instr.loadAt 25 (.pointer (some ⟨ga, j * 35, none⟩))).run Try.prog W = .ok (.agg (Mc k1 s1 nm1 (.string b1)).toArray) W) := ⟨fun W hW => run_loadAt_mid W ga (j * 35) 25 _ _ (rows_range (blk_below hW HGA.out) HML.out hv1) Try.underlying25 rfl (size_m hn1)⟩
      have HN1 := Aside0.mk hn1
      clear hv1 hn1
      go_wp2
      go_loopw [13] (fun i wr' => ∃ j2 : Nat, j2 ≤ 6 ∧ i = .int .i64 j2 ∧ Below w13.heap.size w13 wr') (fun i _ => 6 - (intOf i).toNat)
      case atStart => exact ⟨0, by omega, rfl, HB.out⟩
      case round =>
        obtain ⟨j2, hj2, rfl, hB2⟩ := hrel
        have HB2 := Aside0.mk hB2
        clear hB2
        by_cases hlt2 : j2 < 6
        · obtain ⟨k2, s2, nm2, b2, hv2, hn2, hb2⟩ := HAT.out j2 hlt2
          have HLD2 : Aside0 (∀ W, Below w13.heap.size w13 W → (Instr.loadAt 25 (.pointer (some ⟨ga, j2 * 35, none⟩))).run Try.prog W = .ok (.agg (Mc k2 s2 nm2 (.string b2)).toArray) W) := ⟨fun W hW => run_loadAt_mid W ga (j2 * 35) 25 _ _ (rows_range (blk_below hW HGA.out) HML.out hv2) Try.underlying25 rfl (size_m hn2)⟩
          have HN2 := Aside0.mk hn2
          clear hv2 hn2
          obtain ⟨D0, hD0⟩ : ∃ D0, D0 = decide (k1 = k2 ∧ s1 = s2 ∧ nm1 = nm2 ∧ bytesOf b1 = bytesOf b2) := ⟨_, rfl⟩
          have HEQ : Aside0 (∀ W, (binOp .eql 25 (.agg (Mc k1 s1 nm1 (.string b1)).toArray) (.agg (Mc k2 s2 nm2 (.string b2)).toArray)).run Try.prog W = .ok (.bool D0) W) := ⟨fun W => by rw [m_eql HN1.out HN2.out, same_mSame, hD0]⟩
          have HD0 := Aside0.mk hD0
          clear hD0
          have hgd : Try.prog.eqGuardType Try.prog.depth 25 = false := by kernel_rfl
          have hb1' : b1.size ≤ 140737488355328 := by omega
          have hb2' : b2.size ≤ 140737488355328 := by omega
          go_wp2
          have E0 := Aside0.mk (Below.drew HB2.out)
          refine seq_start [] (.take 0 (.take 1 (.take 2 (.take 3 (.take 5 (.take 6 (.take 7 (.take 8 (.take 11 (.take 12 (.take 13 (.take 14 (.take 15 (.take 16 (.take 17 (.take 18 (.take 19 (.run 4 (.run 9 (.run 10 (.take 20 .done))))))))))))))))))))) (by kernel_rfl) (by kernel_rfl) (fun _ _ d _ _ h => by cases d <;> exact h) ?_
          refine seq_take (v := ?_) (a' := ?_) rfl rfl (by rfl) (fun w' hw' => ?_) ?_ ?_
          rotate_left 2
          · go_simp
            with_reducible rfl
          · simp only [Act.put, List.setIfInBounds_toArray, List.set_cons_zero, List.set_cons_succ, Go.Proofs.YtbagphegelbgcaaW.PrintLast.i64_w, Go.Proofs.YtbagphegelbgcaaW.PrintLast.i32_w]
            rfl
          refine seq_take (v := ?_) (a' := ?_) rfl rfl (by rfl) (fun w' hw' => ?_) ?_ ?_
          rotate_left 2
          · go_simp
            with_reducible rfl
          · simp only [Act.put, List.setIfInBounds_toArray, List.set_cons_zero, List.set_cons_succ, Go.Proofs.YtbagphegelbgcaaW.PrintLast.i64_w, Go.Proofs.YtbagphegelbgcaaW.PrintLast.i32_w]
            rfl
          refine seq_take (v := ?_) (a' := ?_) rfl rfl (by rfl) (fun w' hw' => ?_) ?_ ?_
          rotate_left 2
          · go_simp
            with_reducible rfl
          · simp only [Act.put, List.setIfInBounds_toArray, List.set_cons_zero, List.set_cons_succ, Go.Proofs.YtbagphegelbgcaaW.PrintLast.i64_w, Go.Proofs.YtbagphegelbgcaaW.PrintLast.i32_w]
            rfl
          refine seq_take (v := _) (a' := ?_) rfl rfl (by rfl) (fun w' hw' => load_run rfl (p := .pointer (some ⟨ga, j * 35, none⟩)) rfl (HLD1.out _ (E0.out.trans (Below.mono hw' E0.out.size)))) ?_ ?_
          rotate_left
          · simp only [Act.put, List.setIfInBounds_toArray, List.set_cons_zero, List.set_cons_succ, Go.Proofs.YtbagphegelbgcaaW.PrintLast.i64_w, Go.Proofs.YtbagphegelbgcaaW.PrintLast.i32_w]
            rfl
          refine seq_take (v := ?_) (a' := ?_) rfl rfl (by rfl) (fun w' hw' => ?_) ?_ ?_
          rotate_left 2
          · go_simp
            with_reducible rfl
          · simp only [Act.put, List.setIfInBounds_toArray, List.set_cons_zero, List.set_cons_succ, Go.Proofs.YtbagphegelbgcaaW.PrintLast.i64_w, Go.Proofs.YtbagphegelbgcaaW.PrintLast.i32_w]
            rfl
          refine seq_take (v := ?_) (a' := ?_) rfl rfl (by rfl) (fun w' hw' => ?_) ?_ ?_
          rotate_left 2
          · go_simp
            with_reducible rfl
          · simp only [Act.put, List.setIfInBounds_toArray, List.set_cons_zero, List.set_cons_succ, Go.Proofs.YtbagphegelbgcaaW.PrintLast.i64_w, Go.Proofs.YtbagphegelbgcaaW.PrintLast.i32_w]
            rfl
          refine seq_take (v := ?_) (a' := ?_) rfl rfl (by rfl) (fun w' hw' => ?_) ?_ ?_
          rotate_left 2
          · go_simp
            with_reducible rfl
          · simp only [Act.put, List.setIfInBounds_toArray, List.set_cons_zero, List.set_cons_succ, Go.Proofs.YtbagphegelbgcaaW.PrintLast.i64_w, Go.Proofs.YtbagphegelbgcaaW.PrintLast.i32_w]
            rfl
          refine seq_take (v := _) (a' := ?_) rfl rfl (by rfl) (fun w' hw' => load_run rfl (p := .pointer (some ⟨ga, j2 * 35, none⟩)) rfl (HLD2.out _ (E0.out.trans (Below.mono hw' E0.out.size)))) ?_ ?_
          rotate_left
          · simp only [Act.put, List.setIfInBounds_toArray, List.set_cons_zero, List.set_cons_succ, Go.Proofs.YtbagphegelbgcaaW.PrintLast.i64_w, Go.Proofs.YtbagphegelbgcaaW.PrintLast.i32_w]
            rfl
          refine seq_take (v := ?_) (a' := ?_) rfl rfl (by rfl) (fun w' hw' => ?_) ?_ ?_
          rotate_left 2
          · go_simp
            with_reducible rfl
          · simp only [Act.put, List.setIfInBounds_toArray, List.set_cons_zero, List.set_cons_succ, Go.Proofs.YtbagphegelbgcaaW.PrintLast.i64_w, Go.Proofs.YtbagphegelbgcaaW.PrintLast.i32_w]
            rfl
          refine seq_take (v := ?_) (a' := ?_) rfl rfl (by rfl) (fun w' hw' => ?_) ?_ ?_
          rotate_left 2
          · go_simp
            with_reducible rfl
          · simp only [Act.put, List.setIfInBounds_toArray, List.set_cons_zero, List.set_cons_succ, Go.Proofs.YtbagphegelbgcaaW.PrintLast.i64_w, Go.Proofs.YtbagphegelbgcaaW.PrintLast.i32_w]
            rfl
          refine seq_take (v := ?_) (a' := ?_) rfl rfl (by rfl) (fun w' hw' => ?_) ?_ ?_
          rotate_left 2
          · go_simp
            with_reducible rfl
          · simp only [Act.put, List.setIfInBounds_toArray, List.set_cons_zero, List.set_cons_succ, Go.Proofs.YtbagphegelbgcaaW.PrintLast.i64_w, Go.Proofs.YtbagphegelbgcaaW.PrintLast.i32_w]
            rfl
          refine seq_take (v := _) (a' := ?_) rfl rfl (by rfl) (fun w' hw' => load_run rfl (p := .pointer (some ⟨ga, j * 35, none⟩)) rfl (HLD1.out _ (E0.out.trans (Below.mono hw' E0.out.size)))) ?_ ?_
          rotate_left
          · simp only [Act.put, List.setIfInBounds_toArray, List.set_cons_zero, List.set_cons_succ, Go.Proofs.YtbagphegelbgcaaW.PrintLast.i64_w, Go.Proofs.YtbagphegelbgcaaW.PrintLast.i32_w]
            rfl
          refine seq_take (v := ?_) (a' := ?_) rfl rfl (by rfl) (fun w' hw' => ?_) ?_ ?_
          rotate_left 2
          · go_simp
            with_reducible rfl
          · simp only [Act.put, List.setIfInBounds_toArray, List.set_cons_zero, List.set_cons_succ, Go.Proofs.YtbagphegelbgcaaW.PrintLast.i64_w, Go.Proofs.YtbagphegelbgcaaW.PrintLast.i32_w]
            rfl
          refine seq_take (v := ?_) (a' := ?_) rfl rfl (by rfl) (fun w' hw' => ?_) ?_ ?_
          rotate_left 2
          · go_simp
            with_reducible rfl
          · simp only [Act.put, List.setIfInBounds_toArray, List.set_cons_zero, List.set_cons_succ, Go.Proofs.YtbagphegelbgcaaW.PrintLast.i64_w, Go.Proofs.YtbagphegelbgcaaW.PrintLast.i32_w]
            rfl
          refine seq_take (v := ?_) (a' := ?_) rfl rfl (by rfl) (fun w' hw' => ?_) ?_ ?_
          rotate_left 2
          · go_simp
            with_reducible rfl
          · simp only [Act.put, List.setIfInBounds_toArray, List.set_cons_zero, List.set_cons_succ, Go.Proofs.YtbagphegelbgcaaW.PrintLast.i64_w, Go.Proofs.YtbagphegelbgcaaW.PrintLast.i32_w]
            rfl
          refine seq_take (v := _) (a' := ?_) rfl rfl (by rfl) (fun w' hw' => load_run rfl (p := .pointer (some ⟨ga, j2 * 35, none⟩)) rfl (HLD2.out _ (E0.out.trans (Below.mono hw' E0.out.size)))) ?_ ?_
          rotate_left
          · simp only [Act.put, List.setIfInBounds_toArray, List.set_cons_zero, List.set_cons_succ, Go.Proofs.YtbagphegelbgcaaW.PrintLast.i64_w, Go.Proofs.YtbagphegelbgcaaW.PrintLast.i32_w]
            rfl
          refine seq_take (v := _) (a' := ?_) rfl rfl (by rfl) (fun w' hw' => (bin_run .eql 25 (.tmp 63) (.tmp 67) 25 rfl (p := .agg (Mc k1 s1 nm1 (.string b1)).toArray) (q := .agg (Mc k2 s2 nm2 (.string b2)).toArray) rfl rfl (run_eqGuard_agg _ .eql _ _ _ _ _ hgd) (HEQ.out _))) ?_ ?_
          rotate_left
          · simp only [Act.put, List.setIfInBounds_toArray, List.set_cons_zero, List.set_cons_succ, Go.Proofs.YtbagphegelbgcaaW.PrintLast.i64_w, Go.Proofs.YtbagphegelbgcaaW.PrintLast.i32_w]
            rfl
          refine seq_run ?_
          refine do_call rfl rfl (by rfl) rfl Try.func14 (by kernel_rfl) rfl #[.agg (Mc k1 s1 nm1 (.string b1)).toArray] (by simp only [List.map_toArray, List.map_cons, List.map_nil]; rfl) ?_
          with_reducible refine (of_calls k1 s1 nm1 b1 _ _ rfl HN1.out hb1').mono ?_
          rintro e x1 ⟨A1, c1, rfl, hR1, hc1, hC1⟩
          refine ⟨_, ?_, rfl, ?_, fun _ => hC1, ?_⟩
          rotate_left
          · simp only [Act.put, List.setIfInBounds_toArray, List.set_cons_zero, List.set_cons_succ, Go.Proofs.YtbagphegelbgcaaW.PrintLast.i64_w, Go.Proofs.YtbagphegelbgcaaW.PrintLast.i32_w]
            rfl
          refine seq_run ?_
          refine do_call rfl rfl (by rfl) rfl Try.func14 (by kernel_rfl) rfl #[.agg (Mc k2 s2 nm2 (.string b2)).toArray] (by simp only [List.map_toArray, List.map_cons, List.map_nil]; rfl) ?_
          with_reducible refine (of_calls k2 s2 nm2 b2 _ _ rfl HN2.out hb2').mono ?_
          rintro e x2 ⟨A2, c2, rfl, hR2, hc2, hC2⟩
          refine ⟨_, ?_, rfl, ?_, fun _ => hC2, ?_⟩
          rotate_left
          · simp only [Act.put, List.setIfInBounds_toArray, List.set_cons_zero, List.set_cons_succ, Go.Proofs.YtbagphegelbgcaaW.PrintLast.i64_w, Go.Proofs.YtbagphegelbgcaaW.PrintLast.i32_w]
            rfl
          refine seq_run ?_
          refine do_call rfl rfl (by rfl) rfl Try.func18 (by kernel_rfl) rfl #[.agg (Mc k1 s1 nm1 (.slice A1 b1.size c1)).toArray, .agg (Mc k2 s2 nm2 (.slice A2 b2.size c2)).toArray] (by simp only [List.map_toArray, List.map_cons, List.map_nil]; rfl) ?_
          with_reducible refine (same_calls k1 s1 k2 s2 nm1 nm2 A1 A2 b1.size c1 b2.size c2 (bytesOf b1) (bytesOf b2) _ _ _ rfl rfl HN1.out HN2.out (Kd.C_below hR1 hC2) hR2 (bytesOf_bytes b1) (bytesOf_bytes b2)).mono ?_
          rintro e x3 ⟨rfl, hC3⟩
          refine ⟨_, ?_, rfl, ?_, fun _ => hC3, ?_⟩
          rotate_left
          · simp only [Act.put, List.setIfInBounds_toArray, List.set_cons_zero, List.set_cons_succ, Go.Proofs.YtbagphegelbgcaaW.PrintLast.i64_w, Go.Proofs.YtbagphegelbgcaaW.PrintLast.i32_w]
            rfl
          rw [← HD0.out]
          refine seq_take (v := ?_) (a' := ?_) rfl rfl (by rfl) (fun w' hw' => ?_) ?_ ?_
          rotate_left 2
          · go_simp
            with_reducible rfl
          · simp only [Act.put, List.setIfInBounds_toArray, List.set_cons_zero, List.set_cons_succ, Go.Proofs.YtbagphegelbgcaaW.PrintLast.i64_w, Go.Proofs.YtbagphegelbgcaaW.PrintLast.i32_w]
            rfl
          refine seq_end ?_
          go_wp2
          go_roundw
          case rel => exact ⟨j2 + 1, by omega, by go_num, below_tr (below_tr (below_tr E0.out hC1 E0.out.size) hC2 (by have := hC1.size; have := E0.out.size; omega)) hC3 (by have := hC1.size; have := hC2.size; have := E0.out.size; omega)⟩
          case measure => simp [intOf]; omega
        · obtain rfl : j2 = 6 := by omega
          go_wp2
          go_roundw
          case rel => exact ⟨j + 1, by omega, by go_num, HB2.out⟩
          case measure => simp [intOf]; omega
    · obtain rfl : j = 6 := by omega
      go_wp2_with (go_at_call 17; refine (lives_calls wr).mono ?_; rintro e u1 ⟨rfl, hC1⟩)
      go_ret
      exact ⟨rfl, (HB13.out.trans (HB.out.mono HB13.out.size)).trans (hC1.mono (Nat.le_trans HB13.out.size HB.out.size))⟩
end Go.Proofs.Ytbagphegelbgcaa
