/- WireAnswers' walk. -/
import Derived.Test.YtbagphegelbgcaaWire4
import Derived.Test.YtbagphegelbgcaaOpenM2
import Derived.Test.YtbagphegelbgcaaWireMay
namespace Go.Proofs.Ytbagphegelbgcaa
open Go.RowKit Go.Proofs.YtbagphegelbgcaaW.PrintWords Go.Proofs.YtbagphegelbgcaaW.PrintMore
set_option linter.unusedVariables false
set_option linter.unusedSimpArgs false
def M2 (k s : Int) (nm : List Int) (b : ByteArray) : List (List Value) :=
  [Mc k s nm (.string (strOfNums ((bytesOf b).take 40))), Mc (goodK k) (goodS s) nm (.string (goodB k b))]
theorem M2_len {k s : Int} {nm : List Int} {b : ByteArray} (hn : nm.length = 32) : ∀ v ∈ M2 k s nm b, v.length = 35 := by
  intro v hv
  simp only [M2, List.mem_cons, List.not_mem_nil, or_false] at hv
  rcases hv with rfl | rfl
  · exact Mc_len hn
  · exact Mc_len hn
theorem M2_at {k s : Int} {nm : List Int} {b : ByteArray} (hn : nm.length = 32) (hbn : Bytes nm) (j : Nat) (hj : j < 2) :
    ∃ (k' s' : Int) (b' : ByteArray), (M2 k s nm b)[j]? = some (Mc k' s' nm (.string b')) ∧ b'.size ≤ 40 := by
  have hg := goodB_size k b
  obtain rfl | rfl : j = 0 ∨ j = 1 := by omega
  · exact ⟨_, _, _, rfl, by rw [size_str, List.length_take]; omega⟩
  · exact ⟨_, _, _, rfl, hg⟩
theorem mSame_self (k s : Int) (nm : List Int) (b : ByteArray) : mSame k s nm b k s nm b = true := by simp [mSame]

set_option maxRecDepth 20000 in
set_option maxHeartbeats 3200000 in
theorem wireAnswers_walk (k s : Int) (nm : List Int) (b : ByteArray) (A : Option Addr) (n c : Nat) (body : List Int) (has : Bool) (C : Array Value) (w : World) (hC : C = (Mc k s nm (.string b)).toArray) (hn : nm.length = 32) (hbn : Bytes nm) (hm : b.size ≤ 9223372036854775807)
    (hx : RdB w A n body) (hc : n ≤ c) (hbb : Bytes body)
    (hk0 : -9223372036854775808 ≤ k) (hk1 : k ≤ 9223372036854775807) (hs0 : -9223372036854775808 ≤ s) (hs1 : s ≤ 9223372036854775807) :
    Calls Try.prog 5 #[.agg C, .slice A n c, .bool has] w fun e w' => e = .returned (.bool true) ∧ Below w.heap.size w w' := by
  have Q0 : Bag w (w.alloc (.cells C 25)) [(w.heap.size, .cells (Mc k s nm (.string b)).toArray 25 (0, 0))] := by
    rw [← hC]
    exact (Bag.nil w).box C 25
  have Q1 : Aside0 (∀ o, Bag w ((w.alloc (.cells C 25)).alloc (.cells o 25)).drew [(w.heap.size, .cells (Mc k s nm (.string b)).toArray 25 (0, 0)), (w.heap.size + 1, .cells o 25 (0, 0))]) := ⟨fun o => by
    have h := (((Bag.nil w).box C 25).box o 25).drew
    rw [show (w.alloc (.cells C 25)).heap.size = w.heap.size + 1 by simp] at h
    rw [← hC]
    exact h⟩
  have hq0 := Q0.drew.at 0 rfl
  have HQ0 := Aside0.mk hq0
  have HN := Aside0.mk hn
  have HX := Aside0.mk hx
  clear hC hn Q0 hx hq0
  obtain ⟨it, zv, hi, hz, hs, _⟩ := m_info
  go_enter Try.func5, Try.ntmps5
  go_wp2
  refine seq_start [11] (.take 0 (.take 1 (.take 2 (.take 3 (.take 4 (.take 5 (.take 6 (.take 7 (.take 8 (.take 9 (.run 10 (.run 11 .done)))))))))))) (by kernel_rfl) (by kernel_rfl) (fun _ _ d _ _ h => by cases d <;> exact h) ?_
  refine seq_take (v := ?_) (a' := ?_) rfl rfl (by rfl) (fun w' hw' => ?_) ?_ ?_
  rotate_left 2
  · go_simp
    with_reducible rfl
  · simp only [Act.put, List.setIfInBounds_toArray, List.set_cons_zero, List.set_cons_succ, Go.Proofs.YtbagphegelbgcaaW.PrintLast.i64_w, Go.Proofs.YtbagphegelbgcaaW.PrintLast.i32_w]
    rfl
  refine seq_take (v := _) (a' := ?_) rfl rfl (by rfl) (fun w' hw' => load_run rfl (p := .pointer (some ⟨w.heap.size, 0, none⟩)) rfl (ld_f0 (hw'.heap HQ0.out) HN.out)) ?_ ?_
  rotate_left
  · simp only [Act.put, List.setIfInBounds_toArray, List.set_cons_zero, List.set_cons_succ, Go.Proofs.YtbagphegelbgcaaW.PrintLast.i64_w, Go.Proofs.YtbagphegelbgcaaW.PrintLast.i32_w]
    rfl
  refine seq_take (v := ?_) (a' := ?_) rfl rfl (by rfl) (fun w' hw' => ?_) ?_ ?_
  rotate_left 2
  · go_simp
    with_reducible rfl
  · simp only [Act.put, List.setIfInBounds_toArray, List.set_cons_zero, List.set_cons_succ, Go.Proofs.YtbagphegelbgcaaW.PrintLast.i64_w, Go.Proofs.YtbagphegelbgcaaW.PrintLast.i32_w]
    rfl
  refine seq_take (v := _) (a' := ?_) rfl rfl (by rfl) (fun w' hw' => load_run rfl (p := .pointer (some ⟨w.heap.size, 1, none⟩)) rfl (ld_f1 (hw'.heap HQ0.out) HN.out)) ?_ ?_
  rotate_left
  · simp only [Act.put, List.setIfInBounds_toArray, List.set_cons_zero, List.set_cons_succ, Go.Proofs.YtbagphegelbgcaaW.PrintLast.i64_w, Go.Proofs.YtbagphegelbgcaaW.PrintLast.i32_w]
    rfl
  refine seq_take (v := ?_) (a' := ?_) rfl rfl (by rfl) (fun w' hw' => ?_) ?_ ?_
  rotate_left 2
  · go_simp
    with_reducible rfl
  · simp only [Act.put, List.setIfInBounds_toArray, List.set_cons_zero, List.set_cons_succ, Go.Proofs.YtbagphegelbgcaaW.PrintLast.i64_w, Go.Proofs.YtbagphegelbgcaaW.PrintLast.i32_w]
    rfl
  refine seq_take (v := _) (a' := ?_) rfl rfl (by rfl) (fun w' hw' => load_run rfl (p := .pointer (some ⟨w.heap.size, 2, none⟩)) rfl (ld_f2 (hw'.heap HQ0.out) HN.out)) ?_ ?_
  rotate_left
  · simp only [Act.put, List.setIfInBounds_toArray, List.set_cons_zero, List.set_cons_succ, Go.Proofs.YtbagphegelbgcaaW.PrintLast.i64_w, Go.Proofs.YtbagphegelbgcaaW.PrintLast.i32_w]
    rfl
  refine seq_take (v := ?_) (a' := ?_) rfl rfl (by rfl) (fun w' hw' => ?_) ?_ ?_
  rotate_left 2
  · go_simp
    with_reducible rfl
  · simp only [Act.put, List.setIfInBounds_toArray, List.set_cons_zero, List.set_cons_succ, Go.Proofs.YtbagphegelbgcaaW.PrintLast.i64_w, Go.Proofs.YtbagphegelbgcaaW.PrintLast.i32_w]
    rfl
  refine seq_take (v := _) (a' := ?_) rfl rfl (by rfl) (fun w' hw' => load_run rfl (p := .pointer (some ⟨w.heap.size, 34, none⟩)) rfl (ld_f3s (hw'.heap HQ0.out) HN.out)) ?_ ?_
  rotate_left
  · simp only [Act.put, List.setIfInBounds_toArray, List.set_cons_zero, List.set_cons_succ, Go.Proofs.YtbagphegelbgcaaW.PrintLast.i64_w, Go.Proofs.YtbagphegelbgcaaW.PrintLast.i32_w]
    rfl
  refine seq_quiet (v := ?_) (a' := ?_) rfl rfl (by rfl) rfl Try.func11 (by kernel_rfl) rfl #[.string b, .int .i64 40] (by simp only [List.map_toArray, List.map_cons, List.map_nil]; rfl) (fun w' hw' => ?_) ?_ ?_
  rotate_left 2
  · with_reducible exact short40 b w' hm
  · simp only [Act.put, List.setIfInBounds_toArray, List.set_cons_zero, List.set_cons_succ, Go.Proofs.YtbagphegelbgcaaW.PrintLast.i64_w, Go.Proofs.YtbagphegelbgcaaW.PrintLast.i32_w]
    rfl
  refine seq_take (v := _) (a' := ?_) rfl rfl (by rfl) (fun w' hw' => build_run _ _ rfl (built_m4 k s nm _ HN.out)) ?_ ?_
  rotate_left
  · simp only [Act.put, List.setIfInBounds_toArray, List.set_cons_zero, List.set_cons_succ, Go.Proofs.YtbagphegelbgcaaW.PrintLast.i64_w, Go.Proofs.YtbagphegelbgcaaW.PrintLast.i32_w]
    rfl
  refine seq_run ?_
  refine do_val (v := ?_) (a' := ?_) (w1 := ?_) rfl rfl (by rfl) ?_ ?_ ?_
  rotate_left 3
  · go_simp
    constructor <;> rfl
  · simp only [Act.put, List.setIfInBounds_toArray, List.set_cons_zero, List.set_cons_succ, Go.Proofs.YtbagphegelbgcaaW.PrintLast.i64_w, Go.Proofs.YtbagphegelbgcaaW.PrintLast.i32_w]
    rfl
  refine ⟨fun _ => below_alloc (Below.refl _ _) _, ?_⟩
  refine seq_run ?_
  refine do_blk rfl rfl (by rfl) 25 (.tmp 7) (.tmp 26) rfl rfl rfl ((Q1.out _).at 1 rfl) (by rw [Mc_len HN.out]; rfl) (size_m HN.out) (Mc_one rfl) ?_
  rintro w1 HS
  refine ⟨fun h => absurd (by simp) h, ?_⟩
  have Q2 := (Q1.out _).set 1 rfl HS
  clear HS
  refine seq_end ?_
  go_wp2
  have Q3 := Q2.drew
  have hr0 := Q3.at 0 rfl
  have hr1 := Q3.at 1 rfl
  refine seq_start [] (.take 0 (.take 1 (.run 2 (.run 3 (.take 4 .done))))) (by kernel_rfl) (by kernel_rfl) (fun _ _ d _ _ h => by cases d <;> exact h) ?_
  refine seq_take (v := _) (a' := ?_) rfl rfl (by rfl) (fun w' hw' => load_run rfl (p := .pointer (some ⟨w.heap.size + 1, 0, none⟩)) rfl (ld_m (hw'.heap hr1) HN.out)) ?_ ?_
  rotate_left
  · simp only [Act.put, List.setIfInBounds_toArray, List.set_cons_zero, List.set_cons_succ, Go.Proofs.YtbagphegelbgcaaW.PrintLast.i64_w, Go.Proofs.YtbagphegelbgcaaW.PrintLast.i32_w]
    rfl
  refine seq_take (v := _) (a' := ?_) rfl rfl (by rfl) (fun w' hw' => load_run rfl (p := .pointer (some ⟨w.heap.size, 0, none⟩)) rfl (ld_m (hw'.heap hr0) HN.out)) ?_ ?_
  rotate_left
  · simp only [Act.put, List.setIfInBounds_toArray, List.set_cons_zero, List.set_cons_succ, Go.Proofs.YtbagphegelbgcaaW.PrintLast.i64_w, Go.Proofs.YtbagphegelbgcaaW.PrintLast.i32_w]
    rfl
  refine seq_run ?_
  refine do_call rfl rfl (by rfl) rfl Try.func9 (by kernel_rfl) rfl #[.agg (Mc k s nm (.string b)).toArray] (by simp only [List.map_toArray, List.map_cons, List.map_nil]; rfl) ?_
  with_reducible refine (good_calls k s nm b _ _ rfl HN.out hm hk0 hk1 hs0 hs1).mono ?_
  rintro e w2 ⟨rfl, hB2⟩
  refine ⟨_, ?_, rfl, ?_, fun _ => hB2, ?_⟩
  rotate_left
  · simp only [Act.put, List.setIfInBounds_toArray, List.set_cons_zero, List.set_cons_succ, Go.Proofs.YtbagphegelbgcaaW.PrintLast.i64_w, Go.Proofs.YtbagphegelbgcaaW.PrintLast.i32_w]
    rfl
  refine seq_run ?_
  refine do_val (v := _) (a' := ?_) (w1 := _) rfl rfl (by rfl) (rows_exec 2 _ rfl Try.underlying30 hi hz hs (M2 k s nm b) (M2_len HN.out) (show 2 * 35 ≤ 2 ^ 24 by decide) (show 2 * 35 ≠ 0 by decide) rfl rfl) ?_ ?_
  rotate_left
  · simp only [Act.put, List.setIfInBounds_toArray, List.set_cons_zero, List.set_cons_succ, Go.Proofs.YtbagphegelbgcaaW.PrintLast.i64_w, Go.Proofs.YtbagphegelbgcaaW.PrintLast.i32_w]
    rfl
  refine ⟨fun _ => below_alloc (Below.refl _ _) _, ?_⟩
  refine seq_take (v := ?_) (a' := ?_) rfl rfl (by rfl) (fun w' hw' => ?_) ?_ ?_
  rotate_left 2
  · go_simp
    with_reducible rfl
  · simp only [Act.put, List.setIfInBounds_toArray, List.set_cons_zero, List.set_cons_succ, Go.Proofs.YtbagphegelbgcaaW.PrintLast.i64_w, Go.Proofs.YtbagphegelbgcaaW.PrintLast.i32_w]
    rfl
  refine seq_end ?_
  have Q4 := ((Q3.call hB2).new (g := w2.heap.size) (o := .cells (M2 k s nm b).flatten.toArray 25 (0, 0)) ⟨(Below.refl _ _).alloc (Nat.le_refl _) _, blk_new w2 _, Nat.le_refl _⟩)
  obtain ⟨w3, hw3⟩ : ∃ w3, w3 = w2.alloc (.cells (M2 k s nm b).flatten.toArray 25) := ⟨_, rfl⟩
  rw [← hw3] at Q4 ⊢
  have hGA := Q4.at 2 rfl
  have HB3 := Aside0.mk Q4.below
  have hat := fun j hj => M2_at (k := k) (s := s) (nm := nm) (b := b) HN.out hbn j hj
  have hML := M2_len (k := k) (s := s) (nm := nm) (b := b) HN.out
  clear hw3 Q1 Q2 Q3 Q4 hr0 hr1 hB2 hi hz hs HQ0
  generalize M2 k s nm b = vs at *
  generalize w2.heap.size = ga at *
  have HGA := Aside0.mk hGA
  have HAT := Aside0.mk hat
  have HML := Aside0.mk hML
  clear hGA hat hML
  go_wp2_with (go_at_call 19; refine (few_new A n c body 50 _ (Kd.C_below HX.out HB3.out) hc hbb (by omega) (by omega)).mono ?_; rintro e w4 ⟨F, fc, fs, rfl, _, hfb, hfO, hfc, hfl, hfR, hfB⟩)
  -- LOOP
  have HGA4 := Aside0.mk (blk_below hfB HGA.out)
  have HB4 := Aside0.mk (HB3.out.trans (hfB.mono HB3.out.size))
  have hfl' : fs.length ≤ 50 := hfl
  clear hfB HGA HB3 hfl hfO
  go_loopw [10] (fun i wr => ∃ j : Nat, j ≤ 2 ∧ i = .int .i64 j ∧ Below w4.heap.size w4 wr) (fun i _ => 2 - (intOf i).toNat)
  case atStart => exact ⟨0, by omega, rfl, Below.refl _ _⟩
  case round =>
    obtain ⟨j, hj, rfl, hB⟩ := hrel
    have HB := Aside0.mk hB
    clear hB
    by_cases hlt : j < 2
    · obtain ⟨k', s', b', hvj, hbs⟩ := HAT.out j hlt
      have HRG : Aside0 (∀ W, Below w4.heap.size w4 W → W.rangeAt ga (j * 35) (Mc k' s' nm (.string b'))) := ⟨fun W hW => rows_range (blk_below hW HGA4.out) HML.out hvj⟩
      have HLD : Aside0 (∀ W, Below w4.heap.size w4 W → (Instr.loadAt 25 (.pointer (some ⟨ga, j * 35, none⟩))).run Try.prog W = .ok (.agg (Mc k' s' nm (.string b')).toArray) W) := ⟨fun W hW => run_loadAt_mid W ga (j * 35) 25 _ _ (HRG.out W hW) Try.underlying25 rfl (size_m HN.out)⟩
      clear hvj
      have hbs' : b'.size ≤ 140737488355328 := by omega
      have hbs2 : b'.size ≤ 9223372036854775807 := by omega
      have hgdM : Try.prog.eqGuardType Try.prog.depth 25 = false := by kernel_rfl
      cases has
      · rcases hm1 : mayB k' s' b'.size with _ | _
        · have HM := Aside0.mk hm1
          have HOK : Aside0 (ansOk k' s' b'.size false fs.length = false) := ⟨by unfold ansOk; rw [hm1]; simp⟩
          clear hm1
          go_wp2_with (first
            | ((with_reducible refine at_ld 25 (.tmp 40) ?_); refine load_arm rfl 25 (.tmp 40) rfl rfl (HLD.out _ HB.out) ?_; simp only [Act.put, List.setIfInBounds_toArray, List.set_cons_zero, List.set_cons_succ])
            | (go_at_call 14; refine (of_calls k' s' nm b' _ _ rfl HN.out hbs').mono ?_; rintro e x1 ⟨A5, c5, rfl, hR5, hc5, hC1⟩; have E1 := Aside0.mk (below_tr HB.out hC1 HB.out.size))
            | (go_at_call 20; refine (answer_calls k' s' nm A5 F b'.size c5 fs.length fc fs false _ x1 rfl HN.out hbs' (Kd.C_below (Kd.C_below hfR.out HB.out) hC1) (by omega)).mono ?_; rintro e x2 hAP; obtain ⟨k2, s2, nm2, A2, n2, c2, ys, hn2, he, hR2, hE, hC2⟩ := hAP; have E2 := Aside0.mk (below_tr E1.out hC2 E1.out.size); have hE' := hE.out; rw [HOK.out] at hE' he; simp only [if_true, if_false, Bool.false_eq_true, Prod.mk.injEq] at hE' he; obtain ⟨hk2, hs2, hnm2, hys⟩ := hE'; subst k2; subst s2; subst nm2; subst ys; subst he)
            | ((with_reducible refine at_al 36 ?_); refine new_w rfl rfl rfl rfl (.tmp 46) rfl (of_decide_eq_true rfl) rfl Z32_len rfl ?_; rintro x3 gx NX; have E3 := Aside0.mk (below_tr E2.out NX.below E2.out.size); have HR3 := Aside0.mk (Kd.C_below hR2 NX.below); have HX3 := Aside0.mk NX.at_)
            | ((with_reducible refine at_ld 25 (.tmp 50) ?_); refine load_arm rfl 25 (.tmp 50) rfl rfl (HLD.out _ E3.out) ?_; simp only [Act.put, List.setIfInBounds_toArray, List.set_cons_zero, List.set_cons_succ])
            | (go_at_call 12; refine (rmay_calls k' s' nm b' _ x3 rfl HN.out hbs2).mono ?_; rw [HM.out]; rintro e x4 ⟨rfl, hC4⟩; have E4 := Aside0.mk (below_tr E3.out hC4 E3.out.size)))
          have E4d := Aside0.mk (Below.drew E4.out)
          refine seq_start [12] (.take 0 (.take 1 (.take 2 (.take 3 (.take 4 (.take 5 (.take 6 (.take 7 (.take 8 (.take 9 (.take 10 (.run 11 (.run 12 .done))))))))))))) (by kernel_rfl) (by kernel_rfl) (fun _ _ d _ _ h => by cases d <;> exact h) ?_
          refine seq_take (v := ?_) (a' := ?_) rfl rfl (by rfl) (fun w' hw' => ?_) ?_ ?_
          rotate_left 2
          · go_simp
            with_reducible rfl
          · simp only [Act.put, List.setIfInBounds_toArray, List.set_cons_zero, List.set_cons_succ, Go.Proofs.YtbagphegelbgcaaW.PrintLast.i64_w, Go.Proofs.YtbagphegelbgcaaW.PrintLast.i32_w]
            rfl
          refine seq_take (v := ?_) (a' := ?_) rfl rfl (by rfl) (fun w' hw' => ?_) ?_ ?_
          rotate_left 2
          · go_simp
            with_reducible rfl
          · simp only [Act.put, List.setIfInBounds_toArray, List.set_cons_zero, List.set_cons_succ, Go.Proofs.YtbagphegelbgcaaW.PrintLast.i64_w, Go.Proofs.YtbagphegelbgcaaW.PrintLast.i32_w]
            rfl
          refine seq_take (v := ?_) (a' := ?_) rfl rfl (by rfl) (fun w' hw' => ?_) ?_ ?_
          rotate_left 2
          · go_simp
            with_reducible rfl
          · simp only [Act.put, List.setIfInBounds_toArray, List.set_cons_zero, List.set_cons_succ, Go.Proofs.YtbagphegelbgcaaW.PrintLast.i64_w, Go.Proofs.YtbagphegelbgcaaW.PrintLast.i32_w]
            rfl
          refine seq_take (v := ?_) (a' := ?_) rfl rfl (by rfl) (fun w' hw' => ?_) ?_ ?_
          rotate_left 2
          · go_simp
            with_reducible rfl
          · simp only [Act.put, List.setIfInBounds_toArray, List.set_cons_zero, List.set_cons_succ, Go.Proofs.YtbagphegelbgcaaW.PrintLast.i64_w, Go.Proofs.YtbagphegelbgcaaW.PrintLast.i32_w]
            rfl
          refine seq_take (v := _) (a' := ?_) rfl rfl (by rfl) (fun w' hw' => load_run rfl (p := .pointer (some ⟨ga, j * 35 + 1, none⟩)) rfl (in_f1 (HRG.out _ (E4d.out.trans (Below.mono hw' E4d.out.size))))) ?_ ?_
          rotate_left
          · simp only [Act.put, List.setIfInBounds_toArray, List.set_cons_zero, List.set_cons_succ, Go.Proofs.YtbagphegelbgcaaW.PrintLast.i64_w, Go.Proofs.YtbagphegelbgcaaW.PrintLast.i32_w]
            rfl
          refine seq_take (v := ?_) (a' := ?_) rfl rfl (by rfl) (fun w' hw' => ?_) ?_ ?_
          rotate_left 2
          · go_simp
            with_reducible rfl
          · simp only [Act.put, List.setIfInBounds_toArray, List.set_cons_zero, List.set_cons_succ, Go.Proofs.YtbagphegelbgcaaW.PrintLast.i64_w, Go.Proofs.YtbagphegelbgcaaW.PrintLast.i32_w]
            rfl
          refine seq_take (v := ?_) (a' := ?_) rfl rfl (by rfl) (fun w' hw' => ?_) ?_ ?_
          rotate_left 2
          · go_simp
            with_reducible rfl
          · simp only [Act.put, List.setIfInBounds_toArray, List.set_cons_zero, List.set_cons_succ, Go.Proofs.YtbagphegelbgcaaW.PrintLast.i64_w, Go.Proofs.YtbagphegelbgcaaW.PrintLast.i32_w]
            rfl
          refine seq_take (v := ?_) (a' := ?_) rfl rfl (by rfl) (fun w' hw' => ?_) ?_ ?_
          rotate_left 2
          · go_simp
            with_reducible rfl
          · simp only [Act.put, List.setIfInBounds_toArray, List.set_cons_zero, List.set_cons_succ, Go.Proofs.YtbagphegelbgcaaW.PrintLast.i64_w, Go.Proofs.YtbagphegelbgcaaW.PrintLast.i32_w]
            rfl
          refine seq_take (v := ?_) (a' := ?_) rfl rfl (by rfl) (fun w' hw' => ?_) ?_ ?_
          rotate_left 2
          · go_simp
            with_reducible rfl
          · simp only [Act.put, List.setIfInBounds_toArray, List.set_cons_zero, List.set_cons_succ, Go.Proofs.YtbagphegelbgcaaW.PrintLast.i64_w, Go.Proofs.YtbagphegelbgcaaW.PrintLast.i32_w]
            rfl
          refine seq_take (v := _) (a' := ?_) rfl rfl (by rfl) (fun w' hw' => load_run rfl (p := .pointer (some ⟨ga, j * 35 + 2, none⟩)) rfl (in_f2 (HRG.out _ (E4d.out.trans (Below.mono hw' E4d.out.size))) HN.out)) ?_ ?_
          rotate_left
          · simp only [Act.put, List.setIfInBounds_toArray, List.set_cons_zero, List.set_cons_succ, Go.Proofs.YtbagphegelbgcaaW.PrintLast.i64_w, Go.Proofs.YtbagphegelbgcaaW.PrintLast.i32_w]
            rfl
          refine seq_take (v := _) (a' := ?_) rfl rfl (by rfl) (fun w' hw' => build_run _ _ rfl (built_m3 3 s' nm HN.out)) ?_ ?_
          rotate_left
          · simp only [Act.put, List.setIfInBounds_toArray, List.set_cons_zero, List.set_cons_succ, Go.Proofs.YtbagphegelbgcaaW.PrintLast.i64_w, Go.Proofs.YtbagphegelbgcaaW.PrintLast.i32_w]
            rfl
          refine seq_run ?_
          refine do_val (v := ?_) (a' := ?_) (w1 := ?_) rfl rfl (by rfl) ?_ ?_ ?_
          rotate_left 3
          · go_simp
            constructor <;> rfl
          · simp only [Act.put, List.setIfInBounds_toArray, List.set_cons_zero, List.set_cons_succ, Go.Proofs.YtbagphegelbgcaaW.PrintLast.i64_w, Go.Proofs.YtbagphegelbgcaaW.PrintLast.i32_w]
            rfl
          refine ⟨fun _ => below_alloc (Below.refl _ _) _, ?_⟩
          refine seq_run ?_
          refine do_blk rfl rfl (by rfl) 25 (.tmp 14) (.tmp 63) rfl rfl rfl (blk_new x4 _) (by rw [Mc_len HN.out]; rfl) (size_m HN.out) (Mc_one rfl) ?_
          rintro x5 HW
          refine ⟨fun h => absurd (by simp) h, ?_⟩
          refine seq_end ?_
          have E5 := Aside0.mk ((Below.drew (Below.alloc E4.out E4.out.size _)).trans (HW.below E4.out.size))
          have l1 := blk_lt HX3.out
          have l2 := hC4.size
          have HX5 := Aside0.mk ((HW.else_ gx (by omega)).trans ((Below.drew (Below.alloc hC4 l2 _)).block gx (by omega) |>.trans HX3.out))
          have HW5 := Aside0.mk HW.at_
          have HD5 := Aside0.mk ((Below.drew (Below.alloc hC4 l2 _)).trans (HW.below l2))
          have HR5 := Aside0.mk (Kd.C_below HR3.out HD5.out)
          have HG4 := Aside0.mk (Nat.le_trans E3.out.size l2)
          have HGN := Aside0.mk (show gx ≠ x4.heap.size by omega)
          have HL2 := Aside0.mk l2
          clear hR2 hC1 hC2 hC4 HW HR5 l1 l2 NX E1 E2 E4 E4d hR5 hc5
          generalize x4.heap.size = gw at *
          have HR5 := Aside0.mk (Kd.C_below HR3.out HD5.out)
          have HNE : Aside0 (∀ W, (binOp .neq 25 (.agg (Mc 0 0 Z32 (.string (strOfNums []))).toArray) (.agg (Mc 0 0 Z32 (.string ⟨#[]⟩)).toArray)).run Try.prog W = .ok (.bool false) W) := ⟨fun W => by rw [m_neq Z32_len Z32_len, show strOfNums [] = ⟨#[]⟩ from rfl, mSame_self]; rfl⟩
          go_wp2_with (first
            | ((with_reducible refine at_ldg (w := x5) 36 (.tmp 11) ?_); have hq := HX5.out; refine val_arm (by rfl) (load_run rfl rfl (ld_w hq Z32_len)) ?_; clear hq; simp only [Act.put, List.setIfInBounds_toArray, List.set_cons_zero, List.set_cons_succ])
            | (go_at_call 21; refine (as_calls 0 0 Z32 A2 n2 c2 [] _ x5 rfl Z32_len HR5.out).mono ?_; rintro e x8 ⟨rfl, hC8⟩; have E8 := Aside0.mk (below_tr E5.out hC8 E5.out.size))
            | ((with_reducible refine at_bdg 25 ?_); refine val_arm (by rfl) (build_run 25 _ rfl built_mz) ?_)
            | ((with_reducible refine at_bing .neq 25 ?_); refine val_arm (v := (.bool false)) (by rfl) (bin_run .neq 25 (.tmp 83) (.tmp 84) 25 rfl (p := (.agg (Mc 0 0 Z32 (.string (strOfNums []))).toArray)) (q := (.agg (Mc 0 0 Z32 (.string ⟨#[]⟩)).toArray)) rfl rfl (run_eqGuard_agg _ .neq _ _ _ _ _ hgdM) (HNE.out _)) ?_))
          go_roundw
          case rel => exact ⟨j + 1, by omega, by go_num, E8.out⟩
          case measure => simp [intOf]; omega
        · have HM := Aside0.mk hm1
          by_cases hk : k' = 1
          · have HOK : Aside0 (ansOk k' s' b'.size false fs.length = true) := ⟨by
              have h2 : 0 ≤ s' ∧ s' ≤ 4294967295 := by unfold mayB at hm1; rw [decide_eq_true_iff] at hm1; omega
              unfold ansOk
              rw [hm1, decide_eq_true hk]
              simp [mayB]
              omega⟩
            clear hm1
            subst hk
            go_wp2_with (first
              | ((with_reducible refine at_ld 25 (.tmp 40) ?_); refine load_arm rfl 25 (.tmp 40) rfl rfl (HLD.out _ HB.out) ?_; simp only [Act.put, List.setIfInBounds_toArray, List.set_cons_zero, List.set_cons_succ])
              | (go_at_call 14; refine (of_calls 1 s' nm b' _ _ rfl HN.out hbs').mono ?_; rintro e x1 ⟨A5, c5, rfl, hR5, hc5, hC1⟩; have E1 := Aside0.mk (below_tr HB.out hC1 HB.out.size))
              | (go_at_call 20; refine (answer_calls 1 s' nm A5 F b'.size c5 fs.length fc fs false _ x1 rfl HN.out hbs' (Kd.C_below (Kd.C_below hfR.out HB.out) hC1) (by omega)).mono ?_; rintro e x2 hAP; obtain ⟨k2, s2, nm2, A2, n2, c2, ys, hn2, he, hR2, hE, hC2⟩ := hAP; have E2 := Aside0.mk (below_tr E1.out hC2 E1.out.size); have hE' := hE.out; rw [HOK.out] at hE' he; simp only [if_true, if_false, Bool.false_eq_true, Prod.mk.injEq] at hE' he; obtain ⟨hk2, hs2, hnm2, hys⟩ := hE'; subst k2; subst s2; subst nm2; subst ys; subst he)
              | ((with_reducible refine at_al 36 ?_); refine new_w rfl rfl rfl rfl (.tmp 46) rfl (of_decide_eq_true rfl) rfl HN.out rfl ?_; rintro x3 gx NX; have E3 := Aside0.mk (below_tr E2.out NX.below E2.out.size); have HR3 := Aside0.mk (Kd.C_below hR2 NX.below); have HX3 := Aside0.mk NX.at_)
              | ((with_reducible refine at_ld 25 (.tmp 50) ?_); refine load_arm rfl 25 (.tmp 50) rfl rfl (HLD.out _ E3.out) ?_; simp only [Act.put, List.setIfInBounds_toArray, List.set_cons_zero, List.set_cons_succ])
              | (go_at_call 12; refine (rmay_calls 1 s' nm b' _ x3 rfl HN.out hbs2).mono ?_; rw [HM.out]; rintro e x4 ⟨rfl, hC4⟩; have E4 := Aside0.mk (below_tr E3.out hC4 E3.out.size)))
            have E4d := Aside0.mk (Below.drew E4.out)
            refine seq_start [12] (.take 0 (.take 1 (.take 2 (.take 3 (.take 4 (.take 5 (.take 6 (.take 7 (.take 8 (.take 9 (.take 10 (.run 11 (.run 12 .done))))))))))))) (by kernel_rfl) (by kernel_rfl) (fun _ _ d _ _ h => by cases d <;> exact h) ?_
            refine seq_take (v := ?_) (a' := ?_) rfl rfl (by rfl) (fun w' hw' => ?_) ?_ ?_
            rotate_left 2
            · go_simp
              with_reducible rfl
            · simp only [Act.put, List.setIfInBounds_toArray, List.set_cons_zero, List.set_cons_succ, Go.Proofs.YtbagphegelbgcaaW.PrintLast.i64_w, Go.Proofs.YtbagphegelbgcaaW.PrintLast.i32_w]
              rfl
            refine seq_take (v := ?_) (a' := ?_) rfl rfl (by rfl) (fun w' hw' => ?_) ?_ ?_
            rotate_left 2
            · go_simp
              with_reducible rfl
            · simp only [Act.put, List.setIfInBounds_toArray, List.set_cons_zero, List.set_cons_succ, Go.Proofs.YtbagphegelbgcaaW.PrintLast.i64_w, Go.Proofs.YtbagphegelbgcaaW.PrintLast.i32_w]
              rfl
            refine seq_take (v := ?_) (a' := ?_) rfl rfl (by rfl) (fun w' hw' => ?_) ?_ ?_
            rotate_left 2
            · go_simp
              with_reducible rfl
            · simp only [Act.put, List.setIfInBounds_toArray, List.set_cons_zero, List.set_cons_succ, Go.Proofs.YtbagphegelbgcaaW.PrintLast.i64_w, Go.Proofs.YtbagphegelbgcaaW.PrintLast.i32_w]
              rfl
            refine seq_take (v := ?_) (a' := ?_) rfl rfl (by rfl) (fun w' hw' => ?_) ?_ ?_
            rotate_left 2
            · go_simp
              with_reducible rfl
            · simp only [Act.put, List.setIfInBounds_toArray, List.set_cons_zero, List.set_cons_succ, Go.Proofs.YtbagphegelbgcaaW.PrintLast.i64_w, Go.Proofs.YtbagphegelbgcaaW.PrintLast.i32_w]
              rfl
            refine seq_take (v := _) (a' := ?_) rfl rfl (by rfl) (fun w' hw' => load_run rfl (p := .pointer (some ⟨ga, j * 35 + 1, none⟩)) rfl (in_f1 (HRG.out _ (E4d.out.trans (Below.mono hw' E4d.out.size))))) ?_ ?_
            rotate_left
            · simp only [Act.put, List.setIfInBounds_toArray, List.set_cons_zero, List.set_cons_succ, Go.Proofs.YtbagphegelbgcaaW.PrintLast.i64_w, Go.Proofs.YtbagphegelbgcaaW.PrintLast.i32_w]
              rfl
            refine seq_take (v := ?_) (a' := ?_) rfl rfl (by rfl) (fun w' hw' => ?_) ?_ ?_
            rotate_left 2
            · go_simp
              with_reducible rfl
            · simp only [Act.put, List.setIfInBounds_toArray, List.set_cons_zero, List.set_cons_succ, Go.Proofs.YtbagphegelbgcaaW.PrintLast.i64_w, Go.Proofs.YtbagphegelbgcaaW.PrintLast.i32_w]
              rfl
            refine seq_take (v := ?_) (a' := ?_) rfl rfl (by rfl) (fun w' hw' => ?_) ?_ ?_
            rotate_left 2
            · go_simp
              with_reducible rfl
            · simp only [Act.put, List.setIfInBounds_toArray, List.set_cons_zero, List.set_cons_succ, Go.Proofs.YtbagphegelbgcaaW.PrintLast.i64_w, Go.Proofs.YtbagphegelbgcaaW.PrintLast.i32_w]
              rfl
            refine seq_take (v := ?_) (a' := ?_) rfl rfl (by rfl) (fun w' hw' => ?_) ?_ ?_
            rotate_left 2
            · go_simp
              with_reducible rfl
            · simp only [Act.put, List.setIfInBounds_toArray, List.set_cons_zero, List.set_cons_succ, Go.Proofs.YtbagphegelbgcaaW.PrintLast.i64_w, Go.Proofs.YtbagphegelbgcaaW.PrintLast.i32_w]
              rfl
            refine seq_take (v := ?_) (a' := ?_) rfl rfl (by rfl) (fun w' hw' => ?_) ?_ ?_
            rotate_left 2
            · go_simp
              with_reducible rfl
            · simp only [Act.put, List.setIfInBounds_toArray, List.set_cons_zero, List.set_cons_succ, Go.Proofs.YtbagphegelbgcaaW.PrintLast.i64_w, Go.Proofs.YtbagphegelbgcaaW.PrintLast.i32_w]
              rfl
            refine seq_take (v := _) (a' := ?_) rfl rfl (by rfl) (fun w' hw' => load_run rfl (p := .pointer (some ⟨ga, j * 35 + 2, none⟩)) rfl (in_f2 (HRG.out _ (E4d.out.trans (Below.mono hw' E4d.out.size))) HN.out)) ?_ ?_
            rotate_left
            · simp only [Act.put, List.setIfInBounds_toArray, List.set_cons_zero, List.set_cons_succ, Go.Proofs.YtbagphegelbgcaaW.PrintLast.i64_w, Go.Proofs.YtbagphegelbgcaaW.PrintLast.i32_w]
              rfl
            refine seq_take (v := _) (a' := ?_) rfl rfl (by rfl) (fun w' hw' => build_run _ _ rfl (built_m3 3 s' nm HN.out)) ?_ ?_
            rotate_left
            · simp only [Act.put, List.setIfInBounds_toArray, List.set_cons_zero, List.set_cons_succ, Go.Proofs.YtbagphegelbgcaaW.PrintLast.i64_w, Go.Proofs.YtbagphegelbgcaaW.PrintLast.i32_w]
              rfl
            refine seq_run ?_
            refine do_val (v := ?_) (a' := ?_) (w1 := ?_) rfl rfl (by rfl) ?_ ?_ ?_
            rotate_left 3
            · go_simp
              constructor <;> rfl
            · simp only [Act.put, List.setIfInBounds_toArray, List.set_cons_zero, List.set_cons_succ, Go.Proofs.YtbagphegelbgcaaW.PrintLast.i64_w, Go.Proofs.YtbagphegelbgcaaW.PrintLast.i32_w]
              rfl
            refine ⟨fun _ => below_alloc (Below.refl _ _) _, ?_⟩
            refine seq_run ?_
            refine do_blk rfl rfl (by rfl) 25 (.tmp 14) (.tmp 63) rfl rfl rfl (blk_new x4 _) (by rw [Mc_len HN.out]; rfl) (size_m HN.out) (Mc_one rfl) ?_
            rintro x5 HW
            refine ⟨fun h => absurd (by simp) h, ?_⟩
            refine seq_end ?_
            have E5 := Aside0.mk ((Below.drew (Below.alloc E4.out E4.out.size _)).trans (HW.below E4.out.size))
            have l1 := blk_lt HX3.out
            have l2 := hC4.size
            have HX5 := Aside0.mk ((HW.else_ gx (by omega)).trans ((Below.drew (Below.alloc hC4 l2 _)).block gx (by omega) |>.trans HX3.out))
            have HW5 := Aside0.mk HW.at_
            have HD5 := Aside0.mk ((Below.drew (Below.alloc hC4 l2 _)).trans (HW.below l2))
            have HR5 := Aside0.mk (Kd.C_below HR3.out HD5.out)
            have HG4 := Aside0.mk (Nat.le_trans E3.out.size l2)
            have HGN := Aside0.mk (show gx ≠ x4.heap.size by omega)
            have HL2 := Aside0.mk l2
            clear hR2 hC1 hC2 hC4 HW HR5 l1 l2 NX E1 E2 E4 E4d hR5 hc5
            generalize x4.heap.size = gw at *
            have HR5 := Aside0.mk (Kd.C_below HR3.out HD5.out)
            go_wp2_with (first
              | ((with_reducible refine at_ldg 3 (.tmp 75) ?_); refine val_arm (by rfl) (load_run rfl rfl (in_f0 (HRG.out _ E5.out))) ?_))
            have HNE : Aside0 (∀ W, (binOp .neq 25 (.agg (Mc 3 s' nm (.string (strOfNums []))).toArray) (.agg (Mc 3 s' nm (.string ⟨#[]⟩)).toArray)).run Try.prog W = .ok (.bool false) W) := ⟨fun W => by rw [m_neq HN.out HN.out, show strOfNums [] = ⟨#[]⟩ from rfl, mSame_self]; rfl⟩
            have E7d := Aside0.mk (Below.drew E5.out)
            refine seq_start [] (.take 0 (.take 1 (.take 2 (.take 3 (.take 5 (.run 4 (.take 6 (.take 7 .done)))))))) (by kernel_rfl) (by kernel_rfl) (fun _ _ d _ _ h => by cases d <;> exact h) ?_
            refine seq_take (v := ?_) (a' := ?_) rfl rfl (by rfl) (fun w' hw' => ?_) ?_ ?_
            rotate_left 2
            · go_simp
              with_reducible rfl
            · simp only [Act.put, List.setIfInBounds_toArray, List.set_cons_zero, List.set_cons_succ, Go.Proofs.YtbagphegelbgcaaW.PrintLast.i64_w, Go.Proofs.YtbagphegelbgcaaW.PrintLast.i32_w]
              rfl
            refine seq_take (v := ?_) (a' := ?_) rfl rfl (by rfl) (fun w' hw' => ?_) ?_ ?_
            rotate_left 2
            · go_simp
              with_reducible rfl
            · simp only [Act.put, List.setIfInBounds_toArray, List.set_cons_zero, List.set_cons_succ, Go.Proofs.YtbagphegelbgcaaW.PrintLast.i64_w, Go.Proofs.YtbagphegelbgcaaW.PrintLast.i32_w]
              rfl
            refine seq_take (v := ?_) (a' := ?_) rfl rfl (by rfl) (fun w' hw' => ?_) ?_ ?_
            rotate_left 2
            · go_simp
              with_reducible rfl
            · simp only [Act.put, List.setIfInBounds_toArray, List.set_cons_zero, List.set_cons_succ, Go.Proofs.YtbagphegelbgcaaW.PrintLast.i64_w, Go.Proofs.YtbagphegelbgcaaW.PrintLast.i32_w]
              rfl
            refine seq_take (v := _) (a' := ?_) rfl rfl (by rfl) (fun w' hw' => load_run rfl (p := .pointer (some ⟨gx, 0, none⟩)) rfl (ld_w (hw'.heap (w := x5.drew) HX5.out) HN.out)) ?_ ?_
            rotate_left
            · simp only [Act.put, List.setIfInBounds_toArray, List.set_cons_zero, List.set_cons_succ, Go.Proofs.YtbagphegelbgcaaW.PrintLast.i64_w, Go.Proofs.YtbagphegelbgcaaW.PrintLast.i32_w]
              rfl
            refine seq_take (v := _) (a' := ?_) rfl rfl (by rfl) (fun w' hw' => load_run rfl (p := .pointer (some ⟨gw, 0, none⟩)) rfl (ld_m (hw'.heap (w := x5.drew) HW5.out) HN.out)) ?_ ?_
            rotate_left
            · simp only [Act.put, List.setIfInBounds_toArray, List.set_cons_zero, List.set_cons_succ, Go.Proofs.YtbagphegelbgcaaW.PrintLast.i64_w, Go.Proofs.YtbagphegelbgcaaW.PrintLast.i32_w]
              rfl
            refine seq_run ?_
            refine do_call rfl rfl (by rfl) rfl Try.func21 (by kernel_rfl) rfl #[.agg (Mc 3 s' nm (.slice A2 n2 c2)).toArray] (by simp only [List.map_toArray, List.map_cons, List.map_nil]; rfl) ?_
            with_reducible refine (as_calls 3 s' nm A2 n2 c2 [] _ _ rfl HN.out (Kd.C_drew HR5.out)).mono ?_
            rintro e x8 ⟨rfl, hC8⟩
            refine ⟨_, ?_, rfl, ?_, fun _ => hC8, ?_⟩
            rotate_left
            · simp only [Act.put, List.setIfInBounds_toArray, List.set_cons_zero, List.set_cons_succ, Go.Proofs.YtbagphegelbgcaaW.PrintLast.i64_w, Go.Proofs.YtbagphegelbgcaaW.PrintLast.i32_w]
              rfl
            refine seq_take (v := _) (a' := ?_) rfl rfl (by rfl) (fun w' hw' => (bin_run .neq 25 (.tmp 91) (.tmp 92) 25 rfl (p := .agg (Mc 3 s' nm (.string (strOfNums []))).toArray) (q := .agg (Mc 3 s' nm (.string ⟨#[]⟩)).toArray) rfl rfl (run_eqGuard_agg _ .neq _ _ _ _ _ hgdM) (HNE.out _))) ?_ ?_
            rotate_left
            · simp only [Act.put, List.setIfInBounds_toArray, List.set_cons_zero, List.set_cons_succ, Go.Proofs.YtbagphegelbgcaaW.PrintLast.i64_w, Go.Proofs.YtbagphegelbgcaaW.PrintLast.i32_w]
              rfl
            refine seq_take (v := ?_) (a' := ?_) rfl rfl (by rfl) (fun w' hw' => ?_) ?_ ?_
            rotate_left 2
            · go_simp
              with_reducible rfl
            · simp only [Act.put, List.setIfInBounds_toArray, List.set_cons_zero, List.set_cons_succ, Go.Proofs.YtbagphegelbgcaaW.PrintLast.i64_w, Go.Proofs.YtbagphegelbgcaaW.PrintLast.i32_w]
              rfl
            refine seq_end ?_
            have E8 := Aside0.mk (below_tr E7d.out hC8 E7d.out.size)
            go_wp2
            go_roundw
            case rel => exact ⟨j + 1, by omega, by go_num, E8.out⟩
            case measure => simp [intOf]; omega
          · have HOK : Aside0 (ansOk k' s' b'.size false fs.length = false) := ⟨by unfold ansOk; rw [decide_eq_false hk]; rfl⟩
            clear hm1
            go_wp2_with (first
              | ((with_reducible refine at_ld 25 (.tmp 40) ?_); refine load_arm rfl 25 (.tmp 40) rfl rfl (HLD.out _ HB.out) ?_; simp only [Act.put, List.setIfInBounds_toArray, List.set_cons_zero, List.set_cons_succ])
              | (go_at_call 14; refine (of_calls k' s' nm b' _ _ rfl HN.out hbs').mono ?_; rintro e x1 ⟨A5, c5, rfl, hR5, hc5, hC1⟩; have E1 := Aside0.mk (below_tr HB.out hC1 HB.out.size))
              | (go_at_call 20; refine (answer_calls k' s' nm A5 F b'.size c5 fs.length fc fs false _ x1 rfl HN.out hbs' (Kd.C_below (Kd.C_below hfR.out HB.out) hC1) (by omega)).mono ?_; rintro e x2 hAP; obtain ⟨k2, s2, nm2, A2, n2, c2, ys, hn2, he, hR2, hE, hC2⟩ := hAP; have E2 := Aside0.mk (below_tr E1.out hC2 E1.out.size); have hE' := hE.out; rw [HOK.out] at hE' he; simp only [if_true, if_false, Bool.false_eq_true, Prod.mk.injEq] at hE' he; obtain ⟨hk2, hs2, hnm2, hys⟩ := hE'; subst k2; subst s2; subst nm2; subst ys; subst he)
              | ((with_reducible refine at_al 36 ?_); refine new_w rfl rfl rfl rfl (.tmp 46) rfl (of_decide_eq_true rfl) rfl Z32_len rfl ?_; rintro x3 gx NX; have E3 := Aside0.mk (below_tr E2.out NX.below E2.out.size); have HR3 := Aside0.mk (Kd.C_below hR2 NX.below); have HX3 := Aside0.mk NX.at_)
              | ((with_reducible refine at_ld 25 (.tmp 50) ?_); refine load_arm rfl 25 (.tmp 50) rfl rfl (HLD.out _ E3.out) ?_; simp only [Act.put, List.setIfInBounds_toArray, List.set_cons_zero, List.set_cons_succ])
              | (go_at_call 12; refine (rmay_calls k' s' nm b' _ x3 rfl HN.out hbs2).mono ?_; rw [HM.out]; rintro e x4 ⟨rfl, hC4⟩; have E4 := Aside0.mk (below_tr E3.out hC4 E3.out.size)))
            have E4d := Aside0.mk (Below.drew E4.out)
            refine seq_start [12] (.take 0 (.take 1 (.take 2 (.take 3 (.take 4 (.take 5 (.take 6 (.take 7 (.take 8 (.take 9 (.take 10 (.run 11 (.run 12 .done))))))))))))) (by kernel_rfl) (by kernel_rfl) (fun _ _ d _ _ h => by cases d <;> exact h) ?_
            refine seq_take (v := ?_) (a' := ?_) rfl rfl (by rfl) (fun w' hw' => ?_) ?_ ?_
            rotate_left 2
            · go_simp
              with_reducible rfl
            · simp only [Act.put, List.setIfInBounds_toArray, List.set_cons_zero, List.set_cons_succ, Go.Proofs.YtbagphegelbgcaaW.PrintLast.i64_w, Go.Proofs.YtbagphegelbgcaaW.PrintLast.i32_w]
              rfl
            refine seq_take (v := ?_) (a' := ?_) rfl rfl (by rfl) (fun w' hw' => ?_) ?_ ?_
            rotate_left 2
            · go_simp
              with_reducible rfl
            · simp only [Act.put, List.setIfInBounds_toArray, List.set_cons_zero, List.set_cons_succ, Go.Proofs.YtbagphegelbgcaaW.PrintLast.i64_w, Go.Proofs.YtbagphegelbgcaaW.PrintLast.i32_w]
              rfl
            refine seq_take (v := ?_) (a' := ?_) rfl rfl (by rfl) (fun w' hw' => ?_) ?_ ?_
            rotate_left 2
            · go_simp
              with_reducible rfl
            · simp only [Act.put, List.setIfInBounds_toArray, List.set_cons_zero, List.set_cons_succ, Go.Proofs.YtbagphegelbgcaaW.PrintLast.i64_w, Go.Proofs.YtbagphegelbgcaaW.PrintLast.i32_w]
              rfl
            refine seq_take (v := ?_) (a' := ?_) rfl rfl (by rfl) (fun w' hw' => ?_) ?_ ?_
            rotate_left 2
            · go_simp
              with_reducible rfl
            · simp only [Act.put, List.setIfInBounds_toArray, List.set_cons_zero, List.set_cons_succ, Go.Proofs.YtbagphegelbgcaaW.PrintLast.i64_w, Go.Proofs.YtbagphegelbgcaaW.PrintLast.i32_w]
              rfl
            refine seq_take (v := _) (a' := ?_) rfl rfl (by rfl) (fun w' hw' => load_run rfl (p := .pointer (some ⟨ga, j * 35 + 1, none⟩)) rfl (in_f1 (HRG.out _ (E4d.out.trans (Below.mono hw' E4d.out.size))))) ?_ ?_
            rotate_left
            · simp only [Act.put, List.setIfInBounds_toArray, List.set_cons_zero, List.set_cons_succ, Go.Proofs.YtbagphegelbgcaaW.PrintLast.i64_w, Go.Proofs.YtbagphegelbgcaaW.PrintLast.i32_w]
              rfl
            refine seq_take (v := ?_) (a' := ?_) rfl rfl (by rfl) (fun w' hw' => ?_) ?_ ?_
            rotate_left 2
            · go_simp
              with_reducible rfl
            · simp only [Act.put, List.setIfInBounds_toArray, List.set_cons_zero, List.set_cons_succ, Go.Proofs.YtbagphegelbgcaaW.PrintLast.i64_w, Go.Proofs.YtbagphegelbgcaaW.PrintLast.i32_w]
              rfl
            refine seq_take (v := ?_) (a' := ?_) rfl rfl (by rfl) (fun w' hw' => ?_) ?_ ?_
            rotate_left 2
            · go_simp
              with_reducible rfl
            · simp only [Act.put, List.setIfInBounds_toArray, List.set_cons_zero, List.set_cons_succ, Go.Proofs.YtbagphegelbgcaaW.PrintLast.i64_w, Go.Proofs.YtbagphegelbgcaaW.PrintLast.i32_w]
              rfl
            refine seq_take (v := ?_) (a' := ?_) rfl rfl (by rfl) (fun w' hw' => ?_) ?_ ?_
            rotate_left 2
            · go_simp
              with_reducible rfl
            · simp only [Act.put, List.setIfInBounds_toArray, List.set_cons_zero, List.set_cons_succ, Go.Proofs.YtbagphegelbgcaaW.PrintLast.i64_w, Go.Proofs.YtbagphegelbgcaaW.PrintLast.i32_w]
              rfl
            refine seq_take (v := ?_) (a' := ?_) rfl rfl (by rfl) (fun w' hw' => ?_) ?_ ?_
            rotate_left 2
            · go_simp
              with_reducible rfl
            · simp only [Act.put, List.setIfInBounds_toArray, List.set_cons_zero, List.set_cons_succ, Go.Proofs.YtbagphegelbgcaaW.PrintLast.i64_w, Go.Proofs.YtbagphegelbgcaaW.PrintLast.i32_w]
              rfl
            refine seq_take (v := _) (a' := ?_) rfl rfl (by rfl) (fun w' hw' => load_run rfl (p := .pointer (some ⟨ga, j * 35 + 2, none⟩)) rfl (in_f2 (HRG.out _ (E4d.out.trans (Below.mono hw' E4d.out.size))) HN.out)) ?_ ?_
            rotate_left
            · simp only [Act.put, List.setIfInBounds_toArray, List.set_cons_zero, List.set_cons_succ, Go.Proofs.YtbagphegelbgcaaW.PrintLast.i64_w, Go.Proofs.YtbagphegelbgcaaW.PrintLast.i32_w]
              rfl
            refine seq_take (v := _) (a' := ?_) rfl rfl (by rfl) (fun w' hw' => build_run _ _ rfl (built_m3 3 s' nm HN.out)) ?_ ?_
            rotate_left
            · simp only [Act.put, List.setIfInBounds_toArray, List.set_cons_zero, List.set_cons_succ, Go.Proofs.YtbagphegelbgcaaW.PrintLast.i64_w, Go.Proofs.YtbagphegelbgcaaW.PrintLast.i32_w]
              rfl
            refine seq_run ?_
            refine do_val (v := ?_) (a' := ?_) (w1 := ?_) rfl rfl (by rfl) ?_ ?_ ?_
            rotate_left 3
            · go_simp
              constructor <;> rfl
            · simp only [Act.put, List.setIfInBounds_toArray, List.set_cons_zero, List.set_cons_succ, Go.Proofs.YtbagphegelbgcaaW.PrintLast.i64_w, Go.Proofs.YtbagphegelbgcaaW.PrintLast.i32_w]
              rfl
            refine ⟨fun _ => below_alloc (Below.refl _ _) _, ?_⟩
            refine seq_run ?_
            refine do_blk rfl rfl (by rfl) 25 (.tmp 14) (.tmp 63) rfl rfl rfl (blk_new x4 _) (by rw [Mc_len HN.out]; rfl) (size_m HN.out) (Mc_one rfl) ?_
            rintro x5 HW
            refine ⟨fun h => absurd (by simp) h, ?_⟩
            refine seq_end ?_
            have E5 := Aside0.mk ((Below.drew (Below.alloc E4.out E4.out.size _)).trans (HW.below E4.out.size))
            have l1 := blk_lt HX3.out
            have l2 := hC4.size
            have HX5 := Aside0.mk ((HW.else_ gx (by omega)).trans ((Below.drew (Below.alloc hC4 l2 _)).block gx (by omega) |>.trans HX3.out))
            have HW5 := Aside0.mk HW.at_
            have HD5 := Aside0.mk ((Below.drew (Below.alloc hC4 l2 _)).trans (HW.below l2))
            have HR5 := Aside0.mk (Kd.C_below HR3.out HD5.out)
            have HG4 := Aside0.mk (Nat.le_trans E3.out.size l2)
            have HGN := Aside0.mk (show gx ≠ x4.heap.size by omega)
            have HL2 := Aside0.mk l2
            clear hR2 hC1 hC2 hC4 HW HR5 l1 l2 NX E1 E2 E4 E4d hR5 hc5
            generalize x4.heap.size = gw at *
            have HR5 := Aside0.mk (Kd.C_below HR3.out HD5.out)
            have HNE : Aside0 (∀ W, (binOp .neq 25 (.agg (Mc 0 0 Z32 (.string (strOfNums []))).toArray) (.agg (Mc 0 0 Z32 (.string ⟨#[]⟩)).toArray)).run Try.prog W = .ok (.bool false) W) := ⟨fun W => by rw [m_neq Z32_len Z32_len, show strOfNums [] = ⟨#[]⟩ from rfl, mSame_self]; rfl⟩
            have hk1 : (k' != 1) = true := by simpa using hk
            go_wp2_with (first
              | ((with_reducible refine at_ldg 3 (.tmp 75) ?_); refine val_arm (by rfl) (load_run rfl rfl (in_f0 (HRG.out _ E5.out))) ?_)
              | ((with_reducible refine at_ldg (w := x5) 36 (.tmp 11) ?_); have hq := HX5.out; refine val_arm (by rfl) (load_run rfl rfl (ld_w hq Z32_len)) ?_; clear hq; simp only [Act.put, List.setIfInBounds_toArray, List.set_cons_zero, List.set_cons_succ])
              | (go_at_call 21; refine (as_calls 0 0 Z32 A2 n2 c2 [] _ x5 rfl Z32_len HR5.out).mono ?_; rintro e x8 ⟨rfl, hC8⟩; have E8 := Aside0.mk (below_tr E5.out hC8 E5.out.size))
              | ((with_reducible refine at_bdg 25 ?_); refine val_arm (by rfl) (build_run 25 _ rfl built_mz) ?_)
              | ((with_reducible refine at_bing .neq 25 ?_); refine val_arm (v := (.bool false)) (by rfl) (bin_run .neq 25 (.tmp 83) (.tmp 84) 25 rfl (p := (.agg (Mc 0 0 Z32 (.string (strOfNums []))).toArray)) (q := (.agg (Mc 0 0 Z32 (.string ⟨#[]⟩)).toArray)) rfl rfl (run_eqGuard_agg _ .neq _ _ _ _ _ hgdM) (HNE.out _)) ?_))
            go_roundw
            case rel => exact ⟨j + 1, by omega, by go_num, E8.out⟩
            case measure => simp [intOf]; omega
      · rcases hm1 : mayB k' s' b'.size with _ | _
        · have HM := Aside0.mk hm1
          have HOK : Aside0 (ansOk k' s' b'.size true fs.length = false) := ⟨by unfold ansOk; rw [hm1]; simp⟩
          clear hm1
          go_wp2_with (first
            | ((with_reducible refine at_ld 25 (.tmp 40) ?_); refine load_arm rfl 25 (.tmp 40) rfl rfl (HLD.out _ HB.out) ?_; simp only [Act.put, List.setIfInBounds_toArray, List.set_cons_zero, List.set_cons_succ])
            | (go_at_call 14; refine (of_calls k' s' nm b' _ _ rfl HN.out hbs').mono ?_; rintro e x1 ⟨A5, c5, rfl, hR5, hc5, hC1⟩; have E1 := Aside0.mk (below_tr HB.out hC1 HB.out.size))
            | (go_at_call 20; refine (answer_calls k' s' nm A5 F b'.size c5 fs.length fc fs true _ x1 rfl HN.out hbs' (Kd.C_below (Kd.C_below hfR.out HB.out) hC1) (by omega)).mono ?_; rintro e x2 hAP; obtain ⟨k2, s2, nm2, A2, n2, c2, ys, hn2, he, hR2, hE, hC2⟩ := hAP; have E2 := Aside0.mk (below_tr E1.out hC2 E1.out.size); have hE' := hE.out; rw [HOK.out] at hE' he; simp only [if_true, if_false, Bool.false_eq_true, Prod.mk.injEq] at hE' he; obtain ⟨hk2, hs2, hnm2, hys⟩ := hE'; subst k2; subst s2; subst nm2; subst ys; subst he)
            | ((with_reducible refine at_al 36 ?_); refine new_w rfl rfl rfl rfl (.tmp 46) rfl (of_decide_eq_true rfl) rfl Z32_len rfl ?_; rintro x3 gx NX; have E3 := Aside0.mk (below_tr E2.out NX.below E2.out.size); have HR3 := Aside0.mk (Kd.C_below hR2 NX.below); have HX3 := Aside0.mk NX.at_)
            | ((with_reducible refine at_ld 25 (.tmp 50) ?_); refine load_arm rfl 25 (.tmp 50) rfl rfl (HLD.out _ E3.out) ?_; simp only [Act.put, List.setIfInBounds_toArray, List.set_cons_zero, List.set_cons_succ])
            | (go_at_call 12; refine (rmay_calls k' s' nm b' _ x3 rfl HN.out hbs2).mono ?_; rw [HM.out]; rintro e x4 ⟨rfl, hC4⟩; have E4 := Aside0.mk (below_tr E3.out hC4 E3.out.size)))
          have E4d := Aside0.mk (Below.drew E4.out)
          refine seq_start [12] (.take 0 (.take 1 (.take 2 (.take 3 (.take 4 (.take 5 (.take 6 (.take 7 (.take 8 (.take 9 (.take 10 (.run 11 (.run 12 .done))))))))))))) (by kernel_rfl) (by kernel_rfl) (fun _ _ d _ _ h => by cases d <;> exact h) ?_
          refine seq_take (v := ?_) (a' := ?_) rfl rfl (by rfl) (fun w' hw' => ?_) ?_ ?_
          rotate_left 2
          · go_simp
            with_reducible rfl
          · simp only [Act.put, List.setIfInBounds_toArray, List.set_cons_zero, List.set_cons_succ, Go.Proofs.YtbagphegelbgcaaW.PrintLast.i64_w, Go.Proofs.YtbagphegelbgcaaW.PrintLast.i32_w]
            rfl
          refine seq_take (v := ?_) (a' := ?_) rfl rfl (by rfl) (fun w' hw' => ?_) ?_ ?_
          rotate_left 2
          · go_simp
            with_reducible rfl
          · simp only [Act.put, List.setIfInBounds_toArray, List.set_cons_zero, List.set_cons_succ, Go.Proofs.YtbagphegelbgcaaW.PrintLast.i64_w, Go.Proofs.YtbagphegelbgcaaW.PrintLast.i32_w]
            rfl
          refine seq_take (v := ?_) (a' := ?_) rfl rfl (by rfl) (fun w' hw' => ?_) ?_ ?_
          rotate_left 2
          · go_simp
            with_reducible rfl
          · simp only [Act.put, List.setIfInBounds_toArray, List.set_cons_zero, List.set_cons_succ, Go.Proofs.YtbagphegelbgcaaW.PrintLast.i64_w, Go.Proofs.YtbagphegelbgcaaW.PrintLast.i32_w]
            rfl
          refine seq_take (v := ?_) (a' := ?_) rfl rfl (by rfl) (fun w' hw' => ?_) ?_ ?_
          rotate_left 2
          · go_simp
            with_reducible rfl
          · simp only [Act.put, List.setIfInBounds_toArray, List.set_cons_zero, List.set_cons_succ, Go.Proofs.YtbagphegelbgcaaW.PrintLast.i64_w, Go.Proofs.YtbagphegelbgcaaW.PrintLast.i32_w]
            rfl
          refine seq_take (v := _) (a' := ?_) rfl rfl (by rfl) (fun w' hw' => load_run rfl (p := .pointer (some ⟨ga, j * 35 + 1, none⟩)) rfl (in_f1 (HRG.out _ (E4d.out.trans (Below.mono hw' E4d.out.size))))) ?_ ?_
          rotate_left
          · simp only [Act.put, List.setIfInBounds_toArray, List.set_cons_zero, List.set_cons_succ, Go.Proofs.YtbagphegelbgcaaW.PrintLast.i64_w, Go.Proofs.YtbagphegelbgcaaW.PrintLast.i32_w]
            rfl
          refine seq_take (v := ?_) (a' := ?_) rfl rfl (by rfl) (fun w' hw' => ?_) ?_ ?_
          rotate_left 2
          · go_simp
            with_reducible rfl
          · simp only [Act.put, List.setIfInBounds_toArray, List.set_cons_zero, List.set_cons_succ, Go.Proofs.YtbagphegelbgcaaW.PrintLast.i64_w, Go.Proofs.YtbagphegelbgcaaW.PrintLast.i32_w]
            rfl
          refine seq_take (v := ?_) (a' := ?_) rfl rfl (by rfl) (fun w' hw' => ?_) ?_ ?_
          rotate_left 2
          · go_simp
            with_reducible rfl
          · simp only [Act.put, List.setIfInBounds_toArray, List.set_cons_zero, List.set_cons_succ, Go.Proofs.YtbagphegelbgcaaW.PrintLast.i64_w, Go.Proofs.YtbagphegelbgcaaW.PrintLast.i32_w]
            rfl
          refine seq_take (v := ?_) (a' := ?_) rfl rfl (by rfl) (fun w' hw' => ?_) ?_ ?_
          rotate_left 2
          · go_simp
            with_reducible rfl
          · simp only [Act.put, List.setIfInBounds_toArray, List.set_cons_zero, List.set_cons_succ, Go.Proofs.YtbagphegelbgcaaW.PrintLast.i64_w, Go.Proofs.YtbagphegelbgcaaW.PrintLast.i32_w]
            rfl
          refine seq_take (v := ?_) (a' := ?_) rfl rfl (by rfl) (fun w' hw' => ?_) ?_ ?_
          rotate_left 2
          · go_simp
            with_reducible rfl
          · simp only [Act.put, List.setIfInBounds_toArray, List.set_cons_zero, List.set_cons_succ, Go.Proofs.YtbagphegelbgcaaW.PrintLast.i64_w, Go.Proofs.YtbagphegelbgcaaW.PrintLast.i32_w]
            rfl
          refine seq_take (v := _) (a' := ?_) rfl rfl (by rfl) (fun w' hw' => load_run rfl (p := .pointer (some ⟨ga, j * 35 + 2, none⟩)) rfl (in_f2 (HRG.out _ (E4d.out.trans (Below.mono hw' E4d.out.size))) HN.out)) ?_ ?_
          rotate_left
          · simp only [Act.put, List.setIfInBounds_toArray, List.set_cons_zero, List.set_cons_succ, Go.Proofs.YtbagphegelbgcaaW.PrintLast.i64_w, Go.Proofs.YtbagphegelbgcaaW.PrintLast.i32_w]
            rfl
          refine seq_take (v := _) (a' := ?_) rfl rfl (by rfl) (fun w' hw' => build_run _ _ rfl (built_m3 3 s' nm HN.out)) ?_ ?_
          rotate_left
          · simp only [Act.put, List.setIfInBounds_toArray, List.set_cons_zero, List.set_cons_succ, Go.Proofs.YtbagphegelbgcaaW.PrintLast.i64_w, Go.Proofs.YtbagphegelbgcaaW.PrintLast.i32_w]
            rfl
          refine seq_run ?_
          refine do_val (v := ?_) (a' := ?_) (w1 := ?_) rfl rfl (by rfl) ?_ ?_ ?_
          rotate_left 3
          · go_simp
            constructor <;> rfl
          · simp only [Act.put, List.setIfInBounds_toArray, List.set_cons_zero, List.set_cons_succ, Go.Proofs.YtbagphegelbgcaaW.PrintLast.i64_w, Go.Proofs.YtbagphegelbgcaaW.PrintLast.i32_w]
            rfl
          refine ⟨fun _ => below_alloc (Below.refl _ _) _, ?_⟩
          refine seq_run ?_
          refine do_blk rfl rfl (by rfl) 25 (.tmp 14) (.tmp 63) rfl rfl rfl (blk_new x4 _) (by rw [Mc_len HN.out]; rfl) (size_m HN.out) (Mc_one rfl) ?_
          rintro x5 HW
          refine ⟨fun h => absurd (by simp) h, ?_⟩
          refine seq_end ?_
          have E5 := Aside0.mk ((Below.drew (Below.alloc E4.out E4.out.size _)).trans (HW.below E4.out.size))
          have l1 := blk_lt HX3.out
          have l2 := hC4.size
          have HX5 := Aside0.mk ((HW.else_ gx (by omega)).trans ((Below.drew (Below.alloc hC4 l2 _)).block gx (by omega) |>.trans HX3.out))
          have HW5 := Aside0.mk HW.at_
          have HD5 := Aside0.mk ((Below.drew (Below.alloc hC4 l2 _)).trans (HW.below l2))
          have HR5 := Aside0.mk (Kd.C_below HR3.out HD5.out)
          have HG4 := Aside0.mk (Nat.le_trans E3.out.size l2)
          have HGN := Aside0.mk (show gx ≠ x4.heap.size by omega)
          have HL2 := Aside0.mk l2
          clear hR2 hC1 hC2 hC4 HW HR5 l1 l2 NX E1 E2 E4 E4d hR5 hc5
          generalize x4.heap.size = gw at *
          have HNE : Aside0 (∀ W, (binOp .neq 25 (.agg (Mc 0 0 Z32 (.string (strOfNums []))).toArray) (.agg (Mc 0 0 Z32 (.string ⟨#[]⟩)).toArray)).run Try.prog W = .ok (.bool false) W) := ⟨fun W => by rw [m_neq Z32_len Z32_len, show strOfNums [] = ⟨#[]⟩ from rfl, mSame_self]; rfl⟩
          go_wp2_with (first
            | ((with_reducible refine at_st 3 (.tmp 65) _ ?_); refine store_f0 rfl (.tmp 65) _ rfl rfl rfl HW5.out HN.out ?_; rintro x6 S6; have E6 := Aside0.mk (E5.out.trans (S6.below HG4.out)); have HD6 := Aside0.mk (HD5.out.trans (S6.below HL2.out)); have HX6 := Aside0.mk (S6.blk HGN.out HX5.out); have HW6 := Aside0.mk S6.at_)
            | ((with_reducible refine at_cv 27 9 ?_); refine conv_arm rfl 27 9 _ rfl rfl (conv_str (Kd.C_below hfR.out E6.out) fc) ?_; simp only [Act.put, List.setIfInBounds_toArray, List.set_cons_zero, List.set_cons_succ])
            | ((with_reducible refine at_st 9 (.tmp 68) (.tmp 67) ?_); refine store_f3s rfl (.tmp 68) (.tmp 67) rfl rfl rfl HW6.out HN.out ?_; rintro x7 S7; have E7 := Aside0.mk (E6.out.trans (S7.below HG4.out)); have HD7 := Aside0.mk (HD6.out.trans (S7.below HL2.out)); have HX7 := Aside0.mk (S7.blk HGN.out HX6.out); have HW7 := Aside0.mk S7.at_; have HR7 := Aside0.mk (Kd.C_below HR3.out HD7.out))
            | ((with_reducible refine at_ldg (w := x7) 36 (.tmp 11) ?_); have hq := HX7.out; refine val_arm (by rfl) (load_run rfl rfl (ld_w hq Z32_len)) ?_; clear hq; simp only [Act.put, List.setIfInBounds_toArray, List.set_cons_zero, List.set_cons_succ])
            | (go_at_call 21; refine (as_calls 0 0 Z32 A2 n2 c2 [] _ x7 rfl Z32_len HR7.out).mono ?_; rintro e x8 ⟨rfl, hC8⟩; have E8 := Aside0.mk (below_tr E7.out hC8 E7.out.size))
            | ((with_reducible refine at_bdg 25 ?_); refine val_arm (by rfl) (build_run 25 _ rfl built_mz) ?_)
            | ((with_reducible refine at_bing .neq 25 ?_); refine val_arm (v := (.bool false)) (by rfl) (bin_run .neq 25 (.tmp 83) (.tmp 84) 25 rfl (p := (.agg (Mc 0 0 Z32 (.string (strOfNums []))).toArray)) (q := (.agg (Mc 0 0 Z32 (.string ⟨#[]⟩)).toArray)) rfl rfl (run_eqGuard_agg _ .neq _ _ _ _ _ hgdM) (HNE.out _)) ?_))
          go_roundw
          case rel => exact ⟨j + 1, by omega, by go_num, E8.out⟩
          case measure => simp [intOf]; omega
        · have HM := Aside0.mk hm1
          by_cases hk : k' = 1
          · have HOK : Aside0 (ansOk k' s' b'.size true fs.length = true) := ⟨by
              have h2 : 0 ≤ s' ∧ s' ≤ 4294967295 := by unfold mayB at hm1; rw [decide_eq_true_iff] at hm1; omega
              unfold ansOk
              rw [hm1, decide_eq_true hk]
              simp [mayB]
              omega⟩
            clear hm1
            subst hk
            go_wp2_with (first
              | ((with_reducible refine at_ld 25 (.tmp 40) ?_); refine load_arm rfl 25 (.tmp 40) rfl rfl (HLD.out _ HB.out) ?_; simp only [Act.put, List.setIfInBounds_toArray, List.set_cons_zero, List.set_cons_succ])
              | (go_at_call 14; refine (of_calls 1 s' nm b' _ _ rfl HN.out hbs').mono ?_; rintro e x1 ⟨A5, c5, rfl, hR5, hc5, hC1⟩; have E1 := Aside0.mk (below_tr HB.out hC1 HB.out.size))
              | (go_at_call 20; refine (answer_calls 1 s' nm A5 F b'.size c5 fs.length fc fs true _ x1 rfl HN.out hbs' (Kd.C_below (Kd.C_below hfR.out HB.out) hC1) (by omega)).mono ?_; rintro e x2 hAP; obtain ⟨k2, s2, nm2, A2, n2, c2, ys, hn2, he, hR2, hE, hC2⟩ := hAP; have E2 := Aside0.mk (below_tr E1.out hC2 E1.out.size); have hE' := hE.out; rw [HOK.out] at hE' he; simp only [if_true, if_false, Bool.false_eq_true, Prod.mk.injEq] at hE' he; obtain ⟨hk2, hs2, hnm2, hys⟩ := hE'; subst k2; subst s2; subst nm2; subst ys; subst he)
              | ((with_reducible refine at_al 36 ?_); refine new_w rfl rfl rfl rfl (.tmp 46) rfl (of_decide_eq_true rfl) rfl HN.out rfl ?_; rintro x3 gx NX; have E3 := Aside0.mk (below_tr E2.out NX.below E2.out.size); have HR3 := Aside0.mk (Kd.C_below hR2 NX.below); have HX3 := Aside0.mk NX.at_)
              | ((with_reducible refine at_ld 25 (.tmp 50) ?_); refine load_arm rfl 25 (.tmp 50) rfl rfl (HLD.out _ E3.out) ?_; simp only [Act.put, List.setIfInBounds_toArray, List.set_cons_zero, List.set_cons_succ])
              | (go_at_call 12; refine (rmay_calls 1 s' nm b' _ x3 rfl HN.out hbs2).mono ?_; rw [HM.out]; rintro e x4 ⟨rfl, hC4⟩; have E4 := Aside0.mk (below_tr E3.out hC4 E3.out.size)))
            have E4d := Aside0.mk (Below.drew E4.out)
            refine seq_start [12] (.take 0 (.take 1 (.take 2 (.take 3 (.take 4 (.take 5 (.take 6 (.take 7 (.take 8 (.take 9 (.take 10 (.run 11 (.run 12 .done))))))))))))) (by kernel_rfl) (by kernel_rfl) (fun _ _ d _ _ h => by cases d <;> exact h) ?_
            refine seq_take (v := ?_) (a' := ?_) rfl rfl (by rfl) (fun w' hw' => ?_) ?_ ?_
            rotate_left 2
            · go_simp
              with_reducible rfl
            · simp only [Act.put, List.setIfInBounds_toArray, List.set_cons_zero, List.set_cons_succ, Go.Proofs.YtbagphegelbgcaaW.PrintLast.i64_w, Go.Proofs.YtbagphegelbgcaaW.PrintLast.i32_w]
              rfl
            refine seq_take (v := ?_) (a' := ?_) rfl rfl (by rfl) (fun w' hw' => ?_) ?_ ?_
            rotate_left 2
            · go_simp
              with_reducible rfl
            · simp only [Act.put, List.setIfInBounds_toArray, List.set_cons_zero, List.set_cons_succ, Go.Proofs.YtbagphegelbgcaaW.PrintLast.i64_w, Go.Proofs.YtbagphegelbgcaaW.PrintLast.i32_w]
              rfl
            refine seq_take (v := ?_) (a' := ?_) rfl rfl (by rfl) (fun w' hw' => ?_) ?_ ?_
            rotate_left 2
            · go_simp
              with_reducible rfl
            · simp only [Act.put, List.setIfInBounds_toArray, List.set_cons_zero, List.set_cons_succ, Go.Proofs.YtbagphegelbgcaaW.PrintLast.i64_w, Go.Proofs.YtbagphegelbgcaaW.PrintLast.i32_w]
              rfl
            refine seq_take (v := ?_) (a' := ?_) rfl rfl (by rfl) (fun w' hw' => ?_) ?_ ?_
            rotate_left 2
            · go_simp
              with_reducible rfl
            · simp only [Act.put, List.setIfInBounds_toArray, List.set_cons_zero, List.set_cons_succ, Go.Proofs.YtbagphegelbgcaaW.PrintLast.i64_w, Go.Proofs.YtbagphegelbgcaaW.PrintLast.i32_w]
              rfl
            refine seq_take (v := _) (a' := ?_) rfl rfl (by rfl) (fun w' hw' => load_run rfl (p := .pointer (some ⟨ga, j * 35 + 1, none⟩)) rfl (in_f1 (HRG.out _ (E4d.out.trans (Below.mono hw' E4d.out.size))))) ?_ ?_
            rotate_left
            · simp only [Act.put, List.setIfInBounds_toArray, List.set_cons_zero, List.set_cons_succ, Go.Proofs.YtbagphegelbgcaaW.PrintLast.i64_w, Go.Proofs.YtbagphegelbgcaaW.PrintLast.i32_w]
              rfl
            refine seq_take (v := ?_) (a' := ?_) rfl rfl (by rfl) (fun w' hw' => ?_) ?_ ?_
            rotate_left 2
            · go_simp
              with_reducible rfl
            · simp only [Act.put, List.setIfInBounds_toArray, List.set_cons_zero, List.set_cons_succ, Go.Proofs.YtbagphegelbgcaaW.PrintLast.i64_w, Go.Proofs.YtbagphegelbgcaaW.PrintLast.i32_w]
              rfl
            refine seq_take (v := ?_) (a' := ?_) rfl rfl (by rfl) (fun w' hw' => ?_) ?_ ?_
            rotate_left 2
            · go_simp
              with_reducible rfl
            · simp only [Act.put, List.setIfInBounds_toArray, List.set_cons_zero, List.set_cons_succ, Go.Proofs.YtbagphegelbgcaaW.PrintLast.i64_w, Go.Proofs.YtbagphegelbgcaaW.PrintLast.i32_w]
              rfl
            refine seq_take (v := ?_) (a' := ?_) rfl rfl (by rfl) (fun w' hw' => ?_) ?_ ?_
            rotate_left 2
            · go_simp
              with_reducible rfl
            · simp only [Act.put, List.setIfInBounds_toArray, List.set_cons_zero, List.set_cons_succ, Go.Proofs.YtbagphegelbgcaaW.PrintLast.i64_w, Go.Proofs.YtbagphegelbgcaaW.PrintLast.i32_w]
              rfl
            refine seq_take (v := ?_) (a' := ?_) rfl rfl (by rfl) (fun w' hw' => ?_) ?_ ?_
            rotate_left 2
            · go_simp
              with_reducible rfl
            · simp only [Act.put, List.setIfInBounds_toArray, List.set_cons_zero, List.set_cons_succ, Go.Proofs.YtbagphegelbgcaaW.PrintLast.i64_w, Go.Proofs.YtbagphegelbgcaaW.PrintLast.i32_w]
              rfl
            refine seq_take (v := _) (a' := ?_) rfl rfl (by rfl) (fun w' hw' => load_run rfl (p := .pointer (some ⟨ga, j * 35 + 2, none⟩)) rfl (in_f2 (HRG.out _ (E4d.out.trans (Below.mono hw' E4d.out.size))) HN.out)) ?_ ?_
            rotate_left
            · simp only [Act.put, List.setIfInBounds_toArray, List.set_cons_zero, List.set_cons_succ, Go.Proofs.YtbagphegelbgcaaW.PrintLast.i64_w, Go.Proofs.YtbagphegelbgcaaW.PrintLast.i32_w]
              rfl
            refine seq_take (v := _) (a' := ?_) rfl rfl (by rfl) (fun w' hw' => build_run _ _ rfl (built_m3 3 s' nm HN.out)) ?_ ?_
            rotate_left
            · simp only [Act.put, List.setIfInBounds_toArray, List.set_cons_zero, List.set_cons_succ, Go.Proofs.YtbagphegelbgcaaW.PrintLast.i64_w, Go.Proofs.YtbagphegelbgcaaW.PrintLast.i32_w]
              rfl
            refine seq_run ?_
            refine do_val (v := ?_) (a' := ?_) (w1 := ?_) rfl rfl (by rfl) ?_ ?_ ?_
            rotate_left 3
            · go_simp
              constructor <;> rfl
            · simp only [Act.put, List.setIfInBounds_toArray, List.set_cons_zero, List.set_cons_succ, Go.Proofs.YtbagphegelbgcaaW.PrintLast.i64_w, Go.Proofs.YtbagphegelbgcaaW.PrintLast.i32_w]
              rfl
            refine ⟨fun _ => below_alloc (Below.refl _ _) _, ?_⟩
            refine seq_run ?_
            refine do_blk rfl rfl (by rfl) 25 (.tmp 14) (.tmp 63) rfl rfl rfl (blk_new x4 _) (by rw [Mc_len HN.out]; rfl) (size_m HN.out) (Mc_one rfl) ?_
            rintro x5 HW
            refine ⟨fun h => absurd (by simp) h, ?_⟩
            refine seq_end ?_
            have E5 := Aside0.mk ((Below.drew (Below.alloc E4.out E4.out.size _)).trans (HW.below E4.out.size))
            have l1 := blk_lt HX3.out
            have l2 := hC4.size
            have HX5 := Aside0.mk ((HW.else_ gx (by omega)).trans ((Below.drew (Below.alloc hC4 l2 _)).block gx (by omega) |>.trans HX3.out))
            have HW5 := Aside0.mk HW.at_
            have HD5 := Aside0.mk ((Below.drew (Below.alloc hC4 l2 _)).trans (HW.below l2))
            have HR5 := Aside0.mk (Kd.C_below HR3.out HD5.out)
            have HG4 := Aside0.mk (Nat.le_trans E3.out.size l2)
            have HGN := Aside0.mk (show gx ≠ x4.heap.size by omega)
            have HL2 := Aside0.mk l2
            clear hR2 hC1 hC2 hC4 HW HR5 l1 l2 NX E1 E2 E4 E4d hR5 hc5
            generalize x4.heap.size = gw at *
            go_wp2_with (first
              | ((with_reducible refine at_st 3 (.tmp 65) _ ?_); refine store_f0 rfl (.tmp 65) _ rfl rfl rfl HW5.out HN.out ?_; rintro x6 S6; have E6 := Aside0.mk (E5.out.trans (S6.below HG4.out)); have HD6 := Aside0.mk (HD5.out.trans (S6.below HL2.out)); have HX6 := Aside0.mk (S6.blk HGN.out HX5.out); have HW6 := Aside0.mk S6.at_)
              | ((with_reducible refine at_cv 27 9 ?_); refine conv_arm rfl 27 9 _ rfl rfl (conv_str (Kd.C_below hfR.out E6.out) fc) ?_; simp only [Act.put, List.setIfInBounds_toArray, List.set_cons_zero, List.set_cons_succ])
              | ((with_reducible refine at_st 9 (.tmp 68) (.tmp 67) ?_); refine store_f3s rfl (.tmp 68) (.tmp 67) rfl rfl rfl HW6.out HN.out ?_; rintro x7 S7; have E7 := Aside0.mk (E6.out.trans (S7.below HG4.out)); have HD7 := Aside0.mk (HD6.out.trans (S7.below HL2.out)); have HX7 := Aside0.mk (S7.blk HGN.out HX6.out); have HW7 := Aside0.mk S7.at_; have HR7 := Aside0.mk (Kd.C_below HR3.out HD7.out))
              | ((with_reducible refine at_ldg 3 (.tmp 75) ?_); refine val_arm (by rfl) (load_run rfl rfl (in_f0 (HRG.out _ E7.out))) ?_))
            have HNE : Aside0 (∀ W, (binOp .neq 25 (.agg (Mc 2 s' nm (.string (strOfNums fs))).toArray) (.agg (Mc 2 s' nm (.string (strOfNums fs))).toArray)).run Try.prog W = .ok (.bool false) W) := ⟨fun W => by rw [m_neq HN.out HN.out, mSame_self]; rfl⟩
            have E7d := Aside0.mk (Below.drew E7.out)
            refine seq_start [] (.take 0 (.take 1 (.take 2 (.take 3 (.take 5 (.run 4 (.take 6 (.take 7 .done)))))))) (by kernel_rfl) (by kernel_rfl) (fun _ _ d _ _ h => by cases d <;> exact h) ?_
            refine seq_take (v := ?_) (a' := ?_) rfl rfl (by rfl) (fun w' hw' => ?_) ?_ ?_
            rotate_left 2
            · go_simp
              with_reducible rfl
            · simp only [Act.put, List.setIfInBounds_toArray, List.set_cons_zero, List.set_cons_succ, Go.Proofs.YtbagphegelbgcaaW.PrintLast.i64_w, Go.Proofs.YtbagphegelbgcaaW.PrintLast.i32_w]
              rfl
            refine seq_take (v := ?_) (a' := ?_) rfl rfl (by rfl) (fun w' hw' => ?_) ?_ ?_
            rotate_left 2
            · go_simp
              with_reducible rfl
            · simp only [Act.put, List.setIfInBounds_toArray, List.set_cons_zero, List.set_cons_succ, Go.Proofs.YtbagphegelbgcaaW.PrintLast.i64_w, Go.Proofs.YtbagphegelbgcaaW.PrintLast.i32_w]
              rfl
            refine seq_take (v := ?_) (a' := ?_) rfl rfl (by rfl) (fun w' hw' => ?_) ?_ ?_
            rotate_left 2
            · go_simp
              with_reducible rfl
            · simp only [Act.put, List.setIfInBounds_toArray, List.set_cons_zero, List.set_cons_succ, Go.Proofs.YtbagphegelbgcaaW.PrintLast.i64_w, Go.Proofs.YtbagphegelbgcaaW.PrintLast.i32_w]
              rfl
            refine seq_take (v := _) (a' := ?_) rfl rfl (by rfl) (fun w' hw' => load_run rfl (p := .pointer (some ⟨gx, 0, none⟩)) rfl (ld_w (hw'.heap (w := x7.drew) HX7.out) HN.out)) ?_ ?_
            rotate_left
            · simp only [Act.put, List.setIfInBounds_toArray, List.set_cons_zero, List.set_cons_succ, Go.Proofs.YtbagphegelbgcaaW.PrintLast.i64_w, Go.Proofs.YtbagphegelbgcaaW.PrintLast.i32_w]
              rfl
            refine seq_take (v := _) (a' := ?_) rfl rfl (by rfl) (fun w' hw' => load_run rfl (p := .pointer (some ⟨gw, 0, none⟩)) rfl (ld_m (hw'.heap (w := x7.drew) HW7.out) HN.out)) ?_ ?_
            rotate_left
            · simp only [Act.put, List.setIfInBounds_toArray, List.set_cons_zero, List.set_cons_succ, Go.Proofs.YtbagphegelbgcaaW.PrintLast.i64_w, Go.Proofs.YtbagphegelbgcaaW.PrintLast.i32_w]
              rfl
            refine seq_run ?_
            refine do_call rfl rfl (by rfl) rfl Try.func21 (by kernel_rfl) rfl #[.agg (Mc 2 s' nm (.slice A2 n2 c2)).toArray] (by simp only [List.map_toArray, List.map_cons, List.map_nil]; rfl) ?_
            with_reducible refine (as_calls 2 s' nm A2 n2 c2 fs _ _ rfl HN.out (Kd.C_drew HR7.out)).mono ?_
            rintro e x8 ⟨rfl, hC8⟩
            refine ⟨_, ?_, rfl, ?_, fun _ => hC8, ?_⟩
            rotate_left
            · simp only [Act.put, List.setIfInBounds_toArray, List.set_cons_zero, List.set_cons_succ, Go.Proofs.YtbagphegelbgcaaW.PrintLast.i64_w, Go.Proofs.YtbagphegelbgcaaW.PrintLast.i32_w]
              rfl
            refine seq_take (v := _) (a' := ?_) rfl rfl (by rfl) (fun w' hw' => (bin_run .neq 25 (.tmp 91) (.tmp 92) 25 rfl (p := .agg (Mc 2 s' nm (.string (strOfNums fs))).toArray) (q := .agg (Mc 2 s' nm (.string (strOfNums fs))).toArray) rfl rfl (run_eqGuard_agg _ .neq _ _ _ _ _ hgdM) (HNE.out _))) ?_ ?_
            rotate_left
            · simp only [Act.put, List.setIfInBounds_toArray, List.set_cons_zero, List.set_cons_succ, Go.Proofs.YtbagphegelbgcaaW.PrintLast.i64_w, Go.Proofs.YtbagphegelbgcaaW.PrintLast.i32_w]
              rfl
            refine seq_take (v := ?_) (a' := ?_) rfl rfl (by rfl) (fun w' hw' => ?_) ?_ ?_
            rotate_left 2
            · go_simp
              with_reducible rfl
            · simp only [Act.put, List.setIfInBounds_toArray, List.set_cons_zero, List.set_cons_succ, Go.Proofs.YtbagphegelbgcaaW.PrintLast.i64_w, Go.Proofs.YtbagphegelbgcaaW.PrintLast.i32_w]
              rfl
            refine seq_end ?_
            have E8 := Aside0.mk (below_tr E7d.out hC8 E7d.out.size)
            go_wp2
            go_roundw
            case rel => exact ⟨j + 1, by omega, by go_num, E8.out⟩
            case measure => simp [intOf]; omega
          · have HOK : Aside0 (ansOk k' s' b'.size true fs.length = false) := ⟨by unfold ansOk; rw [decide_eq_false hk]; rfl⟩
            clear hm1
            go_wp2_with (first
              | ((with_reducible refine at_ld 25 (.tmp 40) ?_); refine load_arm rfl 25 (.tmp 40) rfl rfl (HLD.out _ HB.out) ?_; simp only [Act.put, List.setIfInBounds_toArray, List.set_cons_zero, List.set_cons_succ])
              | (go_at_call 14; refine (of_calls k' s' nm b' _ _ rfl HN.out hbs').mono ?_; rintro e x1 ⟨A5, c5, rfl, hR5, hc5, hC1⟩; have E1 := Aside0.mk (below_tr HB.out hC1 HB.out.size))
              | (go_at_call 20; refine (answer_calls k' s' nm A5 F b'.size c5 fs.length fc fs true _ x1 rfl HN.out hbs' (Kd.C_below (Kd.C_below hfR.out HB.out) hC1) (by omega)).mono ?_; rintro e x2 hAP; obtain ⟨k2, s2, nm2, A2, n2, c2, ys, hn2, he, hR2, hE, hC2⟩ := hAP; have E2 := Aside0.mk (below_tr E1.out hC2 E1.out.size); have hE' := hE.out; rw [HOK.out] at hE' he; simp only [if_true, if_false, Bool.false_eq_true, Prod.mk.injEq] at hE' he; obtain ⟨hk2, hs2, hnm2, hys⟩ := hE'; subst k2; subst s2; subst nm2; subst ys; subst he)
              | ((with_reducible refine at_al 36 ?_); refine new_w rfl rfl rfl rfl (.tmp 46) rfl (of_decide_eq_true rfl) rfl Z32_len rfl ?_; rintro x3 gx NX; have E3 := Aside0.mk (below_tr E2.out NX.below E2.out.size); have HR3 := Aside0.mk (Kd.C_below hR2 NX.below); have HX3 := Aside0.mk NX.at_)
              | ((with_reducible refine at_ld 25 (.tmp 50) ?_); refine load_arm rfl 25 (.tmp 50) rfl rfl (HLD.out _ E3.out) ?_; simp only [Act.put, List.setIfInBounds_toArray, List.set_cons_zero, List.set_cons_succ])
              | (go_at_call 12; refine (rmay_calls k' s' nm b' _ x3 rfl HN.out hbs2).mono ?_; rw [HM.out]; rintro e x4 ⟨rfl, hC4⟩; have E4 := Aside0.mk (below_tr E3.out hC4 E3.out.size)))
            have E4d := Aside0.mk (Below.drew E4.out)
            refine seq_start [12] (.take 0 (.take 1 (.take 2 (.take 3 (.take 4 (.take 5 (.take 6 (.take 7 (.take 8 (.take 9 (.take 10 (.run 11 (.run 12 .done))))))))))))) (by kernel_rfl) (by kernel_rfl) (fun _ _ d _ _ h => by cases d <;> exact h) ?_
            refine seq_take (v := ?_) (a' := ?_) rfl rfl (by rfl) (fun w' hw' => ?_) ?_ ?_
            rotate_left 2
            · go_simp
              with_reducible rfl
            · simp only [Act.put, List.setIfInBounds_toArray, List.set_cons_zero, List.set_cons_succ, Go.Proofs.YtbagphegelbgcaaW.PrintLast.i64_w, Go.Proofs.YtbagphegelbgcaaW.PrintLast.i32_w]
              rfl
            refine seq_take (v := ?_) (a' := ?_) rfl rfl (by rfl) (fun w' hw' => ?_) ?_ ?_
            rotate_left 2
            · go_simp
              with_reducible rfl
            · simp only [Act.put, List.setIfInBounds_toArray, List.set_cons_zero, List.set_cons_succ, Go.Proofs.YtbagphegelbgcaaW.PrintLast.i64_w, Go.Proofs.YtbagphegelbgcaaW.PrintLast.i32_w]
              rfl
            refine seq_take (v := ?_) (a' := ?_) rfl rfl (by rfl) (fun w' hw' => ?_) ?_ ?_
            rotate_left 2
            · go_simp
              with_reducible rfl
            · simp only [Act.put, List.setIfInBounds_toArray, List.set_cons_zero, List.set_cons_succ, Go.Proofs.YtbagphegelbgcaaW.PrintLast.i64_w, Go.Proofs.YtbagphegelbgcaaW.PrintLast.i32_w]
              rfl
            refine seq_take (v := ?_) (a' := ?_) rfl rfl (by rfl) (fun w' hw' => ?_) ?_ ?_
            rotate_left 2
            · go_simp
              with_reducible rfl
            · simp only [Act.put, List.setIfInBounds_toArray, List.set_cons_zero, List.set_cons_succ, Go.Proofs.YtbagphegelbgcaaW.PrintLast.i64_w, Go.Proofs.YtbagphegelbgcaaW.PrintLast.i32_w]
              rfl
            refine seq_take (v := _) (a' := ?_) rfl rfl (by rfl) (fun w' hw' => load_run rfl (p := .pointer (some ⟨ga, j * 35 + 1, none⟩)) rfl (in_f1 (HRG.out _ (E4d.out.trans (Below.mono hw' E4d.out.size))))) ?_ ?_
            rotate_left
            · simp only [Act.put, List.setIfInBounds_toArray, List.set_cons_zero, List.set_cons_succ, Go.Proofs.YtbagphegelbgcaaW.PrintLast.i64_w, Go.Proofs.YtbagphegelbgcaaW.PrintLast.i32_w]
              rfl
            refine seq_take (v := ?_) (a' := ?_) rfl rfl (by rfl) (fun w' hw' => ?_) ?_ ?_
            rotate_left 2
            · go_simp
              with_reducible rfl
            · simp only [Act.put, List.setIfInBounds_toArray, List.set_cons_zero, List.set_cons_succ, Go.Proofs.YtbagphegelbgcaaW.PrintLast.i64_w, Go.Proofs.YtbagphegelbgcaaW.PrintLast.i32_w]
              rfl
            refine seq_take (v := ?_) (a' := ?_) rfl rfl (by rfl) (fun w' hw' => ?_) ?_ ?_
            rotate_left 2
            · go_simp
              with_reducible rfl
            · simp only [Act.put, List.setIfInBounds_toArray, List.set_cons_zero, List.set_cons_succ, Go.Proofs.YtbagphegelbgcaaW.PrintLast.i64_w, Go.Proofs.YtbagphegelbgcaaW.PrintLast.i32_w]
              rfl
            refine seq_take (v := ?_) (a' := ?_) rfl rfl (by rfl) (fun w' hw' => ?_) ?_ ?_
            rotate_left 2
            · go_simp
              with_reducible rfl
            · simp only [Act.put, List.setIfInBounds_toArray, List.set_cons_zero, List.set_cons_succ, Go.Proofs.YtbagphegelbgcaaW.PrintLast.i64_w, Go.Proofs.YtbagphegelbgcaaW.PrintLast.i32_w]
              rfl
            refine seq_take (v := ?_) (a' := ?_) rfl rfl (by rfl) (fun w' hw' => ?_) ?_ ?_
            rotate_left 2
            · go_simp
              with_reducible rfl
            · simp only [Act.put, List.setIfInBounds_toArray, List.set_cons_zero, List.set_cons_succ, Go.Proofs.YtbagphegelbgcaaW.PrintLast.i64_w, Go.Proofs.YtbagphegelbgcaaW.PrintLast.i32_w]
              rfl
            refine seq_take (v := _) (a' := ?_) rfl rfl (by rfl) (fun w' hw' => load_run rfl (p := .pointer (some ⟨ga, j * 35 + 2, none⟩)) rfl (in_f2 (HRG.out _ (E4d.out.trans (Below.mono hw' E4d.out.size))) HN.out)) ?_ ?_
            rotate_left
            · simp only [Act.put, List.setIfInBounds_toArray, List.set_cons_zero, List.set_cons_succ, Go.Proofs.YtbagphegelbgcaaW.PrintLast.i64_w, Go.Proofs.YtbagphegelbgcaaW.PrintLast.i32_w]
              rfl
            refine seq_take (v := _) (a' := ?_) rfl rfl (by rfl) (fun w' hw' => build_run _ _ rfl (built_m3 3 s' nm HN.out)) ?_ ?_
            rotate_left
            · simp only [Act.put, List.setIfInBounds_toArray, List.set_cons_zero, List.set_cons_succ, Go.Proofs.YtbagphegelbgcaaW.PrintLast.i64_w, Go.Proofs.YtbagphegelbgcaaW.PrintLast.i32_w]
              rfl
            refine seq_run ?_
            refine do_val (v := ?_) (a' := ?_) (w1 := ?_) rfl rfl (by rfl) ?_ ?_ ?_
            rotate_left 3
            · go_simp
              constructor <;> rfl
            · simp only [Act.put, List.setIfInBounds_toArray, List.set_cons_zero, List.set_cons_succ, Go.Proofs.YtbagphegelbgcaaW.PrintLast.i64_w, Go.Proofs.YtbagphegelbgcaaW.PrintLast.i32_w]
              rfl
            refine ⟨fun _ => below_alloc (Below.refl _ _) _, ?_⟩
            refine seq_run ?_
            refine do_blk rfl rfl (by rfl) 25 (.tmp 14) (.tmp 63) rfl rfl rfl (blk_new x4 _) (by rw [Mc_len HN.out]; rfl) (size_m HN.out) (Mc_one rfl) ?_
            rintro x5 HW
            refine ⟨fun h => absurd (by simp) h, ?_⟩
            refine seq_end ?_
            have E5 := Aside0.mk ((Below.drew (Below.alloc E4.out E4.out.size _)).trans (HW.below E4.out.size))
            have l1 := blk_lt HX3.out
            have l2 := hC4.size
            have HX5 := Aside0.mk ((HW.else_ gx (by omega)).trans ((Below.drew (Below.alloc hC4 l2 _)).block gx (by omega) |>.trans HX3.out))
            have HW5 := Aside0.mk HW.at_
            have HD5 := Aside0.mk ((Below.drew (Below.alloc hC4 l2 _)).trans (HW.below l2))
            have HR5 := Aside0.mk (Kd.C_below HR3.out HD5.out)
            have HG4 := Aside0.mk (Nat.le_trans E3.out.size l2)
            have HGN := Aside0.mk (show gx ≠ x4.heap.size by omega)
            have HL2 := Aside0.mk l2
            clear hR2 hC1 hC2 hC4 HW HR5 l1 l2 NX E1 E2 E4 E4d hR5 hc5
            generalize x4.heap.size = gw at *
            have HNE : Aside0 (∀ W, (binOp .neq 25 (.agg (Mc 0 0 Z32 (.string (strOfNums []))).toArray) (.agg (Mc 0 0 Z32 (.string ⟨#[]⟩)).toArray)).run Try.prog W = .ok (.bool false) W) := ⟨fun W => by rw [m_neq Z32_len Z32_len, show strOfNums [] = ⟨#[]⟩ from rfl, mSame_self]; rfl⟩
            have hk1 : (k' != 1) = true := by simpa using hk
            go_wp2_with (first
              | ((with_reducible refine at_st 3 (.tmp 65) _ ?_); refine store_f0 rfl (.tmp 65) _ rfl rfl rfl HW5.out HN.out ?_; rintro x6 S6; have E6 := Aside0.mk (E5.out.trans (S6.below HG4.out)); have HD6 := Aside0.mk (HD5.out.trans (S6.below HL2.out)); have HX6 := Aside0.mk (S6.blk HGN.out HX5.out); have HW6 := Aside0.mk S6.at_)
              | ((with_reducible refine at_cv 27 9 ?_); refine conv_arm rfl 27 9 _ rfl rfl (conv_str (Kd.C_below hfR.out E6.out) fc) ?_; simp only [Act.put, List.setIfInBounds_toArray, List.set_cons_zero, List.set_cons_succ])
              | ((with_reducible refine at_st 9 (.tmp 68) (.tmp 67) ?_); refine store_f3s rfl (.tmp 68) (.tmp 67) rfl rfl rfl HW6.out HN.out ?_; rintro x7 S7; have E7 := Aside0.mk (E6.out.trans (S7.below HG4.out)); have HD7 := Aside0.mk (HD6.out.trans (S7.below HL2.out)); have HX7 := Aside0.mk (S7.blk HGN.out HX6.out); have HW7 := Aside0.mk S7.at_; have HR7 := Aside0.mk (Kd.C_below HR3.out HD7.out))
              | ((with_reducible refine at_ldg 3 (.tmp 75) ?_); refine val_arm (by rfl) (load_run rfl rfl (in_f0 (HRG.out _ E7.out))) ?_)
              | ((with_reducible refine at_ldg (w := x7) 36 (.tmp 11) ?_); have hq := HX7.out; refine val_arm (by rfl) (load_run rfl rfl (ld_w hq Z32_len)) ?_; clear hq; simp only [Act.put, List.setIfInBounds_toArray, List.set_cons_zero, List.set_cons_succ])
              | (go_at_call 21; refine (as_calls 0 0 Z32 A2 n2 c2 [] _ x7 rfl Z32_len HR7.out).mono ?_; rintro e x8 ⟨rfl, hC8⟩; have E8 := Aside0.mk (below_tr E7.out hC8 E7.out.size))
              | ((with_reducible refine at_bdg 25 ?_); refine val_arm (by rfl) (build_run 25 _ rfl built_mz) ?_)
              | ((with_reducible refine at_bing .neq 25 ?_); refine val_arm (v := (.bool false)) (by rfl) (bin_run .neq 25 (.tmp 83) (.tmp 84) 25 rfl (p := (.agg (Mc 0 0 Z32 (.string (strOfNums []))).toArray)) (q := (.agg (Mc 0 0 Z32 (.string ⟨#[]⟩)).toArray)) rfl rfl (run_eqGuard_agg _ .neq _ _ _ _ _ hgdM) (HNE.out _)) ?_))
            go_roundw
            case rel => exact ⟨j + 1, by omega, by go_num, E8.out⟩
            case measure => simp [intOf]; omega
    · obtain rfl : j = 2 := by omega
      clear HAT HML HGA4
      cases has
      · have HOK : ansOk 1 0 0 false 4107 = true := rfl
        go_wp2_with (first
          | ((with_reducible refine at_bd 36 ?_); refine build_arm rfl 36 _ rfl (built_w0 1 0) ?_; simp only [Act.put, List.setIfInBounds_toArray, List.set_cons_zero, List.set_cons_succ])
          | (refine makeB (w0 := wr) wr.heap.size rfl rfl _ _ rfl 4107 rfl rfl (by omega) (by omega) (Below.refl _ _) (Nat.le_refl _) ?_; intro v7 y1 hO7 hB7; obtain ⟨z7, hz7, hO8⟩ : ∃ z, z.length = 4107 ∧ OwB y1 wr.heap.size v7 z := ⟨_, by rw [List.length_replicate]; rfl, hO7⟩; clear hO7; obtain ⟨A7, c7, hv7, hc7, hr7⟩ := OwB.reads hO8; rw [hz7] at hv7 hr7; have HR7 := Aside0.mk hr7; have HB7 := Aside0.mk hB7; clear hr7 hc7 hO8 hB7; subst hv7)
          | (go_at_call 20; refine (answer_calls 1 0 Z32 none A7 0 0 4107 c7 _ false _ y1 rfl Z32_len (by omega) HR7.out (by omega)).mono ?_; rintro e y2 hAP; obtain ⟨k2, s2, nm2, A2, n2, c2, ys, hn2, he, _, _, hC2⟩ := hAP; rw [HOK] at he; simp only [if_true, if_false, Bool.false_eq_true] at he; have HC2 := Aside0.mk hC2; clear hC2; subst he)
          | ((with_reducible refine at_al 36 ?_); refine new_w rfl rfl rfl rfl (.tmp 100) rfl (of_decide_eq_true rfl) rfl hn2 rfl ?_; rintro y3 g3 N3; have HN3 := Aside0.mk N3; clear N3)
          | (go_at_call 17; refine (lives_calls y3).mono ?_; rintro e u1 ⟨rfl, hC1⟩))
        go_ret
        have b1 := HB4.out.trans (HB.out.mono HB4.out.size)
        have b2 := below_tr b1 HB7.out b1.size
        have b3 := below_tr b2 HC2.out b2.size
        have b4 := below_tr b3 HN3.out.below b3.size
        exact ⟨rfl, below_tr b4 hC1 b4.size⟩
      · have HOK : ansOk 1 0 0 true 4107 = false := rfl
        go_wp2_with (first
          | ((with_reducible refine at_bd 36 ?_); refine build_arm rfl 36 _ rfl (built_w0 1 0) ?_; simp only [Act.put, List.setIfInBounds_toArray, List.set_cons_zero, List.set_cons_succ])
          | (refine makeB (w0 := wr) wr.heap.size rfl rfl _ _ rfl 4107 rfl rfl (by omega) (by omega) (Below.refl _ _) (Nat.le_refl _) ?_; intro v7 y1 hO7 hB7; obtain ⟨z7, hz7, hO8⟩ : ∃ z, z.length = 4107 ∧ OwB y1 wr.heap.size v7 z := ⟨_, by rw [List.length_replicate]; rfl, hO7⟩; clear hO7; obtain ⟨A7, c7, hv7, hc7, hr7⟩ := OwB.reads hO8; rw [hz7] at hv7 hr7; have HR7 := Aside0.mk hr7; have HB7 := Aside0.mk hB7; clear hr7 hc7 hO8 hB7; subst hv7)
          | (go_at_call 20; refine (answer_calls 1 0 Z32 none A7 0 0 4107 c7 _ true _ y1 rfl Z32_len (by omega) HR7.out (by omega)).mono ?_; rintro e y2 hAP; obtain ⟨k2, s2, nm2, A2, n2, c2, ys, hn2, he, _, _, hC2⟩ := hAP; rw [HOK] at he; simp only [if_true, if_false, Bool.false_eq_true] at he; have HC2 := Aside0.mk hC2; clear hC2; subst he)
          | ((with_reducible refine at_al 36 ?_); refine new_w rfl rfl rfl rfl (.tmp 100) rfl (of_decide_eq_true rfl) rfl hn2 rfl ?_; rintro y3 g3 N3; have HN3 := Aside0.mk N3; clear N3)
          | (go_at_call 17; refine (lives_calls y3).mono ?_; rintro e u1 ⟨rfl, hC1⟩))
        go_ret
        have b1 := HB4.out.trans (HB.out.mono HB4.out.size)
        have b2 := below_tr b1 HB7.out b1.size
        have b3 := below_tr b2 HC2.out b2.size
        have b4 := below_tr b3 HN3.out.below b3.size
        exact ⟨rfl, below_tr b4 hC1 b4.size⟩
end Go.Proofs.Ytbagphegelbgcaa
