/- WireSizes' walk. -/
import Derived.Test.YtbagphegelbgcaaWire6
import Derived.Test.YtbagphegelbgcaaOpenM
namespace Go.Proofs.Ytbagphegelbgcaa
open Go.RowKit Go.Proofs.YtbagphegelbgcaaW.PrintWords Go.Proofs.YtbagphegelbgcaaW.PrintMore
set_option linter.unusedVariables false
set_option linter.unusedSimpArgs false
/-- What is written is read as it was. -/
theorem WR_round {k s : Int} {nm body : List Int} (hn : nm.length = 32) (hm : mayB k s body.length = true) : WR (cput (wbody k s nm body)) = (k, s, nm, body, 0) := by
  have hmm := hm
  unfold mayB at hmm
  rw [decide_eq_true_iff] at hmm
  have e : wbody k s nm body = k :: ((s.toNat % 256 : Nat) : Int) :: ((s.toNat / 256 % 256 : Nat) : Int) :: ((s.toNat / 65536 % 256 : Nat) : Int) :: ((s.toNat / 16777216 % 256 : Nat) : Int) :: (nm ++ body) := by simp [wbody, le32]
  have hl : (wbody k s nm body).length = 37 + body.length := wbody_len hn
  have h0 : rd (wbody k s nm body) 0 = k := by rw [e]; rfl
  have hs : wseq (wbody k s nm body) = s := by
    have h1 : wseq (wbody k s nm body) = ((s.toNat % 256 : Nat) : Int) + 256 * ((s.toNat / 256 % 256 : Nat) : Int) + 65536 * ((s.toNat / 65536 % 256 : Nat) : Int) + 16777216 * ((s.toNat / 16777216 % 256 : Nat) : Int) := by rw [e]; rfl
    rw [h1]
    omega
  have hd5 : ((wbody k s nm body).drop 5).take 32 = nm := by
    rw [e]
    show (nm ++ body).take 32 = nm
    rw [List.take_left' hn]
  have hd37 : (wbody k s nm body).drop 37 = body := by
    rw [e]
    show (nm ++ body).drop 32 = body
    rw [List.drop_left' hn]
  have ht : ctake (cput (wbody k s nm body)) = (wbody k s nm body, 0) := ctake_put _
  have hml : mayB (rd (wbody k s nm body) 0) (wseq (wbody k s nm body)) ((wbody k s nm body).length - 37) = true := by
    rw [h0, hs, hl, Nat.add_sub_cancel_left]
    exact hm
  rw [WR_ok ht rfl (by omega) hml, h0, hs, hd5, hd37]
set_option maxHeartbeats 3200000 in
set_option maxRecDepth 20000 in
theorem wireSizes_walk (kd sq n : Int) (nm : List Int) (C : Array Value) (w : World) (hC : C = (Nm nm).toArray) (hn : nm.length = 32) (hbn : Bytes nm)
    (hk0 : -9223372036854775808 ≤ kd) (hk1 : kd ≤ 9223372036854775807) (hs0 : -9223372036854775808 ≤ sq) (hs1 : sq ≤ 9223372036854775807) (hn0 : -9223372036854775808 ≤ n) (hn1 : n ≤ 9223372036854775807) :
    Calls Try.prog 8 #[.int .i64 kd, .int .i64 sq, .int .i64 n, .agg C] w fun e w' => e = .returned (.bool true) ∧ Below w.heap.size w w' := by
  have Q0 : Bag w (w.alloc (.cells C 23)) [(w.heap.size, .cells (Nm nm).toArray 23 (0, 0))] := by
    rw [← hC]
    exact (Bag.nil w).box C 23
  have HQ1 : Aside0 (∀ o, Bag w ((w.alloc (.cells C 23)).alloc (.cells o 36)).drew [(w.heap.size, .cells (Nm nm).toArray 23 (0, 0)), (w.heap.size + 1, .cells o 36 (0, 0))]) := ⟨fun o => by
    have h := (Q0.box o 36).drew
    rw [show (w.alloc (.cells C 23)).heap.size = w.heap.size + 1 by simp] at h
    exact h⟩
  have HN := Aside0.mk hn
  have HQ0 := Aside0.mk Q0
  have HLD : Aside0 (∀ W : World, W.heap[w.heap.size]? = some (.cells (Nm nm).toArray 23 (0, 0)) → (Instr.loadAt 23 (.pointer (some ⟨w.heap.size, 0, none⟩))).run Try.prog W = .ok (.agg (Nm nm).toArray) W) := ⟨fun W hW => ld_row (P := Try.prog) hW 23 _ Try.underlying23 rfl (by rw [List.size_toArray, size_d nm HN.out])⟩
  have hgd : Try.prog.eqGuardType Try.prog.depth 23 = false := by kernel_rfl
  have HDE : Aside0 (∀ W, (binOp .eql 23 (.agg (Nm nm).toArray) (.agg (Nm nm).toArray)).run Try.prog W = .ok (.bool true) W) := ⟨fun W => by rw [d_eql HN.out HN.out, decide_eq_true rfl]⟩
  clear hC hn Q0
  obtain ⟨a0, a1⟩ := around_range kd 3 (by omega)
  obtain ⟨c0, c1⟩ := around_range sq 4294967296 (by omega)
  obtain ⟨d0, d1⟩ := around_range n 4107 (by omega)
  go_enter Try.func8, Try.ntmps8
  go_wp2
  have fk : IntKind.i64.wrap (1 + around kd 3) = 1 + around kd 3 := by rw [IntKind.wrap_i64]; omega
  refine seq_start [8] (.take 0 (.take 1 (.take 2 (.take 3 (.take 4 (.take 5 (.take 6 (.run 7 (.run 8 .done))))))))) (by kernel_rfl) (by kernel_rfl) (fun _ _ d _ _ h => by cases d <;> exact h) ?_
  refine seq_take (v := ?_) (a' := ?_) rfl rfl (by rfl) (fun w' hw' => ?_) ?_ ?_
  rotate_left 2
  · go_simp
    with_reducible rfl
  · simp only [Act.put, List.setIfInBounds_toArray, List.set_cons_zero, List.set_cons_succ, Go.Proofs.YtbagphegelbgcaaW.PrintLast.i64_w, Go.Proofs.YtbagphegelbgcaaW.PrintLast.i32_w]
    rfl
  refine seq_quiet (v := ?_) (a' := ?_) rfl rfl (by rfl) rfl Try.func10 (by kernel_rfl) rfl #[.int .i64 kd, .int .i64 3] (by simp only [List.map_toArray, List.map_cons, List.map_nil]; rfl) (fun w' hw' => ?_) ?_ ?_
  rotate_left 2
  · with_reducible exact around_calls kd 3 w' hk0 hk1 (by omega) (by omega)
  · simp only [Act.put, List.setIfInBounds_toArray, List.set_cons_zero, List.set_cons_succ, Go.Proofs.YtbagphegelbgcaaW.PrintLast.i64_w, Go.Proofs.YtbagphegelbgcaaW.PrintLast.i32_w]
    rfl
  refine seq_take (v := ?_) (a' := ?_) rfl rfl (by rfl) (fun w' hw' => ?_) ?_ ?_
  rotate_left 2
  · go_simp
    with_reducible rfl
  · simp only [Act.put, List.setIfInBounds_toArray, List.set_cons_zero, List.set_cons_succ, Go.Proofs.YtbagphegelbgcaaW.PrintLast.i64_w, Go.Proofs.YtbagphegelbgcaaW.PrintLast.i32_w]
    rfl
  refine seq_take (v := ?_) (a' := ?_) rfl rfl (by rfl) (fun w' hw' => ?_) ?_ ?_
  rotate_left 2
  · go_simp
    with_reducible rfl
  · simp only [Act.put, List.setIfInBounds_toArray, List.set_cons_zero, List.set_cons_succ, Go.Proofs.YtbagphegelbgcaaW.PrintLast.i64_w, Go.Proofs.YtbagphegelbgcaaW.PrintLast.i32_w]
    rfl
  refine seq_quiet (v := ?_) (a' := ?_) rfl rfl (by rfl) rfl Try.func10 (by kernel_rfl) rfl #[.int .i64 sq, .int .i64 4294967296] (by simp only [List.map_toArray, List.map_cons, List.map_nil]; rfl) (fun w' hw' => ?_) ?_ ?_
  rotate_left 2
  · with_reducible exact around_calls sq 4294967296 w' hs0 hs1 (by omega) (by omega)
  · simp only [Act.put, List.setIfInBounds_toArray, List.set_cons_zero, List.set_cons_succ, Go.Proofs.YtbagphegelbgcaaW.PrintLast.i64_w, Go.Proofs.YtbagphegelbgcaaW.PrintLast.i32_w]
    rfl
  refine seq_take (v := _) (a' := ?_) rfl rfl (by rfl) (fun w' hw' => load_run rfl (p := .pointer (some ⟨w.heap.size, 0, none⟩)) rfl (HLD.out w' (hw'.heap (w := (w.alloc (.cells C 23)).drew) (HQ0.out.at 0 rfl)))) ?_ ?_
  rotate_left
  · simp only [Act.put, List.setIfInBounds_toArray, List.set_cons_zero, List.set_cons_succ, Go.Proofs.YtbagphegelbgcaaW.PrintLast.i64_w, Go.Proofs.YtbagphegelbgcaaW.PrintLast.i32_w]
    rfl
  refine seq_take (v := _) (a' := ?_) rfl rfl (by rfl) (fun w' hw' => build_run _ _ rfl (built_w3 (1 + around kd 3) (around sq 4294967296) nm HN.out)) ?_ ?_
  rotate_left
  · simp only [Act.put, List.setIfInBounds_toArray, List.set_cons_zero, List.set_cons_succ, Go.Proofs.YtbagphegelbgcaaW.PrintLast.i64_w, Go.Proofs.YtbagphegelbgcaaW.PrintLast.i32_w]
    rfl
  refine seq_run ?_
  refine do_val (v := ?_) (a' := ?_) (w1 := ?_) rfl rfl (by rfl) ?_ ?_ ?_
  rotate_left 3
  · go_simp
    constructor <;> rfl
  · simp only [Act.put, List.setIfInBounds_toArray, List.set_cons_zero, List.set_cons_succ, Go.Proofs.YtbagphegelbgcaaW.PrintLast.i64_w, Go.Proofs.YtbagphegelbgcaaW.PrintLast.i32_w]
    rfl
  refine ⟨fun _ => below_alloc (Below.refl _ _) _, ?_⟩
  refine seq_run ?_
  refine do_blk rfl rfl (by rfl) 36 (.tmp 9) (.tmp 21) rfl rfl rfl ((HQ1.out _).at 1 rfl) (by rw [Mc_len HN.out]; rfl) (size_w HN.out) (Mc_one rfl) ?_
  rintro w1 HS
  refine ⟨fun h => absurd (by simp) h, ?_⟩
  refine seq_end ?_
  have Q1 := (HQ1.out _).set 1 rfl HS
  clear HS HQ0 HQ1
  have kr0 : 1 ≤ 1 + around kd 3 := by omega
  have kr1 : 1 + around kd 3 ≤ 3 := by omega
  generalize 1 + around kd 3 = K at *
  generalize around sq 4294967296 = S at *
  generalize hkk : around n 4107 = kk at *
  have fkk : IntKind.i64.wrap (41 + kk) = 41 + kk := by rw [IntKind.wrap_i64]; omega
  by_cases hK : K = 2
  · have hb : Aside0 (∀ m, m = kk.toNat → mayB 2 S m = true) := ⟨fun m hm => by unfold mayB; rw [decide_eq_true_iff]; omega⟩
    subst hK
    go_wp2_with (first
      | ((with_reducible refine at_ld (w := w1) 3 (.tmp 22) ?_); have hq := Q1.at 1 rfl; refine load_arm rfl 3 (.tmp 22) rfl rfl (ld_f0 hq HN.out) ?_; clear hq; simp only [Act.put, List.setIfInBounds_toArray, List.set_cons_zero, List.set_cons_succ])
      | (go_at_call 10; refine (around_calls n 4107 _ hn0 hn1 (by omega) (by omega)).mono ?_; rw [hkk]; rintro e u1 ⟨rfl, rfl⟩)
      | (refine makeB (w0 := w1) w1.heap.size rfl rfl (.tmp 27) (.tmp 27) rfl kk rfl rfl (by omega) (by omega) (Below.refl _ _) (Nat.le_refl _) ?_; intro v2 w2 hO2 hB2; obtain ⟨z, HZ, hO3⟩ : ∃ z, Aside0 (z.length = kk.toNat ∧ Bytes z) ∧ OwB w2 w1.heap.size v2 z := ⟨_, ⟨by simp, fun x hx => by have := (List.mem_replicate.1 hx).2; omega⟩, hO2⟩; clear hO2; obtain ⟨A2, c2, hv2, hc2, hr2⟩ := OwB.reads hO3; have HO3 := Aside0.mk hO3; have Q2 := Q1.call hB2; clear hr2 hO3 hB2 hc2; subst hv2)
      | ((with_reducible refine at_st 27 (.tmp 29) (.tmp 28) ?_); refine store_f3b rfl (.tmp 29) (.tmp 28) rfl rfl rfl (Q2.at 1 rfl) HN.out ?_; rintro w3 S3; have Q3 := Q2.set 1 rfl S3; have HR3 := Aside0.mk (rd_far HO3.out fun k h1 h2 => S3.else_ k (by have := blk_lt (Q1.at 1 rfl); omega)))
      | ((with_reducible refine at_ld (w := w3) 36 (.tmp 9) ?_); have hq := Q3.at 1 rfl; refine load_arm rfl 36 (.tmp 9) rfl rfl (ld_w hq HN.out) ?_; clear hq; simp only [Act.put, List.setIfInBounds_toArray, List.set_cons_zero, List.set_cons_succ])
      | (go_at_call 13; refine (write_calls 2 S nm A2 z.length c2 z _ w3 rfl HN.out hbn HR3.out HZ.out.2 (by have := HZ.out.1; omega)).mono ?_; rw [hb.out _ HZ.out.1]; rintro e w4 ⟨v4, rfl, hO4, hB4⟩; obtain ⟨ys, HY, hO5⟩ : ∃ ys, Aside0 (ys = cput (wbody 2 S nm z)) ∧ OwB w4 w3.heap.size v4 ys := ⟨_, ⟨rfl⟩, hO4⟩; obtain ⟨A4, c4, hv4, hc4, hr4⟩ := OwB.reads hO5; have Q4 := Q3.call hB4; have HR4 := Aside0.mk hr4; have hyl : (ys.length : Int) = 41 + kk := (by rw [HY.out, cput_length, wbody_len HN.out, HZ.out.1]; omega); clear hO4 hO5 hr4 hB4; subst hv4)
      | (go_at_call 23; refine (wread_calls A4 ys.length c4 ys _ HR4.out hc4 (by rw [HY.out]; exact cput_bytes (wbody_bytes (by omega) (by omega) hbn HZ.out.2)) (by omega)).mono ?_; rintro e w5 ⟨k5, s5, nm5, ys5, er5, A5, n5, c5, hn5, rfl, hR5, hE5, hB5⟩; have hE6 := hE5.out; rw [HY.out, WR_round HN.out (hb.out _ HZ.out.1)] at hE6; simp only [Prod.mk.injEq] at hE6; obtain ⟨h61, h62, h63, h64, h65⟩ := hE6; subst k5; subst s5; subst nm5; subst ys5; subst er5; have hn6 : (n5 : Int) = kk := (by have h1 := hR5.out.1; have h2 := HZ.out.1; omega); have Q5 := Q4.call hB5; clear hE5 hR5 hB5)
      | ((with_reducible refine at_al 36 ?_); refine new_w rfl rfl rfl rfl (.tmp 38) rfl (of_decide_eq_true rfl) rfl HN.out rfl ?_; rintro w6 g6 N6; have Q6 := Q5.new N6; clear N6)
      | ((with_reducible refine at_ldg (w := w6) 27 (.tmp 54) ?_); have hq := Q6.at 2 rfl; refine val_arm (by rfl) (load_run rfl rfl (ld_f3b hq HN.out)) ?_; clear hq; simp only [Act.put, List.setIfInBounds_toArray, List.set_cons_zero, List.set_cons_succ])
      | ((with_reducible refine at_ldg (w := w6) 3 (.tmp 61) ?_); have hq := Q6.at 2 rfl; refine val_arm (by rfl) (load_run rfl rfl (ld_f0 hq HN.out)) ?_; clear hq; simp only [Act.put, List.setIfInBounds_toArray, List.set_cons_zero, List.set_cons_succ])
      | ((with_reducible refine at_ldg (w := w6) 3 (.tmp 63) ?_); have hq := Q6.at 1 rfl; refine val_arm (by rfl) (load_run rfl rfl (ld_f0 hq HN.out)) ?_; clear hq; simp only [Act.put, List.setIfInBounds_toArray, List.set_cons_zero, List.set_cons_succ])
      | ((with_reducible refine at_ldg (w := w6) 3 (.tmp 68) ?_); have hq := Q6.at 2 rfl; refine val_arm (by rfl) (load_run rfl rfl (ld_f1 hq HN.out)) ?_; clear hq; simp only [Act.put, List.setIfInBounds_toArray, List.set_cons_zero, List.set_cons_succ])
      | ((with_reducible refine at_ldg (w := w6) 3 (.tmp 70) ?_); have hq := Q6.at 1 rfl; refine val_arm (by rfl) (load_run rfl rfl (ld_f1 hq HN.out)) ?_; clear hq; simp only [Act.put, List.setIfInBounds_toArray, List.set_cons_zero, List.set_cons_succ])
      | ((with_reducible refine at_ldg (w := w6) 23 (.tmp 75) ?_); have hq := Q6.at 2 rfl; refine val_arm (by rfl) (load_run rfl rfl (ld_f2 hq HN.out)) ?_; clear hq; simp only [Act.put, List.setIfInBounds_toArray, List.set_cons_zero, List.set_cons_succ])
      | ((with_reducible refine at_ldg 23 (.tmp 7) ?_); refine val_arm (by rfl) (load_run rfl rfl (HLD.out _ (Q6.at 0 rfl))) ?_)
      | ((with_reducible refine at_bing .eql 23 ?_); refine val_arm (v := (.bool true)) (by rfl) (bin_run .eql 23 (.tmp 76) (.tmp 77) 23 rfl (p := (.agg (Nm nm).toArray)) (q := (.agg (Nm nm).toArray)) rfl rfl (run_eqGuard_agg _ .eql _ _ _ _ _ hgd) (HDE.out _)) ?_)
      | (go_at_call 17; refine (lives_calls w6).mono ?_; rintro e u9 ⟨rfl, hC9⟩))
    go_ret
    exact ⟨rfl, (Q6.call hC9).below⟩
  · have hb : Aside0 (∀ m, m = 0 → mayB K S m = true) := ⟨fun m hm => by unfold mayB; rw [decide_eq_true_iff]; omega⟩
    have hK2 : (K == 2) = false := by simpa using hK
    go_wp2_with (first
      | ((with_reducible refine at_ld (w := w1) 3 (.tmp 22) ?_); have hq := Q1.at 1 rfl; refine load_arm rfl 3 (.tmp 22) rfl rfl (ld_f0 hq HN.out) ?_; clear hq; simp only [Act.put, List.setIfInBounds_toArray, List.set_cons_zero, List.set_cons_succ])
      | (refine makeB (w0 := w1) w1.heap.size rfl rfl (.tmp 27) (.tmp 27) rfl 0 rfl rfl (by omega) (by omega) (Below.refl _ _) (Nat.le_refl _) ?_; intro v2 w2 hO2 hB2; obtain ⟨z, HZ, hO3⟩ : ∃ z, Aside0 (z.length = 0 ∧ Bytes z) ∧ OwB w2 w1.heap.size v2 z := ⟨_, ⟨by simp, fun x hx => by have := (List.mem_replicate.1 hx).2; omega⟩, hO2⟩; clear hO2; obtain ⟨A2, c2, hv2, hc2, hr2⟩ := OwB.reads hO3; have HO3 := Aside0.mk hO3; have Q2 := Q1.call hB2; clear hr2 hO3 hB2 hc2; subst hv2)
      | ((with_reducible refine at_st 27 (.tmp 29) (.tmp 28) ?_); refine store_f3b rfl (.tmp 29) (.tmp 28) rfl rfl rfl (Q2.at 1 rfl) HN.out ?_; rintro w3 S3; have Q3 := Q2.set 1 rfl S3; have HR3 := Aside0.mk (rd_far HO3.out fun k h1 h2 => S3.else_ k (by have := blk_lt (Q1.at 1 rfl); omega)))
      | ((with_reducible refine at_ld (w := w3) 36 (.tmp 9) ?_); have hq := Q3.at 1 rfl; refine load_arm rfl 36 (.tmp 9) rfl rfl (ld_w hq HN.out) ?_; clear hq; simp only [Act.put, List.setIfInBounds_toArray, List.set_cons_zero, List.set_cons_succ])
      | (go_at_call 13; refine (write_calls K S nm A2 z.length c2 z _ w3 rfl HN.out hbn HR3.out HZ.out.2 (by have := HZ.out.1; omega)).mono ?_; rw [hb.out _ HZ.out.1]; rintro e w4 ⟨v4, rfl, hO4, hB4⟩; obtain ⟨ys, HY, hO5⟩ : ∃ ys, Aside0 (ys = cput (wbody K S nm z)) ∧ OwB w4 w3.heap.size v4 ys := ⟨_, ⟨rfl⟩, hO4⟩; obtain ⟨A4, c4, hv4, hc4, hr4⟩ := OwB.reads hO5; have Q4 := Q3.call hB4; have HR4 := Aside0.mk hr4; have hyl : (ys.length : Int) = 41 := (by rw [HY.out, cput_length, wbody_len HN.out, HZ.out.1]; omega); clear hO4 hO5 hr4 hB4; subst hv4)
      | (go_at_call 23; refine (wread_calls A4 ys.length c4 ys _ HR4.out hc4 (by rw [HY.out]; exact cput_bytes (wbody_bytes (by omega) (by omega) hbn HZ.out.2)) (by omega)).mono ?_; rintro e w5 ⟨k5, s5, nm5, ys5, er5, A5, n5, c5, hn5, rfl, hR5, hE5, hB5⟩; have hE6 := hE5.out; rw [HY.out, WR_round HN.out (hb.out _ HZ.out.1)] at hE6; simp only [Prod.mk.injEq] at hE6; obtain ⟨h61, h62, h63, h64, h65⟩ := hE6; subst k5; subst s5; subst nm5; subst ys5; subst er5; have hn6 : (n5 : Int) = 0 := (by have h1 := hR5.out.1; have h2 := HZ.out.1; omega); have Q5 := Q4.call hB5; clear hE5 hR5 hB5)
      | ((with_reducible refine at_al 36 ?_); refine new_w rfl rfl rfl rfl (.tmp 38) rfl (of_decide_eq_true rfl) rfl HN.out rfl ?_; rintro w6 g6 N6; have Q6 := Q5.new N6; clear N6)
      | ((with_reducible refine at_ldg (w := w6) 27 (.tmp 54) ?_); have hq := Q6.at 2 rfl; refine val_arm (by rfl) (load_run rfl rfl (ld_f3b hq HN.out)) ?_; clear hq; simp only [Act.put, List.setIfInBounds_toArray, List.set_cons_zero, List.set_cons_succ])
      | ((with_reducible refine at_ldg (w := w6) 3 (.tmp 61) ?_); have hq := Q6.at 2 rfl; refine val_arm (by rfl) (load_run rfl rfl (ld_f0 hq HN.out)) ?_; clear hq; simp only [Act.put, List.setIfInBounds_toArray, List.set_cons_zero, List.set_cons_succ])
      | ((with_reducible refine at_ldg (w := w6) 3 (.tmp 63) ?_); have hq := Q6.at 1 rfl; refine val_arm (by rfl) (load_run rfl rfl (ld_f0 hq HN.out)) ?_; clear hq; simp only [Act.put, List.setIfInBounds_toArray, List.set_cons_zero, List.set_cons_succ])
      | ((with_reducible refine at_ldg (w := w6) 3 (.tmp 68) ?_); have hq := Q6.at 2 rfl; refine val_arm (by rfl) (load_run rfl rfl (ld_f1 hq HN.out)) ?_; clear hq; simp only [Act.put, List.setIfInBounds_toArray, List.set_cons_zero, List.set_cons_succ])
      | ((with_reducible refine at_ldg (w := w6) 3 (.tmp 70) ?_); have hq := Q6.at 1 rfl; refine val_arm (by rfl) (load_run rfl rfl (ld_f1 hq HN.out)) ?_; clear hq; simp only [Act.put, List.setIfInBounds_toArray, List.set_cons_zero, List.set_cons_succ])
      | ((with_reducible refine at_ldg (w := w6) 23 (.tmp 75) ?_); have hq := Q6.at 2 rfl; refine val_arm (by rfl) (load_run rfl rfl (ld_f2 hq HN.out)) ?_; clear hq; simp only [Act.put, List.setIfInBounds_toArray, List.set_cons_zero, List.set_cons_succ])
      | ((with_reducible refine at_ldg 23 (.tmp 7) ?_); refine val_arm (by rfl) (load_run rfl rfl (HLD.out _ (Q6.at 0 rfl))) ?_)
      | ((with_reducible refine at_bing .eql 23 ?_); refine val_arm (v := (.bool true)) (by rfl) (bin_run .eql 23 (.tmp 76) (.tmp 77) 23 rfl (p := (.agg (Nm nm).toArray)) (q := (.agg (Nm nm).toArray)) rfl rfl (run_eqGuard_agg _ .eql _ _ _ _ _ hgd) (HDE.out _)) ?_)
      | (go_at_call 17; refine (lives_calls w6).mono ?_; rintro e u9 ⟨rfl, hC9⟩))
    go_ret
    exact ⟨rfl, (Q6.call hC9).below⟩
end Go.Proofs.Ytbagphegelbgcaa
