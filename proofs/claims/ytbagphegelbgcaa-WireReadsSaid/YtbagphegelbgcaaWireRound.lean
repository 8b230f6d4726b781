/- WireRound's walk. -/
import Derived.Test.YtbagphegelbgcaaWireSizes
import Derived.Test.YtbagphegelbgcaaOpenM2
import Derived.Test.YtbagphegelbgcaaWireMay
namespace Go.Proofs.Ytbagphegelbgcaa
open Go.RowKit Go.Proofs.YtbagphegelbgcaaW.PrintWords Go.Proofs.YtbagphegelbgcaaW.PrintMore
set_option linter.unusedVariables false
set_option linter.unusedSimpArgs false
theorem good_may (k s : Int) (b : ByteArray) : mayB (goodK k) (goodS s) (goodB k b).size = true := by
  have h1 := goodK_range k
  have h2 := goodS_range s
  have h3 := goodB_size k b
  unfold mayB
  rw [decide_eq_true_iff]
  refine ⟨h1.1, h1.2, h2.1, by omega, ?_⟩
  by_cases hk : goodK k = 2
  · exact .inr ⟨hk, by omega⟩
  · exact .inl (by unfold goodB; rw [if_neg hk]; rfl)
theorem turn_ne (x y : Int) (h0 : 0 ≤ x) (h1 : x < 256) (h2 : 0 ≤ y) (h3 : y < 256) (hy : y ≠ 0) : 0 ≤ Go.bits .xor .u8 x y ∧ Go.bits .xor .u8 x y < 256 ∧ x ≠ Go.bits .xor .u8 x y := by
  obtain ⟨r0, r1⟩ := u8_xor_range x y h0 h1 h2 h3
  refine ⟨r0, r1, fun e => hy ?_⟩
  rw [u8_xor x y h0 h1 h2 h3] at e
  have e2 : x.toNat ^^^ 0 = x.toNat ^^^ y.toNat := by rw [Nat.xor_zero]; omega
  have := xor_left_inj e2
  omega
theorem mSame_id (k s : Int) (nm : List Int) (b : ByteArray) : mSame k s nm b k s nm b = true := by simp [mSame]
set_option maxHeartbeats 3200000 in
set_option maxRecDepth 20000 in
theorem wireRound_walk (k s : Int) (nm : List Int) (b : ByteArray) (at_ by_ : Int) (C : Array Value) (w : World) (hC : C = (Mc k s nm (.string b)).toArray) (hn : nm.length = 32) (hbn : Bytes nm) (hm : b.size ≤ 9223372036854775807)
    (hk0 : -9223372036854775808 ≤ k) (hk1 : k ≤ 9223372036854775807) (hs0 : -9223372036854775808 ≤ s) (hs1 : s ≤ 9223372036854775807)
    (ha0 : -9223372036854775808 ≤ at_) (ha1 : at_ ≤ 9223372036854775807) (hy0 : 0 ≤ by_) (hy1 : by_ < 256) :
    Calls Try.prog 7 #[.agg C, .int .i64 at_, .int .u8 by_] w fun e w' => e = .returned (.bool true) ∧ Below w.heap.size w w' := by
  have Q0 : Bag w (w.alloc (.cells C 25)) [(w.heap.size, .cells (Mc k s nm (.string b)).toArray 25 (0, 0))] := by
    rw [← hC]
    exact (Bag.nil w).box C 25
  have HN := Aside0.mk hn
  have HGM := Aside0.mk (good_may k s b)
  have hgB := goodB_size k b
  have hKr := goodK_range k
  have hgdM : Try.prog.eqGuardType Try.prog.depth 25 = false := by kernel_rfl
  clear hC hn
  go_enter Try.func7, Try.ntmps7
  go_wp2_with (first
    | ((with_reducible refine at_ld (w := w.alloc (.cells C 25)) 25 (.tmp 3) ?_); have hq := Q0.at 0 rfl; refine load_arm rfl 25 (.tmp 3) rfl rfl (ld_m hq HN.out) ?_; clear hq; simp only [Act.put, List.setIfInBounds_toArray, List.set_cons_zero, List.set_cons_succ])
    | (go_at_call 9; refine (good_calls k s nm b _ _ rfl HN.out hm hk0 hk1 hs0 hs1).mono ?_; generalize goodK k = K at *; generalize goodS s = S at *; generalize goodB k b = gb at *; rintro e w1 ⟨rfl, hB1⟩; have Q1 := Q0.call hB1; clear hB1)
    | ((with_reducible refine at_al 25 ?_); refine new_m rfl rfl rfl rfl (.tmp 16) rfl (of_decide_eq_true rfl) rfl HN.out rfl ?_; rintro w2 g2 N2; have Q2 := Q1.new N2; clear N2)
    | ((with_reducible refine at_ld (w := w2) 25 (.tmp 7) ?_); have hq := Q2.at 1 rfl; refine load_arm rfl 25 (.tmp 7) rfl rfl (ld_m hq HN.out) ?_; clear hq; simp only [Act.put, List.setIfInBounds_toArray, List.set_cons_zero, List.set_cons_succ])
    | (go_at_call 14; refine (of_calls K S nm gb _ _ rfl HN.out (by omega)).mono ?_; rintro e w3 ⟨A3, c3, rfl, hR3, hc3, hB3⟩; have Q3 := Q2.call hB3; have HR3 := Aside0.mk hR3; clear hR3 hc3 hB3)
    | (go_at_call 13; refine (write_calls K S nm A3 gb.size c3 (bytesOf gb) _ w3 rfl HN.out hbn HR3.out (bytesOf_bytes gb) (by omega)).mono ?_; rw [HGM.out]; rintro e w4 ⟨v4, rfl, hO4, hB4⟩; obtain ⟨ys, HY, hO5⟩ : ∃ ys, Aside0 (ys = cput (wbody K S nm (bytesOf gb))) ∧ OwB w4 w3.heap.size v4 ys := ⟨_, ⟨rfl⟩, hO4⟩; have hyl : 41 ≤ ys.length ∧ ys.length ≤ 81 := (by rw [HY.out, cput_length, wbody_len HN.out, bytesOf_len]; omega); obtain ⟨yg, c4, hv4, hg1, hg2⟩ := OwB.place hO5 (by omega); have Q4 := Q3.call hB4; have HO4 := Aside0.mk hO5; have HG1 := Aside0.mk (Nat.le_trans Q3.below.size hg1); clear hO4 hO5 hB4 hg1 hg2; subst hv4)
    | (go_at_call 23; (with_reducible refine at_c w4 ?_); refine (wread_calls (some ⟨yg, 0, none⟩) ys.length c4 ys _ (OwB.parts HO4.out).2 (OwB.parts HO4.out).1 (by rw [HY.out]; exact cput_bytes (wbody_bytes (by omega) (by omega) hbn (bytesOf_bytes gb))) (by omega)).mono ?_; rintro e w5 ⟨k5, s5, nm5, ys5, er5, A5, n5, c5, hn5, rfl, hR5, hE5, hB5⟩; have hE6 := hE5.out; rw [HY.out, WR_round HN.out (by rw [bytesOf_len]; exact HGM.out)] at hE6; simp only [Prod.mk.injEq] at hE6; obtain ⟨h61, h62, h63, h64, h65⟩ := hE6; subst k5; subst s5; subst nm5; subst ys5; subst er5; have Q5 := Q4.call hB5; have HO5 := Aside0.mk (HO4.out.below hB5); clear hE5 hB5)
    | ((with_reducible refine at_al 36 ?_); refine new_w rfl rfl rfl rfl (.tmp 26) rfl (of_decide_eq_true rfl) rfl HN.out rfl ?_; rintro w6 g6 N6; have Q6 := Q5.new N6; have HO6 := Aside0.mk (HO5.out.below N6.below); have HR6 := Aside0.mk (Kd.C_below hR5.out N6.below); clear N6 hR5))
  have HNE : Aside0 (∀ W, (binOp .neq 25 (.agg (Mc K S nm (.string (strOfNums (bytesOf gb)))).toArray) (.agg (Mc K S nm (.string gb)).toArray)).run Try.prog W = .ok (.bool false) W) := ⟨fun W => by rw [m_neq HN.out HN.out, str_bytesOf, mSame_id]; rfl⟩
  have hlz : ((ys.length : Int) == 0) = false := by rw [beq_eq_false_iff_ne]; omega
  refine seq_start [] (.take 0 (.take 1 (.take 2 (.take 3 (.take 4 (.take 5 (.take 6 (.take 7 (.take 9 (.run 8 (.take 10 (.take 11 (.take 12 (.take 13 (.take 14 (.take 15 (.take 16 .done))))))))))))))))) (by kernel_rfl) (by kernel_rfl) (fun _ _ d _ _ h => by cases d <;> exact h) ?_
  refine seq_take (v := ?_) (a' := ?_) rfl rfl (by rfl) (fun w' hw' => ?_) ?_ ?_
  rotate_left 2
  · go_simp
    with_reducible rfl
  · simp only [Act.put, List.setIfInBounds_toArray, List.set_cons_zero, List.set_cons_succ, Go.Proofs.YtbagphegelbgcaaW.PrintLast.i64_w, Go.Proofs.YtbagphegelbgcaaW.PrintLast.i32_w]
    rfl
  refine seq_take (v := ?_) (a' := ?_) rfl rfl (by rfl) (fun w' hw' => ?_) ?_ ?_
  rotate_left 2
  · go_simp
    with_reducible rfl
  · simp only [Act.put, List.setIfInBounds_toArray, List.set_cons_zero, List.set_cons_succ, Go.Proofs.YtbagphegelbgcaaW.PrintLast.i64_w, Go.Proofs.YtbagphegelbgcaaW.PrintLast.i32_w]
    rfl
  refine seq_take (v := ?_) (a' := ?_) rfl rfl (by rfl) (fun w' hw' => ?_) ?_ ?_
  rotate_left 2
  · go_simp
    with_reducible rfl
  · simp only [Act.put, List.setIfInBounds_toArray, List.set_cons_zero, List.set_cons_succ, Go.Proofs.YtbagphegelbgcaaW.PrintLast.i64_w, Go.Proofs.YtbagphegelbgcaaW.PrintLast.i32_w]
    rfl
  refine seq_take (v := ?_) (a' := ?_) rfl rfl (by rfl) (fun w' hw' => ?_) ?_ ?_
  rotate_left 2
  · go_simp
    with_reducible rfl
  · simp only [Act.put, List.setIfInBounds_toArray, List.set_cons_zero, List.set_cons_succ, Go.Proofs.YtbagphegelbgcaaW.PrintLast.i64_w, Go.Proofs.YtbagphegelbgcaaW.PrintLast.i32_w]
    rfl
  refine seq_take (v := ?_) (a' := ?_) rfl rfl (by rfl) (fun w' hw' => ?_) ?_ ?_
  rotate_left 2
  · go_simp
    with_reducible rfl
  · simp only [Act.put, List.setIfInBounds_toArray, List.set_cons_zero, List.set_cons_succ, Go.Proofs.YtbagphegelbgcaaW.PrintLast.i64_w, Go.Proofs.YtbagphegelbgcaaW.PrintLast.i32_w]
    rfl
  refine seq_take (v := ?_) (a' := ?_) rfl rfl (by rfl) (fun w' hw' => ?_) ?_ ?_
  rotate_left 2
  · go_simp
    with_reducible rfl
  · simp only [Act.put, List.setIfInBounds_toArray, List.set_cons_zero, List.set_cons_succ, Go.Proofs.YtbagphegelbgcaaW.PrintLast.i64_w, Go.Proofs.YtbagphegelbgcaaW.PrintLast.i32_w]
    rfl
  refine seq_take (v := ?_) (a' := ?_) rfl rfl (by rfl) (fun w' hw' => ?_) ?_ ?_
  rotate_left 2
  · go_simp
    with_reducible rfl
  · simp only [Act.put, List.setIfInBounds_toArray, List.set_cons_zero, List.set_cons_succ, Go.Proofs.YtbagphegelbgcaaW.PrintLast.i64_w, Go.Proofs.YtbagphegelbgcaaW.PrintLast.i32_w]
    rfl
  refine seq_take (v := _) (a' := ?_) rfl rfl (by rfl) (fun w' hw' => load_run rfl (p := .pointer (some ⟨g6, 0, none⟩)) rfl (ld_w (hw'.heap (w := w6.drew) (Q6.at 2 rfl)) HN.out)) ?_ ?_
  rotate_left
  · simp only [Act.put, List.setIfInBounds_toArray, List.set_cons_zero, List.set_cons_succ, Go.Proofs.YtbagphegelbgcaaW.PrintLast.i64_w, Go.Proofs.YtbagphegelbgcaaW.PrintLast.i32_w]
    rfl
  refine seq_take (v := _) (a' := ?_) rfl rfl (by rfl) (fun w' hw' => load_run rfl (p := .pointer (some ⟨g2, 0, none⟩)) rfl (ld_m (hw'.heap (w := w6.drew) (Q6.at 1 rfl)) HN.out)) ?_ ?_
  rotate_left
  · simp only [Act.put, List.setIfInBounds_toArray, List.set_cons_zero, List.set_cons_succ, Go.Proofs.YtbagphegelbgcaaW.PrintLast.i64_w, Go.Proofs.YtbagphegelbgcaaW.PrintLast.i32_w]
    rfl
  refine seq_run ?_
  refine do_call rfl rfl (by rfl) rfl Try.func21 (by kernel_rfl) rfl #[.agg (Mc K S nm (.slice A5 n5 c5)).toArray] (by simp only [List.map_toArray, List.map_cons, List.map_nil]; rfl) ?_
  with_reducible refine (as_calls K S nm A5 n5 c5 (bytesOf gb) _ _ rfl HN.out (Kd.C_drew HR6.out)).mono ?_
  rintro e w7 ⟨rfl, hC7⟩
  refine ⟨_, ?_, rfl, ?_, fun _ => hC7, ?_⟩
  rotate_left
  · simp only [Act.put, List.setIfInBounds_toArray, List.set_cons_zero, List.set_cons_succ, Go.Proofs.YtbagphegelbgcaaW.PrintLast.i64_w, Go.Proofs.YtbagphegelbgcaaW.PrintLast.i32_w]
    rfl
  refine seq_take (v := _) (a' := ?_) rfl rfl (by rfl) (fun w' hw' => (bin_run .neq 25 (.tmp 36) (.tmp 37) 25 rfl (p := .agg (Mc K S nm (.string (strOfNums (bytesOf gb)))).toArray) (q := .agg (Mc K S nm (.string gb)).toArray) rfl rfl (run_eqGuard_agg _ .neq _ _ _ _ _ hgdM) (HNE.out _))) ?_ ?_
  rotate_left
  · simp only [Act.put, List.setIfInBounds_toArray, List.set_cons_zero, List.set_cons_succ, Go.Proofs.YtbagphegelbgcaaW.PrintLast.i64_w, Go.Proofs.YtbagphegelbgcaaW.PrintLast.i32_w]
    rfl
  refine seq_take (v := ?_) (a' := ?_) rfl rfl (by rfl) (fun w' hw' => ?_) ?_ ?_
  rotate_left 2
  · go_simp
    with_reducible rfl
  · simp only [Act.put, List.setIfInBounds_toArray, List.set_cons_zero, List.set_cons_succ, Go.Proofs.YtbagphegelbgcaaW.PrintLast.i64_w, Go.Proofs.YtbagphegelbgcaaW.PrintLast.i32_w]
    rfl
  refine seq_take (v := ?_) (a' := ?_) rfl rfl (by rfl) (fun w' hw' => ?_) ?_ ?_
  rotate_left 2
  · go_simp
    with_reducible rfl
  · simp only [Act.put, List.setIfInBounds_toArray, List.set_cons_zero, List.set_cons_succ, Go.Proofs.YtbagphegelbgcaaW.PrintLast.i64_w, Go.Proofs.YtbagphegelbgcaaW.PrintLast.i32_w]
    rfl
  refine seq_take (v := ?_) (a' := ?_) rfl rfl (by rfl) (fun w' hw' => ?_) ?_ ?_
  rotate_left 2
  · go_simp
    with_reducible rfl
  · simp only [Act.put, List.setIfInBounds_toArray, List.set_cons_zero, List.set_cons_succ, Go.Proofs.YtbagphegelbgcaaW.PrintLast.i64_w, Go.Proofs.YtbagphegelbgcaaW.PrintLast.i32_w]
    rfl
  refine seq_take (v := ?_) (a' := ?_) rfl rfl (by rfl) (fun w' hw' => ?_) ?_ ?_
  rotate_left 2
  · go_simp
    with_reducible rfl
  · simp only [Act.put, List.setIfInBounds_toArray, List.set_cons_zero, List.set_cons_succ, Go.Proofs.YtbagphegelbgcaaW.PrintLast.i64_w, Go.Proofs.YtbagphegelbgcaaW.PrintLast.i32_w]
    rfl
  refine seq_take (v := ?_) (a' := ?_) rfl rfl (by rfl) (fun w' hw' => ?_) ?_ ?_
  rotate_left 2
  · go_simp
    with_reducible rfl
  · simp only [Act.put, List.setIfInBounds_toArray, List.set_cons_zero, List.set_cons_succ, Go.Proofs.YtbagphegelbgcaaW.PrintLast.i64_w, Go.Proofs.YtbagphegelbgcaaW.PrintLast.i32_w]
    rfl
  refine seq_take (v := ?_) (a' := ?_) rfl rfl (by rfl) (fun w' hw' => ?_) ?_ ?_
  rotate_left 2
  · go_simp
    with_reducible rfl
  · simp only [Act.put, List.setIfInBounds_toArray, List.set_cons_zero, List.set_cons_succ, Go.Proofs.YtbagphegelbgcaaW.PrintLast.i64_w, Go.Proofs.YtbagphegelbgcaaW.PrintLast.i32_w]
    rfl
  refine seq_end ?_
  have HB7 := Aside0.mk (Q6.drew.call hC7).below
  have HO7 := Aside0.mk ((HO6.out.below (Below.drew (Below.refl _ _))).below hC7)
  clear Q0 Q1 Q2 Q3 Q4 Q5 Q6 HR6 HR3 HO4 HO5 HO6 hC7
  obtain ⟨d0, d1⟩ := around_range at_ (ys.length : Int) (by omega)
  generalize hkk : around at_ (ys.length : Int) = kk at *
  have HWB : Aside0 (Bytes (wbody K S nm (bytesOf gb))) := ⟨wbody_bytes (by omega) (by omega) hbn (bytesOf_bytes gb)⟩
  have hx := (show Bytes ys by rw [HY.out]; exact cput_bytes HWB.out).at_ kk
  obtain ⟨hcell, hfz⟩ := OwB.cell HO7.out kk d0 d1
  have HME : Aside0 (∀ W, (binOp .eql 25 (.agg (Mc 0 0 Z32 (.string (strOfNums []))).toArray) (.agg (Mc 0 0 Z32 (.string ⟨#[]⟩)).toArray)).run Try.prog W = .ok (.bool true) W) := ⟨fun W => by rw [m_eql Z32_len Z32_len, show strOfNums [] = ⟨#[]⟩ from rfl, mSame_id]⟩
  by_cases hy : by_ = 0
  · subst hy
    obtain ⟨t0, t1, t2⟩ := turn_ne (rd ys kk) 1 hx.1 hx.2 (by omega) (by omega) (by omega)
    have HTR : Aside0 (WR (ys.set kk.toNat (Go.bits .xor .u8 (rd ys kk) 1)) = (0, 0, Z32, [], 7)) := ⟨by
      have e := ctake_turned HWB.out kk.toNat (c := Go.bits .xor .u8 (rd ys kk) 1) (by rw [← HY.out]; omega) ⟨t0, t1⟩ (by rw [← HY.out, Int.toNat_of_nonneg d0]; exact t2)
      rw [← HY.out] at e
      exact WR_err e (by decide)⟩
    have HOS := Aside0.mk (OwB.store HO7.out kk (Go.bits .xor .u8 (rd ys kk) 1))
    have HBS : Aside0 (Bytes (ys.set kk.toNat (Go.bits .xor .u8 (rd ys kk) 1))) := ⟨Bytes.set (by rw [HY.out]; exact cput_bytes HWB.out) _ t0 t1⟩
    have HBW : Aside0 (Below w.heap.size w (w7.setCell ⟨yg, kk.toNat, none⟩ (.int .u8 (Go.bits .xor .u8 (rd ys kk) 1)))) := ⟨Below.setCell HB7.out (p := ⟨yg, kk.toNat, none⟩) HG1.out _⟩
    have hti : (kk.toNat : Int) = kk := Int.toNat_of_nonneg d0
    generalize hxv : Go.bits .xor .u8 (rd ys kk) 1 = xv at *
    clear HO7 hx t2
    go_wp2_with (first
      | (go_at_call 10; refine (around_calls at_ (ys.length : Int) _ ha0 ha1 (by omega) (by omega)).mono ?_; rw [hkk]; rintro e u1 ⟨rfl, rfl⟩)
      | (go_at_call 23; refine (wread_calls (some ⟨yg, 0, none⟩) ys.length c4 (ys.set kk.toNat xv) _ (OwB.parts HOS.out).2 (OwB.parts HOS.out).1 HBS.out (by omega)).mono ?_; rintro e x1 ⟨k5, s5, nm5, ys5, er5, A6, n6, c6, hn6, rfl, hR6, hE6, hB6⟩; have hE7 := hE6.out; rw [HTR.out] at hE7; simp only [Prod.mk.injEq] at hE7; obtain ⟨h61, h62, h63, h64, h65⟩ := hE7; subst k5; subst s5; subst nm5; subst ys5; subst er5; have E1 := Aside0.mk (below_tr HBW.out hB6 HBW.out.size); clear hE6 hB6)
      | ((with_reducible refine at_al 36 ?_); refine new_w rfl rfl rfl rfl (.tmp 63) rfl (of_decide_eq_true rfl) rfl Z32_len rfl ?_; rintro x2 gx NX; have E2 := Aside0.mk (below_tr E1.out NX.below E1.out.size); have HR7 := Aside0.mk (Kd.C_below hR6.out NX.below); have HX2 := Aside0.mk NX.at_; clear NX)
      | ((with_reducible refine at_ldg (w := x2) 36 (.tmp 13) ?_); have hq := HX2.out; refine val_arm (by rfl) (load_run rfl rfl (ld_w hq Z32_len)) ?_; clear hq; simp only [Act.put, List.setIfInBounds_toArray, List.set_cons_zero, List.set_cons_succ])
      | (go_at_call 21; refine (as_calls 0 0 Z32 A6 n6 c6 [] _ x2 rfl Z32_len HR7.out).mono ?_; rintro e x3 ⟨rfl, hC3⟩; have E3 := Aside0.mk (below_tr E2.out hC3 E2.out.size))
      | ((with_reducible refine at_bdg 25 ?_); refine val_arm (by rfl) (build_run 25 _ rfl built_mz) ?_)
      | ((with_reducible refine at_bing .eql 25 ?_); refine val_arm (v := (.bool true)) (by rfl) (bin_run .eql 25 (.tmp 69) (.tmp 70) 25 rfl (p := (.agg (Mc 0 0 Z32 (.string (strOfNums []))).toArray)) (q := (.agg (Mc 0 0 Z32 (.string ⟨#[]⟩)).toArray)) rfl rfl (run_eqGuard_agg _ .eql _ _ _ _ _ hgdM) (HME.out _)) ?_)
      | (go_at_call 17; refine (lives_calls x3).mono ?_; rintro e u9 ⟨rfl, hC9⟩))
    go_ret
    exact ⟨rfl, below_tr E3.out hC9 E3.out.size⟩
  · have hy2 : (by_ == 0) = false := by simpa using hy
    obtain ⟨t0, t1, t2⟩ := turn_ne (rd ys kk) by_ hx.1 hx.2 (by omega) (by omega) (by omega)
    have HTR : Aside0 (WR (ys.set kk.toNat (Go.bits .xor .u8 (rd ys kk) by_)) = (0, 0, Z32, [], 7)) := ⟨by
      have e := ctake_turned HWB.out kk.toNat (c := Go.bits .xor .u8 (rd ys kk) by_) (by rw [← HY.out]; omega) ⟨t0, t1⟩ (by rw [← HY.out, Int.toNat_of_nonneg d0]; exact t2)
      rw [← HY.out] at e
      exact WR_err e (by decide)⟩
    have HOS := Aside0.mk (OwB.store HO7.out kk (Go.bits .xor .u8 (rd ys kk) by_))
    have HBS : Aside0 (Bytes (ys.set kk.toNat (Go.bits .xor .u8 (rd ys kk) by_))) := ⟨Bytes.set (by rw [HY.out]; exact cput_bytes HWB.out) _ t0 t1⟩
    have HBW : Aside0 (Below w.heap.size w (w7.setCell ⟨yg, kk.toNat, none⟩ (.int .u8 (Go.bits .xor .u8 (rd ys kk) by_)))) := ⟨Below.setCell HB7.out (p := ⟨yg, kk.toNat, none⟩) HG1.out _⟩
    have hti : (kk.toNat : Int) = kk := Int.toNat_of_nonneg d0
    generalize hxv : Go.bits .xor .u8 (rd ys kk) by_ = xv at *
    clear HO7 hx t2
    go_wp2_with (first
      | (go_at_call 10; refine (around_calls at_ (ys.length : Int) _ ha0 ha1 (by omega) (by omega)).mono ?_; rw [hkk]; rintro e u1 ⟨rfl, rfl⟩)
      | (go_at_call 23; refine (wread_calls (some ⟨yg, 0, none⟩) ys.length c4 (ys.set kk.toNat xv) _ (OwB.parts HOS.out).2 (OwB.parts HOS.out).1 HBS.out (by omega)).mono ?_; rintro e x1 ⟨k5, s5, nm5, ys5, er5, A6, n6, c6, hn6, rfl, hR6, hE6, hB6⟩; have hE7 := hE6.out; rw [HTR.out] at hE7; simp only [Prod.mk.injEq] at hE7; obtain ⟨h61, h62, h63, h64, h65⟩ := hE7; subst k5; subst s5; subst nm5; subst ys5; subst er5; have E1 := Aside0.mk (below_tr HBW.out hB6 HBW.out.size); clear hE6 hB6)
      | ((with_reducible refine at_al 36 ?_); refine new_w rfl rfl rfl rfl (.tmp 63) rfl (of_decide_eq_true rfl) rfl Z32_len rfl ?_; rintro x2 gx NX; have E2 := Aside0.mk (below_tr E1.out NX.below E1.out.size); have HR7 := Aside0.mk (Kd.C_below hR6.out NX.below); have HX2 := Aside0.mk NX.at_; clear NX)
      | ((with_reducible refine at_ldg (w := x2) 36 (.tmp 13) ?_); have hq := HX2.out; refine val_arm (by rfl) (load_run rfl rfl (ld_w hq Z32_len)) ?_; clear hq; simp only [Act.put, List.setIfInBounds_toArray, List.set_cons_zero, List.set_cons_succ])
      | (go_at_call 21; refine (as_calls 0 0 Z32 A6 n6 c6 [] _ x2 rfl Z32_len HR7.out).mono ?_; rintro e x3 ⟨rfl, hC3⟩; have E3 := Aside0.mk (below_tr E2.out hC3 E2.out.size))
      | ((with_reducible refine at_bdg 25 ?_); refine val_arm (by rfl) (build_run 25 _ rfl built_mz) ?_)
      | ((with_reducible refine at_bing .eql 25 ?_); refine val_arm (v := (.bool true)) (by rfl) (bin_run .eql 25 (.tmp 69) (.tmp 70) 25 rfl (p := (.agg (Mc 0 0 Z32 (.string (strOfNums []))).toArray)) (q := (.agg (Mc 0 0 Z32 (.string ⟨#[]⟩)).toArray)) rfl rfl (run_eqGuard_agg _ .eql _ _ _ _ _ hgdM) (HME.out _)) ?_)
      | (go_at_call 17; refine (lives_calls x3).mono ?_; rintro e u9 ⟨rfl, hC9⟩))
    go_ret
    exact ⟨rfl, below_tr E3.out hC9 E3.out.size⟩
end Go.Proofs.Ytbagphegelbgcaa
