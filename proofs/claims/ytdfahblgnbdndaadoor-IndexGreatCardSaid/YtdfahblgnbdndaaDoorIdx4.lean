/- index.Of. Conditions: its own, and what sha's table of roots holds. -/
import Derived.Test.YtdfahblgnbdndaaDoorIdx3
namespace Go.Proofs.YtdfahblgnbdndaaDoor
open Go.RowKit Go.Shelf Go.Proofs.YtdfahblgnbdndaaDoorW.PrintWords Go.Proofs.YtdfahblgnbdndaaDoorW.PrintMore
set_option linter.unusedVariables false
set_option linter.unusedSimpArgs false
theorem at_w1 {P : Program} {s : Code} {Q : Exit → Act → World → Prop} {a : Act} {w W : World} (hw : w = W) (h : s.wp P Q a w) : s.wp P Q a W := hw ▸ h
def X0 : Value := .agg (Xc 0 0 0 Z32 (.slice none 0 0)).toArray
set_option maxRecDepth 20000 in
set_option maxHeartbeats 3200000 in
theorem iof_ok (a b c : Nat) (A : Option Addr) (n cp : Nat) (xs : List Int) (w : World) (hm : mayB a b c = true) (h : RdB w A n xs) (hb : Bytes xs) (hK : Roots w) (hn : n ≤ 65536) (hcn : (al a c (pw b) [] xs).length ≤ 4096) :
    Calls Tryd.prog 11 #[.slice A n cp, .agg #[.int .i64 a, .int .i64 b, .int .i64 c]] w fun e w' => ∃ v, e = .returned (.tuple #[.agg (Xc a b c (shaL xs) v).toArray, .int .i64 0]) ∧ OwI w' w.heap.size v (itsOf (al a c (pw b) [] xs)) ∧ Below w.heap.size w w' := by
  obtain rfl : xs.length = n := h.1
  have HX := Aside0.mk h
  have HBY := Aside0.mk hb
  have HK := Aside0.mk hK
  have HM := Aside0.mk hm
  obtain ⟨_, _, _, ea, eb, ec, m1, m2, m3, m4⟩ := mayB_nat hm
  obtain rfl := Int.ofNat.inj ea
  obtain rfl := Int.ofNat.inj eb
  obtain rfl := Int.ofNat.inj ec
  have HSZ := Aside0.mk (al_mem_le (p := pw b) (xs := xs) m1 (by omega : a ≤ c))
  have HTL := Aside0.mk (tells_ok a b c A xs.length cp xs hb hm (by omega))
  obtain ⟨CH, hCH⟩ : ∃ CH, (al a c (pw b) [] xs) = CH := ⟨_, rfl⟩
  have HCE := Aside0.mk hCH
  rw [hCH] at HSZ HTL hcn
  have hnI : ¬ (65536 : Int) < (xs.length : Int) := by omega
  have hcI : ¬ (4096 : Int) < (CH.length : Int) := by omega
  clear h hb hK hm ea eb ec hCH
  obtain ⟨w1, hw1⟩ : ∃ w1, w1 = (w.alloc (.cells #[.int .i64 (a : Int), .int .i64 (b : Int), .int .i64 (c : Int)] 24)).alloc (.cells (Xc 0 0 0 Z32 (.slice none 0 0)).toArray 29) := ⟨_, rfl⟩
  have F1 : Aside0 (w1.heap[w.heap.size]? = some (.cells #[.int .i64 (a : Int), .int .i64 (b : Int), .int .i64 (c : Int)] 24 (0, 0))) := ⟨by rw [hw1]; exact heap_alloc2_old w _ _⟩
  have F2 : Aside0 (w1.heap[w.heap.size + 1]? = some (.cells (Xc 0 0 0 Z32 (.slice none 0 0)).toArray 29 (0, 0))) := ⟨by rw [hw1]; exact heap_alloc2_new w _ _⟩
  have L1 : Aside0 (Below w.heap.size w w1) := ⟨by rw [hw1]; exact ((Below.refl _ _).alloc (Nat.le_refl _) _).alloc (by simp) _⟩
  obtain ⟨q0, q1, q2⟩ := pm_cells F1.out
  go_enter Tryd.func11, Tryd.ntmps11
  go_upto_region 1 with fail
  refine at_w1 (w := w1) hw1 ?_
  clear hw1
  go_wp2_with (first
    | (go_at_call 36; (with_reducible refine at_cw w1 ?_); refine (items_calls a b c A xs.length cp xs CH w1 HM.out (HK.out.below L1.out) HTL.out (Kd.C_below HX.out L1.out) (by omega) (fun x hx => by have := (HSZ.out x hx).2; omega)).mono ?_; rintro e w2 ⟨v, rfl, hO, hB⟩; obtain ⟨vA, vc, rfl, -, -⟩ := Kd.R_reads hO; rw [itsOf_len] at hO ⊢; have HO := Aside0.mk hO; have HB2 := Aside0.mk hB; clear hO hB q0 q1 q2)
    | fail)
  have G2 := Aside0.mk (Later.heap HB2.out F1.out)
  have GR := Aside0.mk (Later.heap HB2.out F2.out)
  have L2 : Aside0 (Below w.heap.size w w2) := ⟨below_tr L1.out HB2.out L1.out.size⟩
  have hl32 := shaL_len xs
  refine seq_startN [5] (.take 0 (.take 1 (.take 3 (.run 2 (.take 4 (.run 5 (.take 6 .done))))))) (by kernel_rfl) (by kernel_rfl) ?_
  refine seq_take (v := ?_) (a' := ?_) rfl rfl (by rfl) (fun w' hw' => ?_) ?_ ?_
  rotate_left 2
  · obtain ⟨q0, q1, q2⟩ := pm_cells (Later.heap hw' (show w2.drew.heap[w.heap.size]? = _ from G2.out)); go_simp
    with_reducible rfl
  · simp only [Act.put, List.setIfInBounds_toArray, List.set_cons_zero, List.set_cons_succ, Go.Proofs.YtdfahblgnbdndaaDoorW.PrintLast.i64_w, Go.Proofs.YtdfahblgnbdndaaDoorW.PrintLast.i32_w]
    rfl
  refine seq_take (v := ?_) (a' := ?_) rfl rfl (by rfl) (fun w' hw' => ?_) ?_ ?_
  rotate_left 2
  · go_simp
    with_reducible rfl
  · simp only [Act.put, List.setIfInBounds_toArray, List.set_cons_zero, List.set_cons_succ, Go.Proofs.YtdfahblgnbdndaaDoorW.PrintLast.i64_w, Go.Proofs.YtdfahblgnbdndaaDoorW.PrintLast.i32_w]
    rfl
  refine seq_take (v := ?_) (a' := ?_) rfl rfl (by rfl) (fun w' hw' => ?_) ?_ ?_
  rotate_left 2
  · go_simp
    with_reducible rfl
  · simp only [Act.put, List.setIfInBounds_toArray, List.set_cons_zero, List.set_cons_succ, Go.Proofs.YtdfahblgnbdndaaDoorW.PrintLast.i64_w, Go.Proofs.YtdfahblgnbdndaaDoorW.PrintLast.i32_w]
    rfl
  refine seq_run ?_
  refine do_call rfl rfl (by rfl) rfl Tryd.func37 (by kernel_rfl) rfl #[.slice A xs.length cp] (by simp only [List.map_toArray, List.map_cons, List.map_nil]; rfl) ?_
  with_reducible refine (psum_calls A xs.length cp xs w2.drew (Kd.C_drew (Kd.C_below HX.out L2.out)) HBY.out ((HK.out.below L2.out).below (Below.drew (Below.refl _ _))) (by omega)).mono ?_
  rintro e w3 ⟨rfl, hB3⟩
  refine ⟨_, ?_, rfl, ?_, fun _ => hB3, ?_⟩
  rotate_left
  · simp only [Act.put, List.setIfInBounds_toArray, List.set_cons_zero, List.set_cons_succ, Go.Proofs.YtdfahblgnbdndaaDoorW.PrintLast.i64_w, Go.Proofs.YtdfahblgnbdndaaDoorW.PrintLast.i32_w]
    rfl
  have HB3 : Aside0 (Below w2.heap.size w2 w3) := ⟨(Below.drew (Below.refl w2.heap.size w2)).trans hB3⟩
  clear hB3
  refine seq_take (v := _) (a' := ?_) rfl rfl (by rfl) (fun w' hw' => build_run 29 #[(0, .tmp 29), (1, .tmp 31), (2, .tmp 32)] rfl (built_x3 a b c (shaL xs) vA CH.length vc hl32)) ?_ ?_
  rotate_left
  · simp only [Act.put, List.setIfInBounds_toArray, List.set_cons_zero, List.set_cons_succ, Go.Proofs.YtdfahblgnbdndaaDoorW.PrintLast.i64_w, Go.Proofs.YtdfahblgnbdndaaDoorW.PrintLast.i32_w]
    rfl
  refine seq_run ?_
  refine do_blk rfl rfl (by rfl) 29 (.tmp 4) (.tmp 33) rfl rfl rfl (Later.heap HB3.out GR.out) (by rw [Xc_len hl32]; exact Xc_len Z32_len) (size_X hl32) (Xc_one rfl) ?_
  rintro w4 HS4
  refine ⟨fun h => absurd (by simp) h, ?_⟩
  refine seq_take (v := ?_) (a' := ?_) rfl rfl (by rfl) (fun w' hw' => ?_) ?_ ?_
  rotate_left 2
  · go_simp
    with_reducible rfl
  · simp only [Act.put, List.setIfInBounds_toArray, List.set_cons_zero, List.set_cons_succ, Go.Proofs.YtdfahblgnbdndaaDoorW.PrintLast.i64_w, Go.Proofs.YtdfahblgnbdndaaDoorW.PrintLast.i32_w]
    rfl
  refine seq_endN ?_
  have L3 : Aside0 (Below w.heap.size w w3) := ⟨below_tr L2.out HB3.out L2.out.size⟩
  go_wp2
  (try simp only [Exit.inBlock, Exit.then])
  refine bodyPost_ret (v := .tuple #[.agg _, _]) (results_cell_tmp rfl _ _ (w.heap.size + 1) _ _ _ _ rfl HS4.at_ Tryd.underlying29 rfl (by rw [List.size_toArray]; exact size_X hl32)) rfl ⟨.slice vA CH.length vc, rfl, ?_, L3.out.trans (HS4.below (by omega))⟩
  rw [HCE.out]
  have hs1 := L1.out.size
  refine Kd.R_lower (kf_move (Kd.R_below HO.out HB3.out) fun k cells hk hc => HS4.else_ k (fun e => ?_)) hs1
  subst e
  rw [Later.heap HB3.out GR.out] at hc
  injection hc with hc
  injection hc with _ hc
  exact absurd hc (by decide)
set_option maxRecDepth 20000 in
set_option maxHeartbeats 3200000 in
theorem iof_big (a b c : Nat) (A : Option Addr) (n cp : Nat) (xs : List Int) (w : World) (hm : mayB a b c = true) (h : RdB w A n xs) (hb : Bytes xs) (hK : Roots w) (hn : n ≤ 1048576) (hbig : ¬ (n ≤ 65536 ∧ (al a c (pw b) [] xs).length ≤ 4096)) :
    Calls Tryd.prog 11 #[.slice A n cp, .agg #[.int .i64 a, .int .i64 b, .int .i64 c]] w fun e w' => e = .returned (.tuple #[X0, .int .i64 3]) ∧ Below w.heap.size w w' := by
  obtain rfl : xs.length = n := h.1
  have HX := Aside0.mk h
  have HBY := Aside0.mk hb
  have HK := Aside0.mk hK
  have HM := Aside0.mk hm
  obtain ⟨_, _, _, ea, eb, ec, m1, m2, m3, m4⟩ := mayB_nat hm
  obtain rfl := Int.ofNat.inj ea
  obtain rfl := Int.ofNat.inj eb
  obtain rfl := Int.ofNat.inj ec
  have HSZ := Aside0.mk (al_mem_le (p := pw b) (xs := xs) m1 (by omega : a ≤ c))
  have hcnt := al_count (a := a) (c := c) (p := pw b) (xs := xs)
  have HTL := Aside0.mk (tells_ok a b c A xs.length cp xs hb hm (by omega))
  obtain ⟨CH, hCH⟩ : ∃ CH, (al a c (pw b) [] xs) = CH := ⟨_, rfl⟩
  rw [hCH] at HSZ HTL hbig hcnt
  clear h hb hK hm ea eb ec hCH
  obtain ⟨w1, hw1⟩ : ∃ w1, w1 = (w.alloc (.cells #[.int .i64 (a : Int), .int .i64 (b : Int), .int .i64 (c : Int)] 24)).alloc (.cells (Xc 0 0 0 Z32 (.slice none 0 0)).toArray 29) := ⟨_, rfl⟩
  have F1 : Aside0 (w1.heap[w.heap.size]? = some (.cells #[.int .i64 (a : Int), .int .i64 (b : Int), .int .i64 (c : Int)] 24 (0, 0))) := ⟨by rw [hw1]; exact heap_alloc2_old w _ _⟩
  have F2 : Aside0 (w1.heap[w.heap.size + 1]? = some (.cells (Xc 0 0 0 Z32 (.slice none 0 0)).toArray 29 (0, 0))) := ⟨by rw [hw1]; exact heap_alloc2_new w _ _⟩
  have L1 : Aside0 (Below w.heap.size w w1) := ⟨by rw [hw1]; exact ((Below.refl _ _).alloc (Nat.le_refl _) _).alloc (by simp) _⟩
  obtain ⟨q0, q1, q2⟩ := pm_cells F1.out
  go_enter Tryd.func11, Tryd.ntmps11
  go_upto_region 1 with fail
  refine at_w1 (w := w1) hw1 ?_
  clear hw1
  go_upto_region 4 with (first
    | (go_at_call 36; (with_reducible refine at_cw w1 ?_); refine (items_calls a b c A xs.length cp xs CH w1 HM.out (HK.out.below L1.out) HTL.out (Kd.C_below HX.out L1.out) (by omega) (fun x hx => by have := (HSZ.out x hx).2; omega)).mono ?_; rintro e w2 ⟨v, rfl, hO, hB⟩; obtain ⟨vA, vc, rfl, -, -⟩ := Kd.R_reads hO; rw [itsOf_len] at hO ⊢; have HB2 := Aside0.mk hB; clear hO hB q0 q1 q2)
    | fail)
  have GR := Aside0.mk (Later.heap HB2.out F2.out)
  have L2 : Aside0 (Below w.heap.size w w2) := ⟨below_tr L1.out HB2.out L1.out.size⟩
  by_cases hnb : xs.length ≤ 65536
  · have hnI : ¬ (65536 : Int) < (xs.length : Int) := by omega
    have hcI : (4096 : Int) < (CH.length : Int) := by omega
    clear hbig
    go_wp2_with (first
      | ((with_reducible refine at_bd 29 ?_); refine build_arm rfl 29 _ rfl built_x0 ?_; simp only [Act.put, List.setIfInBounds_toArray, List.set_cons_zero, List.set_cons_succ])
      | ((with_reducible refine at_st 29 (.tmp 4) (.tmp 28) ?_); refine store_blk rfl 29 (.tmp 4) (.tmp 28) rfl rfl rfl GR.out (by rw [Xc_len Z32_len]; exact Xc_len Z32_len) (size_X Z32_len) (Xc_one rfl) ?_; rintro w4 HS4))
    (try simp only [Exit.inBlock, Exit.then])
    exact bodyPost_ret (v := .tuple #[.agg _, _]) (results_cell_tmp rfl _ _ (w.heap.size + 1) _ _ _ _ rfl HS4.at_ Tryd.underlying29 rfl (by rw [List.size_toArray]; exact size_X Z32_len)) rfl ⟨rfl, L2.out.trans (HS4.below (by omega))⟩
  · have hnI : (65536 : Int) < (xs.length : Int) := by omega
    clear hbig
    go_wp2_with (first
      | ((with_reducible refine at_bd 29 ?_); refine build_arm rfl 29 _ rfl built_x0 ?_; simp only [Act.put, List.setIfInBounds_toArray, List.set_cons_zero, List.set_cons_succ])
      | ((with_reducible refine at_st 29 (.tmp 4) (.tmp 28) ?_); refine store_blk rfl 29 (.tmp 4) (.tmp 28) rfl rfl rfl GR.out (by rw [Xc_len Z32_len]; exact Xc_len Z32_len) (size_X Z32_len) (Xc_one rfl) ?_; rintro w4 HS4))
    (try simp only [Exit.inBlock, Exit.then])
    exact bodyPost_ret (v := .tuple #[.agg _, _]) (results_cell_tmp rfl _ _ (w.heap.size + 1) _ _ _ _ rfl HS4.at_ Tryd.underlying29 rfl (by rw [List.size_toArray]; exact size_X Z32_len)) rfl ⟨rfl, L2.out.trans (HS4.below (by omega))⟩
end Go.Proofs.YtdfahblgnbdndaaDoor
