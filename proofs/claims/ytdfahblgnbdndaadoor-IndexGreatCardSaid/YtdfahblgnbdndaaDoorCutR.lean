/- lighterageref10.Items, SameItems. Conditions: their own. -/
import Derived.Test.YtdfahblgnbdndaaDoorCutI
import Derived.Test.YtdfahblgnbdndaaDoorCutQ
namespace Go.Proofs.YtdfahblgnbdndaaDoor
open Go.RowKit Go.Shelf Go.Proofs.YtdfahblgnbdndaaDoorW.PrintWords Go.Proofs.YtdfahblgnbdndaaDoorW.PrintMore
set_option linter.unusedVariables false
set_option linter.unusedSimpArgs false
theorem chR_by {w : World} {L : List (S3 × List Int)} (h : ChR w L) (k : Nat) (hk : k < L.length) : Bytes ((L.map (·.2)).getD k []) := by
  have e2 : (L.map (·.2)).getD k [] = L[k].2 := by simp [List.getD_eq_getElem?_getD, hk]
  rw [e2]
  exact (h _ (List.getElem_mem hk)).2.2.2
theorem itsOf_snoc {CH : List (List Int)} {k : Nat} (h : k < CH.length) : itsOf (CH.take (k + 1)) = itsOf (CH.take k) ++ [(shaL (CH.getD k []), ((CH.getD k []).length : Int))] := by
  have h1 : CH.take (k + 1) = CH.take k ++ [CH.getD k []] := by
    rw [List.take_add_one, List.getD_eq_getElem?_getD, List.getElem?_eq_getElem h]; rfl
  rw [h1]
  simp only [itsOf, List.map_append]
  rfl
theorem itsOf_all (CH : List (List Int)) : ∀ x ∈ itsOf CH, x.1.length = 32 := by
  intro x hx
  obtain ⟨c, _, rfl⟩ := List.mem_map.1 hx
  exact shaL_len c
set_option maxRecDepth 20000 in
set_option maxHeartbeats 3200000 in
theorem ritems_calls (B : Option Addr) (n c a0 b0 c0 : Nat) (xs : List Int) (w : World) (h : RdB w B n xs) (hc : n ≤ c) (hb : Bytes xs) (hn : n ≤ 1073741824) (hm : mayB a0 b0 c0 = true) :
    Calls Tryd.prog 45 #[.slice B n c, .agg #[.int .i64 a0, .int .i64 b0, .int .i64 c0]] w fun e w' => ∃ v, e = .returned v ∧ OwI w' w.heap.size v (itsOf (al a0 c0 (pw b0) [] xs)) ∧ Below w.heap.size w w' := by
  obtain rfl : xs.length = n := h.1
  have HX := Aside0.mk h
  have HM := Aside0.mk hm
  have HBY := Aside0.mk hb
  have hab : 1 ≤ a0 ∧ a0 ≤ c0 ∧ c0 ≤ 4096 := by unfold mayB at hm; simp at hm; omega
  obtain ⟨m1, m2, m3⟩ := hab
  clear h hm hb
  go_enter Tryd.func45, Tryd.ntmps45
  go_wp2_with (first
    | (go_at_call 67; refine (pchunks_calls B xs.length c a0 b0 c0 xs _ (Kd.C_alloc HX.out _) hc HBY.out hn HM.out).mono ?_; rintro e w1 ⟨vo, L, rfl, hO, hC, hE, hB⟩; obtain ⟨vA, vc, rfl, hvc, hvr⟩ := Kd.R_reads hO; have HC := Aside0.mk hC; have HE := Aside0.mk hE; have HVR := Aside0.mk hvr; have HB1 : Aside0 (Below w.heap.size w w1) := ⟨Below.trans (below_alloc (Below.refl _ w) _) (hB.mono (by simp))⟩; clear hO hC hE hB hvr)
    | fail)
  have HSZ := Aside0.mk (al_sizes (p := pw b0) (xs := xs) m1 m2)
  have hcnt := al_count (a := a0) (c := c0) (p := pw b0) (xs := xs)
  obtain ⟨CH, hCH⟩ : ∃ CH, al a0 c0 (pw b0) [] xs = CH := ⟨_, rfl⟩
  rw [hCH] at HE HSZ hcnt
  have HCE := Aside0.mk hCH
  have hl : L.length = CH.length := by rw [← HE.out, List.length_map]
  rw [List.length_map, hl] at HVR hvc
  rw [hl]
  have HL := Aside0.mk hl
  clear hCH hl
  go_loopw [6, 7] (fun vo i wr => ∃ k : Nat, k ≤ CH.length ∧ i = .int .i64 k ∧ OwI wr w1.heap.size vo (itsOf (CH.take k)) ∧ Below w1.heap.size w1 wr) (fun _ i _ => CH.length - (intOf i).toNat)
  case atStart => exact ⟨0, Nat.zero_le _, rfl, Kd.R_nil _ _ _ _ _, Below.refl _ _⟩
  case round =>
    obtain ⟨k, hk, rfl, hO, hB⟩ := hrel
    have HO := Aside0.mk hO
    have HB := Aside0.mk hB
    clear hO hB
    by_cases hlt : k < CH.length
    · obtain ⟨ad, rfl⟩ := rdS_some HVR.out (by omega)
      obtain ⟨Y, hY⟩ : ∃ Y, CH.getD k [] = Y := ⟨_, rfl⟩
      obtain ⟨ay, cy, hc1, hr1, -⟩ := chR_at HC.out HVR.out k hlt
      have hby := chR_by HC.out k (by rw [HL.out]; exact hlt)
      rw [HE.out, hY] at hc1 hr1 hby
      have HTK : Aside0 (itsOf (CH.take (k + 1)) = itsOf (CH.take k) ++ [(shaL Y, (Y.length : Int))]) := ⟨by rw [← hY]; exact itsOf_snoc hlt⟩
      have hyl := (HSZ.out k hlt).2.1
      rw [hY] at hyl
      have HC1 := Aside0.mk (pw_cell_below HB.out hc1)
      have HR1 := Aside0.mk (Kd.C_below hr1 HB.out)
      have HBY1 := Aside0.mk hby
      obtain ⟨R, hR⟩ : ∃ R, itsOf (CH.take k) = R := ⟨_, rfl⟩
      have hRl : R.length ≤ CH.length := by rw [← hR, itsOf_len, List.length_take]; omega
      have hO := HO.out
      rw [hR] at hO HTK
      obtain ⟨va, vcc, rfl, -, -⟩ := Kd.R_reads hO
      have HOR := Aside0.mk hO
      clear hr1 hY hc1 hby hR hO
      go_wp2_with fail
      refine seq_startN [13] (.take 0 (.take 1 (.take 2 (.take 3 (.take 4 (.take 6 (.take 7 (.take 8 (.take 9 (.take 10 (.run 5 (.take 11 (.run 12 (.run 13 (.take 14 .done))))))))))))))) (by kernel_rfl) (by kernel_rfl) ?_
      refine seq_take (v := ?_) (a' := ?_) rfl rfl (by rfl) (fun w' hw' => ?_) ?_ ?_
      rotate_left 2
      · go_simp
        with_reducible rfl
      · simp only [Act.put, List.setIfInBounds_toArray, List.set_cons_zero, List.set_cons_succ, Go.Proofs.YtdfahblgnbdndaaDoorW.PrintLast.i64_w, Go.Proofs.YtdfahblgnbdndaaDoorW.PrintLast.i32_w]
        rfl
      refine seq_take (v := ?_) (a' := ?_) rfl rfl (by rfl) (fun w' hw' => ?_) ?_ ?_
      rotate_left 2
      · go_simp
        with_reducible rfl
      · simp only [Act.put, List.setIfInBounds_toArray, List.set_cons_zero, List.set_cons_succ, Go.Proofs.YtdfahblgnbdndaaDoorW.PrintLast.i64_w, Go.Proofs.YtdfahblgnbdndaaDoorW.PrintLast.i32_w]
        rfl
      refine seq_take (v := ?_) (a' := ?_) rfl rfl (by rfl) (fun w' hw' => ?_) ?_ ?_
      rotate_left 2
      · go_simp
        with_reducible rfl
      · simp only [Act.put, List.setIfInBounds_toArray, List.set_cons_zero, List.set_cons_succ, Go.Proofs.YtdfahblgnbdndaaDoorW.PrintLast.i64_w, Go.Proofs.YtdfahblgnbdndaaDoorW.PrintLast.i32_w]
        rfl
      refine seq_take (v := ?_) (a' := ?_) rfl rfl (by rfl) (fun w' hw' => ?_) ?_ ?_
      rotate_left 2
      · go_simp
        with_reducible rfl
      · simp only [Act.put, List.setIfInBounds_toArray, List.set_cons_zero, List.set_cons_succ, Go.Proofs.YtdfahblgnbdndaaDoorW.PrintLast.i64_w, Go.Proofs.YtdfahblgnbdndaaDoorW.PrintLast.i32_w]
        rfl
      refine seq_take (v := ?_) (a' := ?_) rfl rfl (by rfl) (fun w' hw' => ?_) ?_ ?_
      rotate_left 2
      · have hq := pw_cell_below hw' (show wr.drew.cell? (ad.add k) = _ from HC1.out); go_simp
        with_reducible rfl
      · simp only [Act.put, List.setIfInBounds_toArray, List.set_cons_zero, List.set_cons_succ, Go.Proofs.YtdfahblgnbdndaaDoorW.PrintLast.i64_w, Go.Proofs.YtdfahblgnbdndaaDoorW.PrintLast.i32_w]
        rfl
      refine seq_take (v := ?_) (a' := ?_) rfl rfl (by rfl) (fun w' hw' => ?_) ?_ ?_
      rotate_left 2
      · go_simp
        with_reducible rfl
      · simp only [Act.put, List.setIfInBounds_toArray, List.set_cons_zero, List.set_cons_succ, Go.Proofs.YtdfahblgnbdndaaDoorW.PrintLast.i64_w, Go.Proofs.YtdfahblgnbdndaaDoorW.PrintLast.i32_w]
        rfl
      refine seq_take (v := ?_) (a' := ?_) rfl rfl (by rfl) (fun w' hw' => ?_) ?_ ?_
      rotate_left 2
      · go_simp
        with_reducible rfl
      · simp only [Act.put, List.setIfInBounds_toArray, List.set_cons_zero, List.set_cons_succ, Go.Proofs.YtdfahblgnbdndaaDoorW.PrintLast.i64_w, Go.Proofs.YtdfahblgnbdndaaDoorW.PrintLast.i32_w]
        rfl
      refine seq_take (v := ?_) (a' := ?_) rfl rfl (by rfl) (fun w' hw' => ?_) ?_ ?_
      rotate_left 2
      · go_simp
        with_reducible rfl
      · simp only [Act.put, List.setIfInBounds_toArray, List.set_cons_zero, List.set_cons_succ, Go.Proofs.YtdfahblgnbdndaaDoorW.PrintLast.i64_w, Go.Proofs.YtdfahblgnbdndaaDoorW.PrintLast.i32_w]
        rfl
      refine seq_take (v := ?_) (a' := ?_) rfl rfl (by rfl) (fun w' hw' => ?_) ?_ ?_
      rotate_left 2
      · have hq := pw_cell_below hw' (show wr.drew.cell? (ad.add k) = _ from HC1.out); go_simp
        with_reducible rfl
      · simp only [Act.put, List.setIfInBounds_toArray, List.set_cons_zero, List.set_cons_succ, Go.Proofs.YtdfahblgnbdndaaDoorW.PrintLast.i64_w, Go.Proofs.YtdfahblgnbdndaaDoorW.PrintLast.i32_w]
        rfl
      refine seq_take (v := ?_) (a' := ?_) rfl rfl (by rfl) (fun w' hw' => ?_) ?_ ?_
      rotate_left 2
      · go_simp
        with_reducible rfl
      · simp only [Act.put, List.setIfInBounds_toArray, List.set_cons_zero, List.set_cons_succ, Go.Proofs.YtdfahblgnbdndaaDoorW.PrintLast.i64_w, Go.Proofs.YtdfahblgnbdndaaDoorW.PrintLast.i32_w]
        rfl
      refine seq_run ?_
      refine do_call rfl rfl (by rfl) rfl Tryd.func44 (by kernel_rfl) rfl #[.slice ay Y.length cy] (by simp only [List.map_toArray, List.map_cons, List.map_nil]; rfl) ?_
      with_reducible refine (rsum_calls ay Y.length cy Y wr.drew (Kd.C_drew HR1.out) HBY1.out (by omega)).mono ?_
      rintro e w2 ⟨rfl, hB2⟩
      refine ⟨_, ?_, rfl, ?_, fun _ => hB2, ?_⟩
      rotate_left
      · simp only [Act.put, List.setIfInBounds_toArray, List.set_cons_zero, List.set_cons_succ, Go.Proofs.YtdfahblgnbdndaaDoorW.PrintLast.i64_w, Go.Proofs.YtdfahblgnbdndaaDoorW.PrintLast.i32_w]
        rfl
      have HB2 : Aside0 (Below wr.heap.size wr w2) := ⟨(Below.drew (Below.refl wr.heap.size wr)).trans hB2⟩
      clear hB2
      refine seq_take (v := _) (a' := ?_) rfl rfl (by rfl) (fun w' hw' => build_run 41 #[(0, .tmp 22), (1, .tmp 27)] rfl (built_it (shaL Y) (Y.length : Int) (shaL_len Y))) ?_ ?_
      rotate_left
      · simp only [Act.put, List.setIfInBounds_toArray, List.set_cons_zero, List.set_cons_succ, Go.Proofs.YtdfahblgnbdndaaDoorW.PrintLast.i64_w, Go.Proofs.YtdfahblgnbdndaaDoorW.PrintLast.i32_w]
        rfl
      refine seq_run ?_
      refine do_val (v := _) (a' := ?_) (w1 := _) rfl rfl (by rfl) (row1_exec #[(0, .tmp 28)] rfl Tryd.underlying27 infoI (icells (shaL Y, (Y.length : Int))) (icells_len (shaL_len Y)) (by decide) (by decide) rfl) ?_ ?_
      rotate_left
      · simp only [Act.put, List.setIfInBounds_toArray, List.set_cons_zero, List.set_cons_succ, Go.Proofs.YtdfahblgnbdndaaDoorW.PrintLast.i64_w, Go.Proofs.YtdfahblgnbdndaaDoorW.PrintLast.i32_w]
        rfl
      refine ⟨fun _ => below_alloc (Below.refl _ _) _, ?_⟩
      refine seq_run ?_
      refine do_appR KI (w0 := w2) (W := w2) w1.heap.size rfl rfl (by rfl) (.tmp 17) (.tmp 29) 27 41 zI 40 rfl Tryd.underlying27 infoI zI_size (by decide) (by decide) (.slice va R.length vcc) R (shaL Y, (Y.length : Int)) (icells (shaL Y, (Y.length : Int))) rfl rfl ⟨shaL_len Y, rfl⟩ (Kd.R_below HOR.out HB2.out) (Below.refl _ _) (by have := HB2.out.size; have := HB.out.size; omega) (by omega) ?_
      intro v3 w3 hO3 hB3 hG3 hAt3
      refine ⟨fun h => absurd (by simp) h, ?_⟩
      have HO3 : Aside0 (OwI w3 w1.heap.size v3 (itsOf (CH.take (k + 1)))) := ⟨by rw [HTK.out]; exact hO3⟩
      have HB3 : Aside0 (Below w1.heap.size w1 w3) := ⟨(HB.out.trans (HB2.out.mono HB.out.size)).trans hB3⟩
      clear hO3 hB3 hG3 hAt3
      refine seq_take (v := ?_) (a' := ?_) rfl rfl (by rfl) (fun w' hw' => ?_) ?_ ?_
      rotate_left 2
      · go_simp
        with_reducible rfl
      · simp only [Act.put, List.setIfInBounds_toArray, List.set_cons_zero, List.set_cons_succ, Go.Proofs.YtdfahblgnbdndaaDoorW.PrintLast.i64_w, Go.Proofs.YtdfahblgnbdndaaDoorW.PrintLast.i32_w]
        rfl
      refine seq_endN ?_
      go_wp2
      go_roundw
      case rel => exact ⟨k + 1, by omega, by go_num, HO3.out, HB3.out⟩
      case measure => simp [intOf]; omega
    · obtain rfl : k = CH.length := by omega
      have hO9 := HO.out
      rw [List.take_length] at hO9
      go_wp2
      go_ret
      exact ⟨_, rfl, by rw [HCE.out]; exact Kd.R_lower hO9 HB1.out.size, below_tr HB1.out HB.out HB1.out.size⟩
theorem rdI_take {xs ys : List Itm} {k : Nat} (h : xs.take k = ys.take k) (hx : k < xs.length) (hy : k < ys.length) (he : xs.getD k ([], 0) = ys.getD k ([], 0)) : xs.take (k + 1) = ys.take (k + 1) := by
  rw [List.take_add_one, List.take_add_one, h]
  rw [List.getD_eq_getElem?_getD, List.getD_eq_getElem?_getD, List.getElem?_eq_getElem hx, List.getElem?_eq_getElem hy] at he
  simp only [Option.getD_some] at he
  rw [List.getElem?_eq_getElem hx, List.getElem?_eq_getElem hy, he]
set_option maxRecDepth 20000 in
set_option maxHeartbeats 1600000 in
theorem sameItems_calls (A B : Option Addr) (n m c d : Nat) (xs ys : List Itm) (w : World) (hx : RdI w A n xs) (hy : RdI w B m ys) (hn : n ≤ 1099511627776) (hm : m ≤ 1099511627776) :
    Calls Tryd.prog 43 #[.slice A n c, .slice B m d] w fun e w' => e = .returned (.bool (decide (xs = ys))) ∧ Below w.heap.size w w' := by
  have HX := Aside0.mk hx
  have HY := Aside0.mk hy
  have hgd : Tryd.prog.eqGuardType Tryd.prog.depth 41 = false := by kernel_rfl
  have HGD := Aside0.mk hgd
  clear hx hy hgd
  by_cases hnm : n = m
  · subst hnm
    go_enter Tryd.func43, Tryd.ntmps43
    go_wp2
    go_loopw [5] (fun i wr => ∃ k : Nat, k ≤ n ∧ i = .int .i64 k ∧ xs.take k = ys.take k ∧ Below w.heap.size w wr) (fun i _ => n - (intOf i).toNat)
    case atStart => exact ⟨0, Nat.zero_le _, rfl, rfl, Below.refl _ _⟩
    case round =>
      obtain ⟨k, hk, rfl, hT, hB⟩ := hrel
      have HB := Aside0.mk hB
      have HT := Aside0.mk hT
      clear hB hT
      by_cases hlt : k < n
      · obtain ⟨ad, rfl, hx32, hxc⟩ := kf_at HX.out ([], 0) k hlt
        obtain ⟨bd, rfl, hy32, hyc⟩ := kf_at HY.out ([], 0) k hlt
        have HXC := Aside0.mk hxc
        have HYC := Aside0.mk hyc
        have HTK : Aside0 (xs.getD k ([], 0) = ys.getD k ([], 0) → xs.take (k + 1) = ys.take (k + 1)) := ⟨rdI_take HT.out (by have := HX.out.1; omega) (by have := HY.out.1; omega)⟩
        have HNE : Aside0 (xs.getD k ([], 0) ≠ ys.getD k ([], 0) → xs ≠ ys) := ⟨fun h e => h (by rw [e])⟩
        generalize xs.getD k ([], 0) = X at *
        generalize ys.getD k ([], 0) = Y at *
        have HX32 := Aside0.mk hx32
        have HY32 := Aside0.mk hy32
        clear hxc hyc hx32 hy32
        go_wp2_with fail
        refine seq_startN [] (.take 0 (.take 1 (.take 2 (.take 3 (.take 4 (.take 5 (.take 6 (.take 7 (.take 8 .done))))))))) (by kernel_rfl) (by kernel_rfl) ?_
        refine seq_take (v := ?_) (a' := ?_) rfl rfl (by rfl) (fun w' hw' => ?_) ?_ ?_
        rotate_left 2
        · go_simp
          with_reducible rfl
        · simp only [Act.put, List.setIfInBounds_toArray, List.set_cons_zero, List.set_cons_succ, Go.Proofs.YtdfahblgnbdndaaDoorW.PrintLast.i64_w, Go.Proofs.YtdfahblgnbdndaaDoorW.PrintLast.i32_w]
          rfl
        refine seq_take (v := ?_) (a' := ?_) rfl rfl (by rfl) (fun w' hw' => ?_) ?_ ?_
        rotate_left 2
        · go_simp
          with_reducible rfl
        · simp only [Act.put, List.setIfInBounds_toArray, List.set_cons_zero, List.set_cons_succ, Go.Proofs.YtdfahblgnbdndaaDoorW.PrintLast.i64_w, Go.Proofs.YtdfahblgnbdndaaDoorW.PrintLast.i32_w]
          rfl
        refine seq_take (v := ?_) (a' := ?_) rfl rfl (by rfl) (fun w' hw' => ?_) ?_ ?_
        rotate_left 2
        · go_simp
          with_reducible rfl
        · simp only [Act.put, List.setIfInBounds_toArray, List.set_cons_zero, List.set_cons_succ, Go.Proofs.YtdfahblgnbdndaaDoorW.PrintLast.i64_w, Go.Proofs.YtdfahblgnbdndaaDoorW.PrintLast.i32_w]
          rfl
        refine seq_take (v := _) (a' := ?_) rfl rfl (by rfl) (fun w' hw' => load_run rfl rfl (ld_elem (fun j u h => pw_cell_below hw' (show wr.drew.cell? _ = _ from pw_cell_below HB.out (HXC.out j u h))) 41 _ Tryd.underlying41 rfl (size_it HX32.out))) ?_ ?_
        rotate_left
        · simp only [Act.put, List.setIfInBounds_toArray, List.set_cons_zero, List.set_cons_succ, Go.Proofs.YtdfahblgnbdndaaDoorW.PrintLast.i64_w, Go.Proofs.YtdfahblgnbdndaaDoorW.PrintLast.i32_w]
          rfl
        refine seq_take (v := ?_) (a' := ?_) rfl rfl (by rfl) (fun w' hw' => ?_) ?_ ?_
        rotate_left 2
        · go_simp
          with_reducible rfl
        · simp only [Act.put, List.setIfInBounds_toArray, List.set_cons_zero, List.set_cons_succ, Go.Proofs.YtdfahblgnbdndaaDoorW.PrintLast.i64_w, Go.Proofs.YtdfahblgnbdndaaDoorW.PrintLast.i32_w]
          rfl
        refine seq_take (v := ?_) (a' := ?_) rfl rfl (by rfl) (fun w' hw' => ?_) ?_ ?_
        rotate_left 2
        · go_simp
          with_reducible rfl
        · simp only [Act.put, List.setIfInBounds_toArray, List.set_cons_zero, List.set_cons_succ, Go.Proofs.YtdfahblgnbdndaaDoorW.PrintLast.i64_w, Go.Proofs.YtdfahblgnbdndaaDoorW.PrintLast.i32_w]
          rfl
        refine seq_take (v := ?_) (a' := ?_) rfl rfl (by rfl) (fun w' hw' => ?_) ?_ ?_
        rotate_left 2
        · go_simp
          with_reducible rfl
        · simp only [Act.put, List.setIfInBounds_toArray, List.set_cons_zero, List.set_cons_succ, Go.Proofs.YtdfahblgnbdndaaDoorW.PrintLast.i64_w, Go.Proofs.YtdfahblgnbdndaaDoorW.PrintLast.i32_w]
          rfl
        refine seq_take (v := _) (a' := ?_) rfl rfl (by rfl) (fun w' hw' => load_run rfl rfl (ld_elem (fun j u h => pw_cell_below hw' (show wr.drew.cell? _ = _ from pw_cell_below HB.out (HYC.out j u h))) 41 _ Tryd.underlying41 rfl (size_it HY32.out))) ?_ ?_
        rotate_left
        · simp only [Act.put, List.setIfInBounds_toArray, List.set_cons_zero, List.set_cons_succ, Go.Proofs.YtdfahblgnbdndaaDoorW.PrintLast.i64_w, Go.Proofs.YtdfahblgnbdndaaDoorW.PrintLast.i32_w]
          rfl
        refine seq_take (v := _) (a' := ?_) rfl rfl (by rfl) (fun w' hw' => bin_run .neq 41 (.tmp 20) (.tmp 24) 41 rfl (p := .agg (icells X).toArray) (q := .agg (icells Y).toArray) rfl rfl (run_eqGuard_agg _ .neq _ _ _ _ _ HGD.out) (it_neq HX32.out HY32.out)) ?_ ?_
        rotate_left
        · simp only [Act.put, List.setIfInBounds_toArray, List.set_cons_zero, List.set_cons_succ, Go.Proofs.YtdfahblgnbdndaaDoorW.PrintLast.i64_w, Go.Proofs.YtdfahblgnbdndaaDoorW.PrintLast.i32_w]
          rfl
        refine seq_endN ?_
        have HD : Aside0 (Below w.heap.size w wr.drew) := ⟨Below.drew HB.out⟩
        by_cases he : X = Y
        · have HT2 := Aside0.mk (HTK.out he)
          rw [show (!decide (X = Y)) = false by simp [he]]
          clear he
          go_wp2
          go_roundw
          case rel => exact ⟨k + 1, by omega, by go_num, HT2.out, HD.out⟩
          case measure => simp [intOf]; omega
        · have HN := Aside0.mk (HNE.out he)
          rw [show (!decide (X = Y)) = true by simp [he]]
          clear he
          go_wp2
          go_ret
          exact ⟨by rw [decide_eq_false HN.out]; rfl, HD.out⟩
      · obtain rfl : k = n := by omega
        have HE : Aside0 (xs = ys) := ⟨by
          have h := HT.out
          rwa [List.take_of_length_le (by have := HX.out.1; omega), List.take_of_length_le (by have := HY.out.1; omega)] at h⟩
        go_wp2
        go_ret
        exact ⟨by rw [decide_eq_true HE.out]; rfl, HB.out⟩
  · have HN : Aside0 (xs ≠ ys) := ⟨fun e => hnm (by have h1 := HX.out.1; have h2 := HY.out.1; rw [e] at h1; omega)⟩
    have h1 : ((n : Int) == (m : Int)) = false := by rw [beq_eq_false_iff_ne]; omega
    go_enter Tryd.func43, Tryd.ntmps43
    go_wp2
    go_ret
    exact ⟨by rw [decide_eq_false HN.out]; rfl, Below.refl _ _⟩
end Go.Proofs.YtdfahblgnbdndaaDoor
