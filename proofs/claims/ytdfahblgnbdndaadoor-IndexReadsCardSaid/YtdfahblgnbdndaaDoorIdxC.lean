/- slices.Equal at items, lighterageref11.Same, index.Same: what they compute. Conditions: bounded rows. -/
import Derived.Test.YtdfahblgnbdndaaDoorG9
import Derived.Test.YtdfahblgnbdndaaDoorG10
namespace Go.Proofs.YtdfahblgnbdndaaDoor
open Go.RowKit Go.Shelf Go.Proofs.YtdfahblgnbdndaaDoorW.PrintWords Go.Proofs.YtdfahblgnbdndaaDoorW.PrintMore
set_option linter.unusedVariables false
set_option linter.unusedSimpArgs false
set_option maxRecDepth 20000 in
set_option maxHeartbeats 1600000 in
theorem slEqual_calls (A B : Option Addr) (n m c d : Nat) (xs ys : List Itm) (w : World) (hx : RdI w A n xs) (hy : RdI w B m ys) (hn : n ≤ 1099511627776) (hm : m ≤ 1099511627776) :
    Calls Tryd.prog 46 #[.slice A n c, .slice B m d] w fun e w' => e = .returned (.bool (decide (xs = ys))) ∧ Below w.heap.size w w' := by
  have HX := Aside0.mk hx
  have HY := Aside0.mk hy
  have hgd : Tryd.prog.eqGuardType Tryd.prog.depth 41 = false := by kernel_rfl
  have HGD := Aside0.mk hgd
  clear hx hy hgd
  by_cases hnm : n = m
  · subst hnm
    go_enter Tryd.func46, Tryd.ntmps46
    go_wp2
    go_loopw [5, 13] (fun _ i wr => ∃ k : Nat, k ≤ n ∧ i = .int .i64 k ∧ xs.take k = ys.take k ∧ Below w.heap.size w wr) (fun _ i _ => n - (intOf i).toNat)
    case atStart => exact ⟨0, Nat.zero_le _, rfl, rfl, Below.refl _ _⟩
    case round =>
      obtain ⟨k, hk, rfl, hT, hB⟩ := hrel
      have HB := Aside0.mk hB
      have HT := Aside0.mk hT
      clear hB hT
      by_cases hlt : k < n
      · obtain ⟨ad, rfl, hx32, hxc⟩ := kf_at HX.out ([], 0) k hlt
        obtain ⟨bd, rfl, hy32, hyc⟩ := kf_at HY.out ([], 0) k hlt
        have HXC := Aside0.mk hxc
        have HYC := Aside0.mk hyc
        have HTK : Aside0 (xs.getD k ([], 0) = ys.getD k ([], 0) → xs.take (k + 1) = ys.take (k + 1)) := ⟨rdI_take HT.out (by have := HX.out.1; omega) (by have := HY.out.1; omega)⟩
        have HNE : Aside0 (xs.getD k ([], 0) ≠ ys.getD k ([], 0) → xs ≠ ys) := ⟨fun h e => h (by rw [e])⟩
        generalize xs.getD k ([], 0) = X at *
        generalize ys.getD k ([], 0) = Y at *
        have HX32 := Aside0.mk hx32
        have HY32 := Aside0.mk hy32
        clear hxc hyc hx32 hy32
        go_wp2_with fail
        refine seq_startN [] (.take 0 (.take 1 (.take 2 (.take 3 (.take 4 (.take 5 (.take 6 (.take 7 (.take 8 .done))))))))) (by kernel_rfl) (by kernel_rfl) ?_
        refine seq_take (v := ?_) (a' := ?_) rfl rfl (by rfl) (fun w' hw' => ?_) ?_ ?_
        rotate_left 2
        · go_simp
          with_reducible rfl
        · simp only [Act.put, List.setIfInBounds_toArray, List.set_cons_zero, List.set_cons_succ, Go.Proofs.YtdfahblgnbdndaaDoorW.PrintLast.i64_w, Go.Proofs.YtdfahblgnbdndaaDoorW.PrintLast.i32_w]
          rfl
        refine seq_take (v := ?_) (a' := ?_) rfl rfl (by rfl) (fun w' hw' => ?_) ?_ ?_
        rotate_left 2
        · go_simp
          with_reducible rfl
        · simp only [Act.put, List.setIfInBounds_toArray, List.set_cons_zero, List.set_cons_succ, Go.Proofs.YtdfahblgnbdndaaDoorW.PrintLast.i64_w, Go.Proofs.YtdfahblgnbdndaaDoorW.PrintLast.i32_w]
          rfl
        refine seq_take (v := ?_) (a' := ?_) rfl rfl (by rfl) (fun w' hw' => ?_) ?_ ?_
        rotate_left 2
        · go_simp
          with_reducible rfl
        · simp only [Act.put, List.setIfInBounds_toArray, List.set_cons_zero, List.set_cons_succ, Go.Proofs.YtdfahblgnbdndaaDoorW.PrintLast.i64_w, Go.Proofs.YtdfahblgnbdndaaDoorW.PrintLast.i32_w]
          rfl
        refine seq_take (v := _) (a' := ?_) rfl rfl (by rfl) (fun w' hw' => load_run rfl rfl (ld_elem (fun j u h => pw_cell_below hw' (show wr.drew.cell? _ = _ from pw_cell_below HB.out (HXC.out j u h))) 41 _ Tryd.underlying41 rfl (size_it HX32.out))) ?_ ?_
        rotate_left
        · simp only [Act.put, List.setIfInBounds_toArray, List.set_cons_zero, List.set_cons_succ, Go.Proofs.YtdfahblgnbdndaaDoorW.PrintLast.i64_w, Go.Proofs.YtdfahblgnbdndaaDoorW.PrintLast.i32_w]
          rfl
        refine seq_take (v := ?_) (a' := ?_) rfl rfl (by rfl) (fun w' hw' => ?_) ?_ ?_
        rotate_left 2
        · go_simp
          with_reducible rfl
        · simp only [Act.put, List.setIfInBounds_toArray, List.set_cons_zero, List.set_cons_succ, Go.Proofs.YtdfahblgnbdndaaDoorW.PrintLast.i64_w, Go.Proofs.YtdfahblgnbdndaaDoorW.PrintLast.i32_w]
          rfl
        refine seq_take (v := ?_) (a' := ?_) rfl rfl (by rfl) (fun w' hw' => ?_) ?_ ?_
        rotate_left 2
        · go_simp
          with_reducible rfl
        · simp only [Act.put, List.setIfInBounds_toArray, List.set_cons_zero, List.set_cons_succ, Go.Proofs.YtdfahblgnbdndaaDoorW.PrintLast.i64_w, Go.Proofs.YtdfahblgnbdndaaDoorW.PrintLast.i32_w]
          rfl
        refine seq_take (v := ?_) (a' := ?_) rfl rfl (by rfl) (fun w' hw' => ?_) ?_ ?_
        rotate_left 2
        · go_simp
          with_reducible rfl
        · simp only [Act.put, List.setIfInBounds_toArray, List.set_cons_zero, List.set_cons_succ, Go.Proofs.YtdfahblgnbdndaaDoorW.PrintLast.i64_w, Go.Proofs.YtdfahblgnbdndaaDoorW.PrintLast.i32_w]
          rfl
        refine seq_take (v := _) (a' := ?_) rfl rfl (by rfl) (fun w' hw' => load_run rfl rfl (ld_elem (fun j u h => pw_cell_below hw' (show wr.drew.cell? _ = _ from pw_cell_below HB.out (HYC.out j u h))) 41 _ Tryd.underlying41 rfl (size_it HY32.out))) ?_ ?_
        rotate_left
        · simp only [Act.put, List.setIfInBounds_toArray, List.set_cons_zero, List.set_cons_succ, Go.Proofs.YtdfahblgnbdndaaDoorW.PrintLast.i64_w, Go.Proofs.YtdfahblgnbdndaaDoorW.PrintLast.i32_w]
          rfl
        refine seq_take (v := _) (a' := ?_) rfl rfl (by rfl) (fun w' hw' => bin_run .neq 41 (.tmp 19) (.tmp 23) 41 rfl (p := .agg (icells X).toArray) (q := .agg (icells Y).toArray) rfl rfl (run_eqGuard_agg _ .neq _ _ _ _ _ HGD.out) (it_neq HX32.out HY32.out)) ?_ ?_
        rotate_left
        · simp only [Act.put, List.setIfInBounds_toArray, List.set_cons_zero, List.set_cons_succ, Go.Proofs.YtdfahblgnbdndaaDoorW.PrintLast.i64_w, Go.Proofs.YtdfahblgnbdndaaDoorW.PrintLast.i32_w]
          rfl
        refine seq_endN ?_
        have HD : Aside0 (Below w.heap.size w wr.drew) := ⟨Below.drew HB.out⟩
        by_cases he : X = Y
        · have HT2 := Aside0.mk (HTK.out he)
          rw [show (!decide (X = Y)) = false by simp [he]]
          clear he
          go_wp2
          go_roundw
          case rel => exact ⟨k + 1, by omega, by go_num, HT2.out, HD.out⟩
          case measure => simp [intOf]; omega
        · have HN := Aside0.mk (HNE.out he)
          rw [show (!decide (X = Y)) = true by simp [he]]
          clear he
          go_wp2
          go_ret
          exact ⟨by rw [decide_eq_false HN.out]; rfl, HD.out⟩
      · obtain rfl : k = n := by omega
        have HE : Aside0 (xs = ys) := ⟨by
          have h := HT.out
          rwa [List.take_of_length_le (by have := HX.out.1; omega), List.take_of_length_le (by have := HY.out.1; omega)] at h⟩
        go_wp2
        go_ret
        exact ⟨by rw [decide_eq_true HE.out]; rfl, HB.out⟩
  · have HN : Aside0 (xs ≠ ys) := ⟨fun e => hnm (by have h1 := HX.out.1; have h2 := HY.out.1; rw [e] at h1; omega)⟩
    have h1 : ((n : Int) == (m : Int)) = false := by rw [beq_eq_false_iff_ne]; omega
    go_enter Tryd.func46, Tryd.ntmps46
    go_wp2
    go_ret
    exact ⟨by rw [decide_eq_false HN.out]; rfl, Below.refl _ _⟩
theorem par_eq {w : World} (a b c a' b' c' : Int) : (Op.equalIn 10000 24 (.agg #[.int .i64 a, .int .i64 b, .int .i64 c]) (.agg #[.int .i64 a', .int .i64 b', .int .i64 c'])).run Tryd.prog w = .ok ((a == a') && ((b == b') && (c == c'))) w := by
  refine eqA_of (d := 9999) Tryd.underlying24 Tryd.stoodInHeld24 ?_
  refine eqf_cons rfl (part_one Tryd.underlying3 rfl rfl) (part_one Tryd.underlying3 rfl rfl) (run_equalIn_int w 9998 _ _ _ _ _ Tryd.underlying3) ?_
  refine eqf_cons rfl (part_one Tryd.underlying3 rfl rfl) (part_one Tryd.underlying3 rfl rfl) (run_equalIn_int w 9998 _ _ _ _ _ Tryd.underlying3) ?_
  exact eqf_last rfl (part_one Tryd.underlying3 rfl rfl) (part_one Tryd.underlying3 rfl rfl) (run_equalIn_int w 9998 _ _ _ _ _ Tryd.underlying3)
theorem par_eql {w : World} (a b c a' b' c' : Int) : (binOp .eql 24 (.agg #[.int .i64 a, .int .i64 b, .int .i64 c]) (.agg #[.int .i64 a', .int .i64 b', .int .i64 c'])).run Tryd.prog w = .ok (.bool (decide (a = a' ∧ b = b' ∧ c = c'))) w := by
  rw [run_eql_struct, par_eq]
  by_cases h1 : a = a' <;> by_cases h2 : b = b' <;> by_cases h3 : c = c' <;> simp [h1, h2, h3, Result.andThen]
theorem x_items {w : World} {g T : Nat} {a b c : Int} {im : List Int} {v : Value} {fr : Nat × Nat} (h : w.heap[g]? = some (.cells (Xc a b c im v).toArray T fr)) (hn : im.length = 32) : w.cell? ⟨g, 35, none⟩ = some v := (x_cells h hn).2.2.2.1
/-- Whether two indexes are the same. -/
def sameX (a b c : Int) (im : List Int) (xs : List Itm) (a' b' c' : Int) (im' : List Int) (ys : List Itm) : Bool := decide (a = a' ∧ b = b' ∧ c = c' ∧ im = im' ∧ xs = ys)
set_option maxRecDepth 20000 in
set_option maxHeartbeats 1600000 in
theorem isame_calls (a b c a' b' c' : Int) (im im' : List Int) (A B : Option Addr) (n cp m cq : Nat) (xs ys : List Itm) (C D : Array Value) (w : World) (hC : C = (Xc a b c im (.slice A n cp)).toArray) (hD : D = (Xc a' b' c' im' (.slice B m cq)).toArray) (hn : im.length = 32) (hn' : im'.length = 32) (hx : RdI w A n xs) (hy : RdI w B m ys) (hnl : n ≤ 1099511627776) (hml : m ≤ 1099511627776) :
    Calls Tryd.prog 29 #[.agg C, .agg D] w fun e w' => e = .returned (.bool (sameX a b c im xs a' b' c' im' ys)) ∧ Below w.heap.size w w' := by
  obtain ⟨w1, hw1⟩ : ∃ w1, w1 = (w.alloc (.cells C 29)).alloc (.cells D 29) := ⟨_, rfl⟩
  have F1 : Aside0 (w1.heap[w.heap.size]? = some (.cells (Xc a b c im (.slice A n cp)).toArray 29 (0, 0))) := ⟨by rw [hw1, ← hC]; exact heap_alloc2_old w _ _⟩
  have F2 : Aside0 (w1.heap[w.heap.size + 1]? = some (.cells (Xc a' b' c' im' (.slice B m cq)).toArray 29 (0, 0))) := ⟨by rw [hw1, ← hD]; exact heap_alloc2_new w _ _⟩
  have HB : Aside0 (Below w.heap.size w w1) := ⟨by rw [hw1]; exact ((Below.refl _ _).alloc (Nat.le_refl _) _).alloc (by simp) _⟩
  have q1 := x_items F1.out hn
  have q2 := x_items F2.out hn'
  have HX := Aside0.mk (Kd.C_below hx HB.out)
  have HY := Aside0.mk (Kd.C_below hy HB.out)
  have HN := Aside0.mk (And.intro hn hn')
  have hgp : Tryd.prog.eqGuardType Tryd.prog.depth 24 = false := by kernel_rfl
  have hgd : Tryd.prog.eqGuardType Tryd.prog.depth 26 = false := by kernel_rfl
  have HPE := Aside0.mk (fun (w : World) => par_eql (w := w) a b c a' b' c')
  have HDE := Aside0.mk (fun (w : World) => d_eql (w := w) hn hn')
  clear hx hy hn hn' hC hD
  subst hw1
  go_enter Tryd.func29, Tryd.ntmps29
  by_cases hp : a = a' ∧ b = b' ∧ c = c'
  · have HPV : Aside0 (∀ w : World, (binOp .eql 24 (.agg #[.int .i64 a, .int .i64 b, .int .i64 c]) (.agg #[.int .i64 a', .int .i64 b', .int .i64 c'])).run Tryd.prog w = .ok (.bool true) w) := ⟨fun w => by rw [HPE.out w]; simp [hp]⟩
    by_cases hd : im = im'
    · have HDV : Aside0 (∀ w : World, (binOp .eql 26 (.agg (Nm im).toArray) (.agg (Nm im').toArray)).run Tryd.prog w = .ok (.bool true) w) := ⟨fun w => by rw [HDE.out w]; simp [hd]⟩
      have E : Aside0 (sameX a b c im xs a' b' c' im' ys = decide (xs = ys)) := ⟨by simp [sameX, hp, hd]⟩
      clear hp hd
      go_wp2_with (first
        | ((with_reducible refine at_ld 24 (.tmp 5) ?_); refine load_arm rfl 24 (.tmp 5) rfl rfl (x_params F1.out) ?_; simp only [Act.put, List.setIfInBounds_toArray, List.set_cons_zero, List.set_cons_succ])
        | ((with_reducible refine at_ld 24 (.tmp 7) ?_); refine load_arm rfl 24 (.tmp 7) rfl rfl (x_params F2.out) ?_; simp only [Act.put, List.setIfInBounds_toArray, List.set_cons_zero, List.set_cons_succ])
        | ((with_reducible refine at_bin .eql 24 ?_); refine val_arm (v := (.bool true)) (by rfl) (bin_run .eql 24 (.tmp 6) (.tmp 8) 24 rfl (p := (.agg #[.int .i64 a, .int .i64 b, .int .i64 c])) (q := (.agg #[.int .i64 a', .int .i64 b', .int .i64 c'])) rfl rfl (run_eqGuard_agg _ .eql _ _ _ _ _ hgp) (HPV.out _)) ?_)
        | ((with_reducible refine at_ldg 26 (.tmp 11) ?_); refine val_arm (by rfl) (load_run rfl rfl (x_dig F1.out HN.out.1)) ?_)
        | ((with_reducible refine at_ldg 26 (.tmp 13) ?_); refine val_arm (by rfl) (load_run rfl rfl (x_dig F2.out HN.out.2)) ?_)
        | ((with_reducible refine at_bing .eql 26 ?_); refine val_arm (v := (.bool true)) (by rfl) (bin_run .eql 26 (.tmp 12) (.tmp 14) 26 rfl (p := (.agg (Nm im).toArray)) (q := (.agg (Nm im').toArray)) rfl rfl (run_eqGuard_agg _ .eql _ _ _ _ _ hgd) (HDV.out _)) ?_)
        | (go_at_call 46; refine (slEqual_calls A B n m cp cq xs ys _ HX.out HY.out hnl hml).mono ?_; rintro e w2 ⟨rfl, hB⟩; have HB2 := Aside0.mk (below_tr HB.out hB HB.out.size); clear hB)
        | fail)
      go_ret
      exact ⟨by rw [E.out]; rfl, HB2.out⟩
    · have HDV : Aside0 (∀ w : World, (binOp .eql 26 (.agg (Nm im).toArray) (.agg (Nm im').toArray)).run Tryd.prog w = .ok (.bool false) w) := ⟨fun w => by rw [HDE.out w]; simp [hd]⟩
      have E : Aside0 (sameX a b c im xs a' b' c' im' ys = false) := ⟨by simp [sameX, hd]⟩
      clear hp hd
      go_wp2_with (first
        | ((with_reducible refine at_ld 24 (.tmp 5) ?_); refine load_arm rfl 24 (.tmp 5) rfl rfl (x_params F1.out) ?_; simp only [Act.put, List.setIfInBounds_toArray, List.set_cons_zero, List.set_cons_succ])
        | ((with_reducible refine at_ld 24 (.tmp 7) ?_); refine load_arm rfl 24 (.tmp 7) rfl rfl (x_params F2.out) ?_; simp only [Act.put, List.setIfInBounds_toArray, List.set_cons_zero, List.set_cons_succ])
        | ((with_reducible refine at_bin .eql 24 ?_); refine val_arm (v := (.bool true)) (by rfl) (bin_run .eql 24 (.tmp 6) (.tmp 8) 24 rfl (p := (.agg #[.int .i64 a, .int .i64 b, .int .i64 c])) (q := (.agg #[.int .i64 a', .int .i64 b', .int .i64 c'])) rfl rfl (run_eqGuard_agg _ .eql _ _ _ _ _ hgp) (HPV.out _)) ?_)
        | ((with_reducible refine at_ldg 26 (.tmp 11) ?_); refine val_arm (by rfl) (load_run rfl rfl (x_dig F1.out HN.out.1)) ?_)
        | ((with_reducible refine at_ldg 26 (.tmp 13) ?_); refine val_arm (by rfl) (load_run rfl rfl (x_dig F2.out HN.out.2)) ?_)
        | ((with_reducible refine at_bing .eql 26 ?_); refine val_arm (v := (.bool false)) (by rfl) (bin_run .eql 26 (.tmp 12) (.tmp 14) 26 rfl (p := (.agg (Nm im).toArray)) (q := (.agg (Nm im').toArray)) rfl rfl (run_eqGuard_agg _ .eql _ _ _ _ _ hgd) (HDV.out _)) ?_)
        | fail)
      go_ret
      exact ⟨by rw [E.out]; rfl, HB.out⟩
  · have HPV : Aside0 (∀ w : World, (binOp .eql 24 (.agg #[.int .i64 a, .int .i64 b, .int .i64 c]) (.agg #[.int .i64 a', .int .i64 b', .int .i64 c'])).run Tryd.prog w = .ok (.bool false) w) := ⟨fun w => by rw [HPE.out w]; simp [hp]⟩
    have E : Aside0 (sameX a b c im xs a' b' c' im' ys = false) := ⟨by unfold sameX; exact decide_eq_false fun h => hp ⟨h.1, h.2.1, h.2.2.1⟩⟩
    clear hp
    go_wp2_with (first
        | ((with_reducible refine at_ld 24 (.tmp 5) ?_); refine load_arm rfl 24 (.tmp 5) rfl rfl (x_params F1.out) ?_; simp only [Act.put, List.setIfInBounds_toArray, List.set_cons_zero, List.set_cons_succ])
        | ((with_reducible refine at_ld 24 (.tmp 7) ?_); refine load_arm rfl 24 (.tmp 7) rfl rfl (x_params F2.out) ?_; simp only [Act.put, List.setIfInBounds_toArray, List.set_cons_zero, List.set_cons_succ])
        | ((with_reducible refine at_bin .eql 24 ?_); refine val_arm (v := (.bool false)) (by rfl) (bin_run .eql 24 (.tmp 6) (.tmp 8) 24 rfl (p := (.agg #[.int .i64 a, .int .i64 b, .int .i64 c])) (q := (.agg #[.int .i64 a', .int .i64 b', .int .i64 c'])) rfl rfl (run_eqGuard_agg _ .eql _ _ _ _ _ hgp) (HPV.out _)) ?_)
        | fail)
    go_ret
    exact ⟨by rw [E.out]; rfl, HB.out⟩
set_option maxRecDepth 20000 in
set_option maxHeartbeats 1600000 in
theorem rsame_calls (a b c a' b' c' : Int) (im im' : List Int) (A B : Option Addr) (n cp m cq : Nat) (xs ys : List Itm) (C D : Array Value) (w : World) (hC : C = (Xc a b c im (.slice A n cp)).toArray) (hD : D = (Xc a' b' c' im' (.slice B m cq)).toArray) (hn : im.length = 32) (hn' : im'.length = 32) (hx : RdI w A n xs) (hy : RdI w B m ys) (hnl : n ≤ 1099511627776) (hml : m ≤ 1099511627776) :
    Calls Tryd.prog 24 #[.agg C, .agg D] w fun e w' => e = .returned (.bool (sameX a b c im xs a' b' c' im' ys)) ∧ Below w.heap.size w w' := by
  obtain ⟨w1, hw1⟩ : ∃ w1, w1 = (w.alloc (.cells C 38)).alloc (.cells D 38) := ⟨_, rfl⟩
  have F1 : Aside0 (w1.heap[w.heap.size]? = some (.cells (Xc a b c im (.slice A n cp)).toArray 38 (0, 0))) := ⟨by rw [hw1, ← hC]; exact heap_alloc2_old w _ _⟩
  have F2 : Aside0 (w1.heap[w.heap.size + 1]? = some (.cells (Xc a' b' c' im' (.slice B m cq)).toArray 38 (0, 0))) := ⟨by rw [hw1, ← hD]; exact heap_alloc2_new w _ _⟩
  have HB : Aside0 (Below w.heap.size w w1) := ⟨by rw [hw1]; exact ((Below.refl _ _).alloc (Nat.le_refl _) _).alloc (by simp) _⟩
  have q1 := x_items F1.out hn
  have q2 := x_items F2.out hn'
  have HX := Aside0.mk (Kd.C_below hx HB.out)
  have HY := Aside0.mk (Kd.C_below hy HB.out)
  have HN := Aside0.mk (And.intro hn hn')
  have hgp : Tryd.prog.eqGuardType Tryd.prog.depth 24 = false := by kernel_rfl
  have hgd : Tryd.prog.eqGuardType Tryd.prog.depth 26 = false := by kernel_rfl
  have HPE := Aside0.mk (fun (w : World) => par_eql (w := w) a b c a' b' c')
  have HDE := Aside0.mk (fun (w : World) => d_eql (w := w) hn hn')
  clear hx hy hn hn' hC hD
  subst hw1
  go_enter Tryd.func24, Tryd.ntmps24
  by_cases hi : xs = ys
  · have hi' : decide (xs = ys) = true := decide_eq_true hi
    by_cases hp : a = a' ∧ b = b' ∧ c = c'
    · have HPV : Aside0 (∀ w : World, (binOp .eql 24 (.agg #[.int .i64 a, .int .i64 b, .int .i64 c]) (.agg #[.int .i64 a', .int .i64 b', .int .i64 c'])).run Tryd.prog w = .ok (.bool true) w) := ⟨fun w => by rw [HPE.out w]; simp [hp]⟩
      by_cases hd : im = im'
      · have HDV : Aside0 (∀ w : World, (binOp .eql 26 (.agg (Nm im).toArray) (.agg (Nm im').toArray)).run Tryd.prog w = .ok (.bool true) w) := ⟨fun w => by rw [HDE.out w]; simp [hd]⟩
        have E : Aside0 (sameX a b c im xs a' b' c' im' ys = true) := ⟨by simp [sameX, hp, hd, hi]⟩
        clear hp hd hi
        go_wp2_with (first
        | (go_at_call 43; refine (sameItems_calls A B n m cp cq xs ys _ HX.out HY.out hnl hml).mono ?_; rw [hi']; rintro e w2 ⟨rfl, hB⟩; have HB2 := Aside0.mk (below_tr HB.out hB HB.out.size); have G1 := Aside0.mk (blk_below hB F1.out); have G2 := Aside0.mk (blk_below hB F2.out); clear hB)
        | ((with_reducible refine at_ldg 24 (.tmp 13) ?_); refine val_arm (by rfl) (load_run rfl rfl (x_params G1.out)) ?_)
        | ((with_reducible refine at_ldg 24 (.tmp 15) ?_); refine val_arm (by rfl) (load_run rfl rfl (x_params G2.out)) ?_)
        | ((with_reducible refine at_bing .eql 24 ?_); refine val_arm (v := (.bool true)) (by rfl) (bin_run .eql 24 (.tmp 14) (.tmp 16) 24 rfl (p := (.agg #[.int .i64 a, .int .i64 b, .int .i64 c])) (q := (.agg #[.int .i64 a', .int .i64 b', .int .i64 c'])) rfl rfl (run_eqGuard_agg _ .eql _ _ _ _ _ hgp) (HPV.out _)) ?_)
        | ((with_reducible refine at_ldg 26 (.tmp 20) ?_); refine val_arm (by rfl) (load_run rfl rfl (x_dig G1.out HN.out.1)) ?_)
        | ((with_reducible refine at_ldg 26 (.tmp 22) ?_); refine val_arm (by rfl) (load_run rfl rfl (x_dig G2.out HN.out.2)) ?_)
        | ((with_reducible refine at_bing .eql 26 ?_); refine val_arm (v := (.bool true)) (by rfl) (bin_run .eql 26 (.tmp 21) (.tmp 23) 26 rfl (p := (.agg (Nm im).toArray)) (q := (.agg (Nm im').toArray)) rfl rfl (run_eqGuard_agg _ .eql _ _ _ _ _ hgd) (HDV.out _)) ?_)
        | fail)
        go_ret
        exact ⟨by rw [E.out]; rfl, HB2.out⟩
      · have HDV : Aside0 (∀ w : World, (binOp .eql 26 (.agg (Nm im).toArray) (.agg (Nm im').toArray)).run Tryd.prog w = .ok (.bool false) w) := ⟨fun w => by rw [HDE.out w]; simp [hd]⟩
        have E : Aside0 (sameX a b c im xs a' b' c' im' ys = false) := ⟨by simp [sameX, hd]⟩
        clear hp hd hi
        go_wp2_with (first
        | (go_at_call 43; refine (sameItems_calls A B n m cp cq xs ys _ HX.out HY.out hnl hml).mono ?_; rw [hi']; rintro e w2 ⟨rfl, hB⟩; have HB2 := Aside0.mk (below_tr HB.out hB HB.out.size); have G1 := Aside0.mk (blk_below hB F1.out); have G2 := Aside0.mk (blk_below hB F2.out); clear hB)
        | ((with_reducible refine at_ldg 24 (.tmp 13) ?_); refine val_arm (by rfl) (load_run rfl rfl (x_params G1.out)) ?_)
        | ((with_reducible refine at_ldg 24 (.tmp 15) ?_); refine val_arm (by rfl) (load_run rfl rfl (x_params G2.out)) ?_)
        | ((with_reducible refine at_bing .eql 24 ?_); refine val_arm (v := (.bool true)) (by rfl) (bin_run .eql 24 (.tmp 14) (.tmp 16) 24 rfl (p := (.agg #[.int .i64 a, .int .i64 b, .int .i64 c])) (q := (.agg #[.int .i64 a', .int .i64 b', .int .i64 c'])) rfl rfl (run_eqGuard_agg _ .eql _ _ _ _ _ hgp) (HPV.out _)) ?_)
        | ((with_reducible refine at_ldg 26 (.tmp 20) ?_); refine val_arm (by rfl) (load_run rfl rfl (x_dig G1.out HN.out.1)) ?_)
        | ((with_reducible refine at_ldg 26 (.tmp 22) ?_); refine val_arm (by rfl) (load_run rfl rfl (x_dig G2.out HN.out.2)) ?_)
        | ((with_reducible refine at_bing .eql 26 ?_); refine val_arm (v := (.bool false)) (by rfl) (bin_run .eql 26 (.tmp 21) (.tmp 23) 26 rfl (p := (.agg (Nm im).toArray)) (q := (.agg (Nm im').toArray)) rfl rfl (run_eqGuard_agg _ .eql _ _ _ _ _ hgd) (HDV.out _)) ?_)
        | fail)
        go_ret
        exact ⟨by rw [E.out]; rfl, HB2.out⟩
    · have HPV : Aside0 (∀ w : World, (binOp .eql 24 (.agg #[.int .i64 a, .int .i64 b, .int .i64 c]) (.agg #[.int .i64 a', .int .i64 b', .int .i64 c'])).run Tryd.prog w = .ok (.bool false) w) := ⟨fun w => by rw [HPE.out w]; simp [hp]⟩
      have E : Aside0 (sameX a b c im xs a' b' c' im' ys = false) := ⟨by unfold sameX; exact decide_eq_false fun h => hp ⟨h.1, h.2.1, h.2.2.1⟩⟩
      clear hp hi
      go_wp2_with (first
        | (go_at_call 43; refine (sameItems_calls A B n m cp cq xs ys _ HX.out HY.out hnl hml).mono ?_; rw [hi']; rintro e w2 ⟨rfl, hB⟩; have HB2 := Aside0.mk (below_tr HB.out hB HB.out.size); have G1 := Aside0.mk (blk_below hB F1.out); have G2 := Aside0.mk (blk_below hB F2.out); clear hB)
        | ((with_reducible refine at_ldg 24 (.tmp 13) ?_); refine val_arm (by rfl) (load_run rfl rfl (x_params G1.out)) ?_)
        | ((with_reducible refine at_ldg 24 (.tmp 15) ?_); refine val_arm (by rfl) (load_run rfl rfl (x_params G2.out)) ?_)
        | ((with_reducible refine at_bing .eql 24 ?_); refine val_arm (v := (.bool false)) (by rfl) (bin_run .eql 24 (.tmp 14) (.tmp 16) 24 rfl (p := (.agg #[.int .i64 a, .int .i64 b, .int .i64 c])) (q := (.agg #[.int .i64 a', .int .i64 b', .int .i64 c'])) rfl rfl (run_eqGuard_agg _ .eql _ _ _ _ _ hgp) (HPV.out _)) ?_)
        | fail)
      go_ret
      exact ⟨by rw [E.out]; rfl, HB2.out⟩
  · have hi' : decide (xs = ys) = false := decide_eq_false hi
    have E : Aside0 (sameX a b c im xs a' b' c' im' ys = false) := ⟨by simp [sameX, hi]⟩
    clear hi
    go_wp2_with (first
        | (go_at_call 43; refine (sameItems_calls A B n m cp cq xs ys _ HX.out HY.out hnl hml).mono ?_; rw [hi']; rintro e w2 ⟨rfl, hB⟩; have HB2 := Aside0.mk (below_tr HB.out hB HB.out.size); have G1 := Aside0.mk (blk_below hB F1.out); have G2 := Aside0.mk (blk_below hB F2.out); clear hB)
        | fail)
    go_ret
    exact ⟨by rw [E.out]; rfl, HB2.out⟩
end Go.Proofs.YtdfahblgnbdndaaDoor
