/- Rows of digests; lighterageref11.SameNames. Conditions: bounded rows. -/
import Derived.Test.YtnkkjmbpopodlaaG2
namespace Go.Proofs.Ytnkkjmbpopodlaa
open Go.RowKit Go.Proofs.YtnkkjmbpopodlaaW.PrintWords Go.Proofs.YtnkkjmbpopodlaaW.PrintMore
set_option linter.unusedVariables false
set_option linter.unusedSimpArgs false
theorem Nm_len32 {x : List Int} (h : x.length = 32) : (Nm x).length = 32 := by rw [Nm_len]; exact h
/-- Digests, 32 cells each. -/
abbrev KDg : Kd (List Int) := Kf 32 (fun x => x.length = 32) Nm (fun _ h => Nm_len32 h) Nm_one
abbrev OwD (w : World) (base : Nat) (v : Value) (xs : List (List Int)) : Prop := KDg.R 51 w base (fun _ => True) v xs
abbrev RdD (w : World) (A : Option Addr) (n : Nat) (xs : List (List Int)) : Prop := KDg.C w A n xs
theorem dg_neq {w : World} {nm nm' : List Int} (hn : nm.length = 32) (hn' : nm'.length = 32) :
    (binOp .neq 51 (.agg (Nm nm).toArray) (.agg (Nm nm').toArray)).run Try.prog w = .ok (.bool (!decide (nm = nm'))) w := by
  rw [run_neq_struct, digest_eq (d := 9998) hn hn']; rfl
theorem rdD_take {xs ys : List (List Int)} {k : Nat} (h : xs.take k = ys.take k) (hx : k < xs.length) (hy : k < ys.length) (he : xs.getD k [] = ys.getD k []) : xs.take (k + 1) = ys.take (k + 1) := by
  rw [List.take_add_one, List.take_add_one, h]
  rw [List.getD_eq_getElem?_getD, List.getD_eq_getElem?_getD, List.getElem?_eq_getElem hx, List.getElem?_eq_getElem hy] at he
  simp only [Option.getD_some] at he
  rw [List.getElem?_eq_getElem hx, List.getElem?_eq_getElem hy, he]
set_option maxRecDepth 20000 in
set_option maxHeartbeats 1600000 in
theorem sameNames_calls (A B : Option Addr) (n m c d : Nat) (xs ys : List (List Int)) (w : World) (hx : RdD w A n xs) (hy : RdD w B m ys) (hn : n ≤ 1099511627776) (hm : m ≤ 1099511627776) :
    Calls Try.prog 7 #[.slice A n c, .slice B m d] w fun e w' => e = .returned (.bool (decide (xs = ys))) ∧ Below w.heap.size w w' := by
  have HX := Aside0.mk hx
  have HY := Aside0.mk hy
  have hgd : Try.prog.eqGuardType Try.prog.depth 51 = false := by kernel_rfl
  have HGD := Aside0.mk hgd
  clear hx hy hgd
  by_cases hnm : n = m
  · subst hnm
    go_enter Try.func7, Try.ntmps7
    go_wp2
    go_loopw [5] (fun i wr => ∃ k : Nat, k ≤ n ∧ i = .int .i64 k ∧ xs.take k = ys.take k ∧ Below w.heap.size w wr) (fun i _ => n - (intOf i).toNat)
    case atStart => exact ⟨0, Nat.zero_le _, rfl, rfl, Below.refl _ _⟩
    case round =>
      obtain ⟨k, hk, rfl, hT, hB⟩ := hrel
      have HB := Aside0.mk hB
      have HT := Aside0.mk hT
      clear hB hT
      by_cases hlt : k < n
      · obtain ⟨ad, rfl, hx32, hxc⟩ := kf_at HX.out [] k hlt
        obtain ⟨bd, rfl, hy32, hyc⟩ := kf_at HY.out [] k hlt
        have HXC := Aside0.mk hxc
        have HYC := Aside0.mk hyc
        have HTK : Aside0 (xs.getD k [] = ys.getD k [] → xs.take (k + 1) = ys.take (k + 1)) := ⟨rdD_take HT.out (by have := HX.out.1; omega) (by have := HY.out.1; omega)⟩
        have HNE : Aside0 (xs.getD k [] ≠ ys.getD k [] → xs ≠ ys) := ⟨fun h e => h (by rw [e])⟩
        generalize xs.getD k [] = X at *
        generalize ys.getD k [] = Y at *
        have HX32 := Aside0.mk hx32
        have HY32 := Aside0.mk hy32
        clear hxc hyc hx32 hy32
        go_wp2_with fail
        refine seq_startN [] (.take 0 (.take 1 (.take 2 (.take 3 (.take 4 (.take 5 (.take 6 (.take 7 (.take 8 .done))))))))) (by kernel_rfl) (by kernel_rfl) ?_
        refine seq_take (v := ?_) (a' := ?_) rfl rfl (by rfl) (fun w' hw' => ?_) ?_ ?_
        rotate_left 2
        · go_simp
          with_reducible rfl
        · simp only [Act.put, List.setIfInBounds_toArray, List.set_cons_zero, List.set_cons_succ, Go.Proofs.YtnkkjmbpopodlaaW.PrintLast.i64_w, Go.Proofs.YtnkkjmbpopodlaaW.PrintLast.i32_w]
          rfl
        refine seq_take (v := ?_) (a' := ?_) rfl rfl (by rfl) (fun w' hw' => ?_) ?_ ?_
        rotate_left 2
        · go_simp
          with_reducible rfl
        · simp only [Act.put, List.setIfInBounds_toArray, List.set_cons_zero, List.set_cons_succ, Go.Proofs.YtnkkjmbpopodlaaW.PrintLast.i64_w, Go.Proofs.YtnkkjmbpopodlaaW.PrintLast.i32_w]
          rfl
        refine seq_take (v := ?_) (a' := ?_) rfl rfl (by rfl) (fun w' hw' => ?_) ?_ ?_
        rotate_left 2
        · go_simp
          with_reducible rfl
        · simp only [Act.put, List.setIfInBounds_toArray, List.set_cons_zero, List.set_cons_succ, Go.Proofs.YtnkkjmbpopodlaaW.PrintLast.i64_w, Go.Proofs.YtnkkjmbpopodlaaW.PrintLast.i32_w]
          rfl
        refine seq_take (v := _) (a' := ?_) rfl rfl (by rfl) (fun w' hw' => load_run rfl rfl (ld_elem (fun j u h => pw_cell_below hw' (show wr.drew.cell? _ = _ from pw_cell_below HB.out (HXC.out j u h))) 51 _ Try.underlying51 rfl (size_d _ HX32.out))) ?_ ?_
        rotate_left
        · simp only [Act.put, List.setIfInBounds_toArray, List.set_cons_zero, List.set_cons_succ, Go.Proofs.YtnkkjmbpopodlaaW.PrintLast.i64_w, Go.Proofs.YtnkkjmbpopodlaaW.PrintLast.i32_w]
          rfl
        refine seq_take (v := ?_) (a' := ?_) rfl rfl (by rfl) (fun w' hw' => ?_) ?_ ?_
        rotate_left 2
        · go_simp
          with_reducible rfl
        · simp only [Act.put, List.setIfInBounds_toArray, List.set_cons_zero, List.set_cons_succ, Go.Proofs.YtnkkjmbpopodlaaW.PrintLast.i64_w, Go.Proofs.YtnkkjmbpopodlaaW.PrintLast.i32_w]
          rfl
        refine seq_take (v := ?_) (a' := ?_) rfl rfl (by rfl) (fun w' hw' => ?_) ?_ ?_
        rotate_left 2
        · go_simp
          with_reducible rfl
        · simp only [Act.put, List.setIfInBounds_toArray, List.set_cons_zero, List.set_cons_succ, Go.Proofs.YtnkkjmbpopodlaaW.PrintLast.i64_w, Go.Proofs.YtnkkjmbpopodlaaW.PrintLast.i32_w]
          rfl
        refine seq_take (v := ?_) (a' := ?_) rfl rfl (by rfl) (fun w' hw' => ?_) ?_ ?_
        rotate_left 2
        · go_simp
          with_reducible rfl
        · simp only [Act.put, List.setIfInBounds_toArray, List.set_cons_zero, List.set_cons_succ, Go.Proofs.YtnkkjmbpopodlaaW.PrintLast.i64_w, Go.Proofs.YtnkkjmbpopodlaaW.PrintLast.i32_w]
          rfl
        refine seq_take (v := _) (a' := ?_) rfl rfl (by rfl) (fun w' hw' => load_run rfl rfl (ld_elem (fun j u h => pw_cell_below hw' (show wr.drew.cell? _ = _ from pw_cell_below HB.out (HYC.out j u h))) 51 _ Try.underlying51 rfl (size_d _ HY32.out))) ?_ ?_
        rotate_left
        · simp only [Act.put, List.setIfInBounds_toArray, List.set_cons_zero, List.set_cons_succ, Go.Proofs.YtnkkjmbpopodlaaW.PrintLast.i64_w, Go.Proofs.YtnkkjmbpopodlaaW.PrintLast.i32_w]
          rfl
        refine seq_take (v := _) (a' := ?_) rfl rfl (by rfl) (fun w' hw' => bin_run .neq 51 (.tmp 20) (.tmp 24) 51 rfl (p := .agg (Nm X).toArray) (q := .agg (Nm Y).toArray) rfl rfl (run_eqGuard_agg _ .neq _ _ _ _ _ HGD.out) (dg_neq HX32.out HY32.out)) ?_ ?_
        rotate_left
        · simp only [Act.put, List.setIfInBounds_toArray, List.set_cons_zero, List.set_cons_succ, Go.Proofs.YtnkkjmbpopodlaaW.PrintLast.i64_w, Go.Proofs.YtnkkjmbpopodlaaW.PrintLast.i32_w]
          rfl
        refine seq_endN ?_
        have HD : Aside0 (Below w.heap.size w wr.drew) := ⟨Below.drew HB.out⟩
        by_cases he : X = Y
        · have HT2 := Aside0.mk (HTK.out he)
          rw [show (!decide (X = Y)) = false by simp [he]]
          clear he
          go_wp2
          go_roundw
          case rel => exact ⟨k + 1, by omega, by go_num, HT2.out, HD.out⟩
          case measure => simp [intOf]; omega
        · have HN := Aside0.mk (HNE.out he)
          rw [show (!decide (X = Y)) = true by simp [he]]
          clear he
          go_wp2
          go_ret
          exact ⟨by rw [decide_eq_false HN.out]; rfl, HD.out⟩
      · obtain rfl : k = n := by omega
        have HE : Aside0 (xs = ys) := ⟨by
          have h := HT.out
          rwa [List.take_of_length_le (by have := HX.out.1; omega), List.take_of_length_le (by have := HY.out.1; omega)] at h⟩
        go_wp2
        go_ret
        exact ⟨by rw [decide_eq_true HE.out]; rfl, HB.out⟩
  · have HN : Aside0 (xs ≠ ys) := ⟨fun e => hnm (by have h1 := HX.out.1; have h2 := HY.out.1; rw [e] at h1; omega)⟩
    have h1 : ((n : Int) == (m : Int)) = false := by rw [beq_eq_false_iff_ne]; omega
    go_enter Try.func7, Try.ntmps7
    go_wp2
    go_ret
    exact ⟨by rw [decide_eq_false HN.out]; rfl, Below.refl _ _⟩
end Go.Proofs.Ytnkkjmbpopodlaa
