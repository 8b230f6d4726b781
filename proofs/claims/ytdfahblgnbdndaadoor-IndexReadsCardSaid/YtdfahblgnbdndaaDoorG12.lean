/- Plain lemmas and contracts, several texts in one: IdxA, Idx7. Conditions: their own. -/
import Derived.Test.YtdfahblgnbdndaaDoorG11
import Derived.Test.YtdfahblgnbdndaaDoorRef03
namespace Go.Proofs.YtdfahblgnbdndaaDoor
open Go.RowKit Go.Shelf Go.Proofs.YtdfahblgnbdndaaDoorW.PrintWords Go.Proofs.YtdfahblgnbdndaaDoorW.PrintMore
set_option linter.unusedVariables false
set_option linter.unusedSimpArgs false
theorem Xc_set (a b c : Int) (im : List Int) (v u : Value) (h : im.length = 32) : (Xc a b c im v).toArray.setIfInBounds 35 u = (Xc a b c im u).toArray := by
  rw [List.setIfInBounds_toArray]
  congr 1
  show Value.int .i64 a :: Value.int .i64 b :: Value.int .i64 c :: ((Nm im ++ [v]).set 32 u) = _
  rw [List.set_append_right _ _ (by rw [Nm_len]; omega), Nm_len, h]
  rfl
section
variable {α : Type} {sz : Nat} {p : α → Prop} {enc : α → List Value} {hl : ∀ x, p x → (enc x).length = sz} {h1 : ∀ x, ∀ v ∈ enc x, v.oneCell' = true}
end
section
variable {ops : Array Oper} {rest : List Oper} {o : Oper} {a : Act} {Q : Exit → Act → World → Prop}
end
set_option maxRecDepth 20000 in
theorem xof_calls (a b c : Int) (im : List Int) (A : Option Addr) (n cp : Nat) (C : Array Value) (w : World) (hC : C = (Xc a b c im (.slice A n cp)).toArray) (hn : im.length = 32) :
    Calls Tryd.prog 18 #[.agg C] w fun e w' => e = .returned (.agg C) ∧ Below w.heap.size w w' := by
  subst hC
  obtain ⟨w1, hw1⟩ : ∃ w1, w1 = (w.alloc (.cells (Xc a b c im (.slice A n cp)).toArray 38)).alloc (.cells (Xc 0 0 0 Z32 (.slice none 0 0)).toArray 29) := ⟨_, rfl⟩
  have F1 : Aside0 (w1.heap[w.heap.size]? = some (.cells (Xc a b c im (.slice A n cp)).toArray 38 (0, 0))) := ⟨by rw [hw1]; exact heap_alloc2_old w _ _⟩
  have F2 : Aside0 (w1.heap[w.heap.size + 1]? = some (.cells (Xc 0 0 0 Z32 (.slice none 0 0)).toArray 29 (0, 0))) := ⟨by rw [hw1]; exact heap_alloc2_new w _ _⟩
  have L1 : Aside0 (Below w.heap.size w w1) := ⟨by rw [hw1]; exact ((Below.refl _ _).alloc (Nat.le_refl _) _).alloc (by simp) _⟩
  obtain ⟨q0, q1, q2, q3, _⟩ := x_cells F1.out hn
  go_enter Tryd.func18, Tryd.ntmps18
  go_upto_region 1 with fail
  refine at_w1 (w := w1) hw1 ?_
  clear hw1
  go_wp2_with (first
    | ((with_reducible refine at_ld (w := w1) 24 (.tmp 3) ?_); refine load_arm rfl 24 (.tmp 3) rfl rfl (x_params F1.out) ?_; simp only [Act.put, List.setIfInBounds_toArray, List.set_cons_zero, List.set_cons_succ])
    | ((with_reducible refine at_ld (w := w1) 26 (.tmp 5) ?_); refine load_arm rfl 26 (.tmp 5) rfl rfl (x_dig F1.out hn) ?_; simp only [Act.put, List.setIfInBounds_toArray, List.set_cons_zero, List.set_cons_succ])
    | ((with_reducible refine at_bd 29 ?_); refine build_arm rfl 29 _ rfl (built_x3 a b c im A n cp hn) ?_; simp only [Act.put, List.setIfInBounds_toArray, List.set_cons_zero, List.set_cons_succ])
    | ((with_reducible refine at_st 29 (.tmp 2) (.tmp 9) ?_); refine store_blk rfl 29 (.tmp 2) (.tmp 9) rfl rfl rfl F2.out (by rw [Xc_len hn]; exact Xc_len Z32_len) (size_X hn) (Xc_one rfl) ?_; rintro w2 HS2)
    | fail)
  (try simp only [Exit.inBlock, Exit.then])
  exact bodyPost_ret (v := .agg _) (results_cell1 rfl _ _ (w.heap.size + 1) _ _ _ _ rfl HS2.at_ Tryd.underlying29 rfl (by rw [List.size_toArray]; exact size_X hn)) rfl ⟨rfl, L1.out.trans (HS2.below (by omega))⟩
set_option maxRecDepth 20000 in
theorem xas_calls (a b c : Int) (im : List Int) (A : Option Addr) (n cp : Nat) (C : Array Value) (w : World) (hC : C = (Xc a b c im (.slice A n cp)).toArray) (hn : im.length = 32) :
    Calls Tryd.prog 25 #[.agg C] w fun e w' => e = .returned (.agg C) ∧ Below w.heap.size w w' := by
  subst hC
  obtain ⟨w1, hw1⟩ : ∃ w1, w1 = (w.alloc (.cells (Xc a b c im (.slice A n cp)).toArray 29)).alloc (.cells (Xc 0 0 0 Z32 (.slice none 0 0)).toArray 38) := ⟨_, rfl⟩
  have F1 : Aside0 (w1.heap[w.heap.size]? = some (.cells (Xc a b c im (.slice A n cp)).toArray 29 (0, 0))) := ⟨by rw [hw1]; exact heap_alloc2_old w _ _⟩
  have F2 : Aside0 (w1.heap[w.heap.size + 1]? = some (.cells (Xc 0 0 0 Z32 (.slice none 0 0)).toArray 38 (0, 0))) := ⟨by rw [hw1]; exact heap_alloc2_new w _ _⟩
  have L1 : Aside0 (Below w.heap.size w w1) := ⟨by rw [hw1]; exact ((Below.refl _ _).alloc (Nat.le_refl _) _).alloc (by simp) _⟩
  obtain ⟨q0, q1, q2, q3, _⟩ := x_cells F1.out hn
  go_enter Tryd.func25, Tryd.ntmps25
  go_upto_region 1 with fail
  refine at_w1 (w := w1) hw1 ?_
  clear hw1
  go_wp2_with (first
    | ((with_reducible refine at_ld (w := w1) 24 (.tmp 3) ?_); refine load_arm rfl 24 (.tmp 3) rfl rfl (x_params F1.out) ?_; simp only [Act.put, List.setIfInBounds_toArray, List.set_cons_zero, List.set_cons_succ])
    | ((with_reducible refine at_ld (w := w1) 26 (.tmp 5) ?_); refine load_arm rfl 26 (.tmp 5) rfl rfl (x_dig F1.out hn) ?_; simp only [Act.put, List.setIfInBounds_toArray, List.set_cons_zero, List.set_cons_succ])
    | ((with_reducible refine at_bd 38 ?_); refine build_arm rfl 38 _ rfl (built_rx3 a b c im A n cp hn) ?_; simp only [Act.put, List.setIfInBounds_toArray, List.set_cons_zero, List.set_cons_succ])
    | ((with_reducible refine at_st 38 (.tmp 2) (.tmp 9) ?_); refine store_blk rfl 38 (.tmp 2) (.tmp 9) rfl rfl rfl F2.out (by rw [Xc_len hn]; exact Xc_len Z32_len) (size_RX hn) (Xc_one rfl) ?_; rintro w2 HS2)
    | fail)
  (try simp only [Exit.inBlock, Exit.then])
  exact bodyPost_ret (v := .agg _) (results_cell1 rfl _ _ (w.heap.size + 1) _ _ _ _ rfl HS2.at_ Tryd.underlying38 rfl (by rw [List.size_toArray]; exact size_RX hn)) rfl ⟨rfl, L1.out.trans (HS2.below (by omega))⟩
/-- The items of an index that may be, made of any. -/
def goodIts (a c : Nat) (its : List Itm) : List Itm := (its.take 6).map fun x => (x.1, (a : Int) + around x.2 ((c : Int) - (a : Int) + 1))
theorem goodIts_len (a c : Nat) (its : List Itm) : (goodIts a c its).length = min 6 its.length := by simp [goodIts]
theorem goodIts_take {a c : Nat} {its : List Itm} {k : Nat} (h : k < its.length) (h6 : k < 6) : goodIts a c (its.take (k + 1)) = goodIts a c (its.take k) ++ [((its.getD k ([], 0)).1, (a : Int) + around (its.getD k ([], 0)).2 ((c : Int) - (a : Int) + 1))] := by
  unfold goodIts
  have e : its.take (k + 1) = its.take k ++ [its.getD k ([], 0)] := by
    rw [List.take_add_one, List.getD_eq_getElem?_getD, List.getElem?_eq_getElem h]; rfl
  rw [List.take_take, List.take_take, Nat.min_eq_right (by omega), Nat.min_eq_right (by omega), e, List.map_append]
  rfl
theorem goodIts_min (a c : Nat) (its : List Itm) : goodIts a c (its.take (min its.length 6)) = goodIts a c its := by
  unfold goodIts
  rcases Nat.le_total its.length 6 with h | h
  · rw [Nat.min_eq_left h, List.take_length]
  · rw [Nat.min_eq_right h, List.take_take, Nat.min_self]
theorem goodIts_all {a c : Nat} (hac : a ≤ c) {its : List Itm} : ∀ x ∈ goodIts a c its, (∃ y ∈ its, x.1 = y.1) ∧ (a : Int) ≤ x.2 ∧ x.2 ≤ c := by
  intro x hx
  obtain ⟨y, hy, rfl⟩ := List.mem_map.1 hx
  have := around_range y.2 ((c : Int) - (a : Int) + 1) (by omega)
  exact ⟨⟨y, List.mem_of_mem_take hy, rfl⟩, by dsimp only; omega, by dsimp only; omega⟩
theorem mayX_good {a b c : Nat} (h : mayB a b c = true) (hc : c ≤ 70) (its : List Itm) : mayX a b c (goodIts a c its) = true := by
  obtain ⟨_, _, _, ea, eb, ec, m1, m2, m3, m4⟩ := mayB_nat h
  have hall : ∀ k, k < (goodIts a c its).length → (a : Int) ≤ sz (goodIts a c its) k ∧ sz (goodIts a c its) k ≤ c := fun k hk => by
    have := goodIts_all (a := a) (c := c) (by omega) (its := its) ((goodIts a c its).getD k ([], 0)) (by rw [List.getD_eq_getElem?_getD, List.getElem?_eq_getElem hk]; exact List.getElem_mem _)
    exact this.2
  have hok : allOk a c (goodIts a c its) (goodIts a c its).length := fun k hk => by
    have := hall k hk
    unfold okI
    omega
  have hl := goodIts_len a c its
  rw [mayX_end h (by omega) hok]
  have := tot_bound (its := goodIts a c its) (a := a) (c := c) (by omega) _ (Nat.le_refl _) hok
  rw [List.take_length] at this
  simp
  omega
set_option maxRecDepth 20000 in
set_option maxHeartbeats 800000 in
theorem rgood_calls (a b c : Int) (im : List Int) (A : Option Addr) (n cp : Nat) (its : List Itm) (C : Array Value) (w : World) (a0 b0 c0 : Nat) (hC : C = (Xc a b c im (.slice A n cp)).toArray) (hn : im.length = 32) (h : RdI w A n its) (hg : ∀ w : World, Calls Tryd.prog 23 #[.agg #[.int .i64 a, .int .i64 b, .int .i64 c]] w fun e w' => e = .returned (.agg #[.int .i64 (a0 : Int), .int .i64 (b0 : Int), .int .i64 (c0 : Int)]) ∧ Below w.heap.size w w') (hm : mayB a0 b0 c0 = true) (hc0 : c0 ≤ 70) (hsz : ∀ x ∈ its, -9223372036854775808 ≤ x.2 ∧ x.2 ≤ 9223372036854775807) :
    Calls Tryd.prog 14 #[.agg C] w fun e w' => ∃ v, e = .returned (.agg (Xc a0 b0 c0 im v).toArray) ∧ OwI w' w.heap.size v (goodIts a0 c0 its) ∧ Below w.heap.size w w' := by
  subst hC
  obtain rfl : its.length = n := h.1
  have HX := Aside0.mk h
  have HG := Aside0.mk hg
  have HSZ := Aside0.mk hsz
  obtain ⟨_, _, _, ea, eb, ec, m1, m2, m3, m4⟩ := mayB_nat hm
  obtain rfl := Int.ofNat.inj ea
  obtain rfl := Int.ofNat.inj eb
  obtain rfl := Int.ofNat.inj ec
  clear h hg hm hsz ea eb ec
  obtain ⟨w1, hw1⟩ : ∃ w1, w1 = (w.alloc (.cells (Xc a b c im (.slice A its.length cp)).toArray 38)).alloc (.cells (Xc 0 0 0 Z32 (.slice none 0 0)).toArray 38) := ⟨_, rfl⟩
  have F1 : Aside0 (w1.heap[w.heap.size]? = some (.cells (Xc a b c im (.slice A its.length cp)).toArray 38 (0, 0))) := ⟨by rw [hw1]; exact heap_alloc2_old w _ _⟩
  have F2 : Aside0 (w1.heap[w.heap.size + 1]? = some (.cells (Xc 0 0 0 Z32 (.slice none 0 0)).toArray 38 (0, 0))) := ⟨by rw [hw1]; exact heap_alloc2_new w _ _⟩
  have L1 : Aside0 (Below w.heap.size w w1) := ⟨by rw [hw1]; exact ((Below.refl _ _).alloc (Nat.le_refl _) _).alloc (by simp) _⟩
  go_enter Tryd.func14, Tryd.ntmps14
  go_upto_region 1 with fail
  refine at_w1 (w := w1) hw1 ?_
  clear hw1
  go_cut [3] (fun q w' => ∃ g3, q = .pointer (some ⟨g3, 0, none⟩) ∧ w1.heap.size ≤ g3 ∧ w'.heap[g3]? = some (.cells (Xc a0 b0 c0 im (.slice none 0 0)).toArray 38 (0, 0)) ∧ Below w1.heap.size w1 w')
  case first =>
    refine seq_startN [7] (.take 0 (.take 1 (.take 3 (.take 4 (.fork 2 6 (.take 5 (.run 6 (.run 7 .done))) (.run 2 (.take 5 (.run 7 .done)))))))) (by kernel_rfl) (by kernel_rfl) ?_
    refine seq_take (v := ?_) (a' := ?_) rfl rfl (by rfl) (fun w' hw' => ?_) ?_ ?_
    rotate_left 2
    · go_simp
      with_reducible rfl
    · simp only [Act.put, List.setIfInBounds_toArray, List.set_cons_zero, List.set_cons_succ, Go.Proofs.YtdfahblgnbdndaaDoorW.PrintLast.i64_w, Go.Proofs.YtdfahblgnbdndaaDoorW.PrintLast.i32_w]
      rfl
    refine seq_take (v := _) (a' := ?_) rfl rfl (by rfl) (fun w' hw' => load_run rfl rfl (x_params (Later.heap hw' (show w1.drew.heap[w.heap.size]? = _ from F1.out)))) ?_ ?_
    rotate_left
    · simp only [Act.put, List.setIfInBounds_toArray, List.set_cons_zero, List.set_cons_succ, Go.Proofs.YtdfahblgnbdndaaDoorW.PrintLast.i64_w, Go.Proofs.YtdfahblgnbdndaaDoorW.PrintLast.i32_w]
      rfl
    refine seq_take (v := ?_) (a' := ?_) rfl rfl (by rfl) (fun w' hw' => ?_) ?_ ?_
    rotate_left 2
    · go_simp
      with_reducible rfl
    · simp only [Act.put, List.setIfInBounds_toArray, List.set_cons_zero, List.set_cons_succ, Go.Proofs.YtdfahblgnbdndaaDoorW.PrintLast.i64_w, Go.Proofs.YtdfahblgnbdndaaDoorW.PrintLast.i32_w]
      rfl
    refine seq_take (v := _) (a' := ?_) rfl rfl (by rfl) (fun w' hw' => load_run rfl rfl (x_dig (Later.heap hw' (show w1.drew.heap[w.heap.size]? = _ from F1.out)) hn)) ?_ ?_
    rotate_left
    · simp only [Act.put, List.setIfInBounds_toArray, List.set_cons_zero, List.set_cons_succ, Go.Proofs.YtdfahblgnbdndaaDoorW.PrintLast.i64_w, Go.Proofs.YtdfahblgnbdndaaDoorW.PrintLast.i32_w]
      rfl
    refine seq_fork ?_ ?_
    · refine do_call rfl rfl (by rfl) rfl Tryd.func23 (by kernel_rfl) rfl #[.agg #[.int .i64 a, .int .i64 b, .int .i64 c]] (by simp only [List.map_toArray, List.map_cons, List.map_nil]; rfl) ?_
      with_reducible refine (HG.out w1.drew).mono ?_
      rintro e w2 ⟨rfl, hB2⟩
      refine ⟨_, ?_, rfl, ?_, fun _ => hB2, ?_⟩
      rotate_left
      · simp only [Act.put, List.setIfInBounds_toArray, List.set_cons_zero, List.set_cons_succ, Go.Proofs.YtdfahblgnbdndaaDoorW.PrintLast.i64_w, Go.Proofs.YtdfahblgnbdndaaDoorW.PrintLast.i32_w]
        rfl
      have HB2 : Aside0 (Below w1.heap.size w1 w2) := ⟨(Below.drew (Below.refl w1.heap.size w1)).trans hB2⟩
      clear hB2
      refine seq_take (v := _) (a' := ?_) rfl rfl (by rfl) (fun w' hw' => build_run 38 #[(0, .tmp 7), (1, .tmp 9)] rfl (built_rx2 a0 b0 c0 im hn)) ?_ ?_
      rotate_left
      · simp only [Act.put, List.setIfInBounds_toArray, List.set_cons_zero, List.set_cons_succ, Go.Proofs.YtdfahblgnbdndaaDoorW.PrintLast.i64_w, Go.Proofs.YtdfahblgnbdndaaDoorW.PrintLast.i32_w]
        rfl
      refine seq_run ?_
      refine do_val (v := ?_) (a' := ?_) (w1 := ?_) rfl rfl (by rfl) ?_ ?_ ?_
      rotate_left 3
      · go_simp
        constructor <;> rfl
      · simp only [Act.put, List.setIfInBounds_toArray, List.set_cons_zero, List.set_cons_succ, Go.Proofs.YtdfahblgnbdndaaDoorW.PrintLast.i64_w, Go.Proofs.YtdfahblgnbdndaaDoorW.PrintLast.i32_w]
        rfl
      refine ⟨fun _ => below_alloc (Below.refl _ _) _, ?_⟩
      refine seq_run ?_
      refine do_blk rfl rfl (by rfl) 38 (.tmp 3) (.tmp 10) rfl rfl rfl (blk_new _ _) (by rw [Xc_len hn]; rfl) (size_RX hn) (Xc_one rfl) ?_
      rintro w4 HS4
      refine ⟨fun h => absurd (by simp) h, ?_⟩
      refine seq_endN ?_
      go_wp2
      go_meet
      case rel => exact ⟨_, rfl, HB2.out.size, HS4.at_, (below_alloc HB2.out _).trans (HS4.below HB2.out.size)⟩
    · refine do_val (v := ?_) (a' := ?_) (w1 := ?_) rfl rfl (by rfl) ?_ ?_ ?_
      rotate_left 3
      · go_simp
        constructor <;> rfl
      · simp only [Act.put, List.setIfInBounds_toArray, List.set_cons_zero, List.set_cons_succ, Go.Proofs.YtdfahblgnbdndaaDoorW.PrintLast.i64_w, Go.Proofs.YtdfahblgnbdndaaDoorW.PrintLast.i32_w]
        rfl
      refine ⟨fun _ => below_alloc (Below.refl _ _) _, ?_⟩
      refine seq_run ?_
      refine do_call rfl rfl (by rfl) rfl Tryd.func23 (by kernel_rfl) rfl #[.agg #[.int .i64 a, .int .i64 b, .int .i64 c]] (by simp only [List.map_toArray, List.map_cons, List.map_nil]; rfl) ?_
      with_reducible refine (HG.out _).mono ?_
      rintro e w2 ⟨rfl, hB2⟩
      refine ⟨_, ?_, rfl, ?_, fun _ => hB2, ?_⟩
      rotate_left
      · simp only [Act.put, List.setIfInBounds_toArray, List.set_cons_zero, List.set_cons_succ, Go.Proofs.YtdfahblgnbdndaaDoorW.PrintLast.i64_w, Go.Proofs.YtdfahblgnbdndaaDoorW.PrintLast.i32_w]
        rfl
      have HB2 := Aside0.mk hB2
      clear hB2
      refine seq_take (v := _) (a' := ?_) rfl rfl (by rfl) (fun w' hw' => build_run 38 #[(0, .tmp 7), (1, .tmp 9)] rfl (built_rx2 a0 b0 c0 im hn)) ?_ ?_
      rotate_left
      · simp only [Act.put, List.setIfInBounds_toArray, List.set_cons_zero, List.set_cons_succ, Go.Proofs.YtdfahblgnbdndaaDoorW.PrintLast.i64_w, Go.Proofs.YtdfahblgnbdndaaDoorW.PrintLast.i32_w]
        rfl
      refine seq_run ?_
      refine do_blk rfl rfl (by rfl) 38 (.tmp 3) (.tmp 10) rfl rfl rfl (Later.heap HB2.out (blk_new _ _)) (by rw [Xc_len hn]; rfl) (size_RX hn) (Xc_one rfl) ?_
      rintro w4 HS4
      refine ⟨fun h => absurd (by simp) h, ?_⟩
      refine seq_endN ?_
      have hb4 := (Below.trans (below_alloc (Below.drew (Below.refl w1.heap.size w1)) _) (HB2.out.mono (by simp))).trans (HS4.below (Nat.le_refl _))
      go_wp2
      go_meet
      case rel => exact ⟨_, rfl, Nat.le_refl _, HS4.at_, hb4⟩
  case rest =>
    obtain ⟨g3, rfl, hg3, hG3, hBC⟩ := hcut
    have HG3 := Aside0.mk hG3
    have HBC := Aside0.mk hBC
    have hF12 : w.heap.size + 1 < w1.heap.size := blk_lt F2.out
    clear hG3 hBC
    go_wp2
    go_loopw [4] (fun i wr => ∃ (k : Nat) (v : Value), k ≤ its.length ∧ k ≤ 6 ∧ i = .int .i64 k ∧ wr.heap[g3]? = some (.cells (Xc a0 b0 c0 im v).toArray 38 (0, 0)) ∧ OwI wr w1.heap.size v (goodIts a0 c0 (its.take k)) ∧ Below w1.heap.size w1 wr) (fun i _ => its.length - (intOf i).toNat)
    case atStart => exact ⟨0, _, Nat.zero_le _, by omega, rfl, HG3.out, Kd.R_nil _ _ _ _ _, HBC.out⟩
    case round =>
      obtain ⟨k, v, hk, hk6, rfl, hG, hO, hB⟩ := hrel
      have HGR := Aside0.mk hG
      have HB := Aside0.mk hB
      obtain ⟨VA, vc, rfl, -, -⟩ := Kd.R_reads hO
      have HO := Aside0.mk hO
      clear hG hO hB
      have HF1 := Aside0.mk (Later.heap HB.out F1.out)
      by_cases hlt : k < its.length ∧ k < 6
      · obtain ⟨hlt, hlt6⟩ := hlt
        have hltI : (k : Int) < (its.length : Int) := by omega
        have hlt6I : (k : Int) < 6 := by omega
        obtain ⟨ad, rfl, hx32, hxc⟩ := kf_at (Kd.C_below HX.out (below_tr L1.out HB.out L1.out.size)) ([], 0) k hlt
        have HXC := Aside0.mk hxc
        have HX32 := Aside0.mk hx32
        have HT := Aside0.mk (goodIts_take (a := a0) (c := c0) hlt hlt6)
        have hsb := HSZ.out (its.getD k ([], 0)) (by rw [List.getD_eq_getElem?_getD, List.getElem?_eq_getElem hlt]; exact List.getElem_mem _)
        generalize its.getD k ([], 0) = X at *
        obtain ⟨nm, s⟩ := X
        dsimp only at hsb HT
        have HNL : Aside0 (nm.length = 32) := ⟨HX32.out⟩
        have HAR := Aside0.mk (fun (w : World) => around_calls s ((c0 : Int) - (a0 : Int) + 1) w hsb.1 hsb.2 (by omega) (by omega))
        have hyr := around_range s ((c0 : Int) - (a0 : Int) + 1) (by omega)
        obtain ⟨y, hy⟩ : ∃ y, around s ((c0 : Int) - (a0 : Int) + 1) = y := ⟨_, rfl⟩
        rw [hy] at HT HAR hyr
        obtain ⟨R, hR⟩ : ∃ R, goodIts a0 c0 (its.take k) = R := ⟨_, rfl⟩
        rw [hR] at HT HO HGR
        have hRl : R.length ≤ 6 := by rw [← hR, goodIts_len, List.length_take]; omega
        have HALLC : Aside0 (∀ W, Later wr.drew W → W.cell? ⟨g3, 35, none⟩ = some (.slice VA R.length vc) ∧ W.cell? ⟨g3, 0, none⟩ = some (.int .i64 (a0 : Int)) ∧ W.cell? ⟨g3, 2, none⟩ = some (.int .i64 (c0 : Int)) ∧ W.cell? ⟨w.heap.size, 35, none⟩ = some (.slice (some ad) its.length cp) ∧ W.cell? ⟨(ad.add (k * 33)).block, (ad.add (k * 33)).off + 32, none⟩ = some (.int .i64 s)) := ⟨fun W hW => by
          have hW2 : Below wr.heap.size wr W := (Below.drew (Below.refl wr.heap.size wr)).trans hW
          obtain ⟨r0, r1, r2, r3, _⟩ := x_cells (Later.heap hW2 HGR.out) hn
          obtain ⟨t0, t1, t2, t3, _⟩ := x_cells (Later.heap hW2 HF1.out) hn
          exact ⟨r3, r0, r2, t3, pw_cell_below hW2 (elem_size HX32.out HXC.out)⟩⟩
        have HNM : Aside0 (∀ W, Later wr.drew W → (Instr.loadAt 26 (.pointer (some (ad.add (k * 33))))).run Tryd.prog W = .ok (.agg (Nm nm).toArray) W) := ⟨fun W hW => by
          have hW2 : Below wr.heap.size wr W := (Below.drew (Below.refl wr.heap.size wr)).trans hW
          exact ld_elem (fun j u hu => pw_cell_below hW2 (HXC.out j u (ic_name HX32.out j u hu))) 26 _ Tryd.underlying26 rfl (size_d nm HNL.out)⟩
        have ht35 : wr.cell? ⟨w.heap.size, 35, none⟩ = some (.slice (some ad) its.length cp) := (x_cells HF1.out hn).2.2.2.1
        have HW1 : Aside0 (IntKind.i64.wrap ((c0 : Int) - (a0 : Int)) = (c0 : Int) - (a0 : Int)) := ⟨by rw [IntKind.wrap_i64]; omega⟩
        have HW2 : Aside0 (IntKind.i64.wrap ((c0 : Int) - (a0 : Int) + 1) = (c0 : Int) - (a0 : Int) + 1) := ⟨by rw [IntKind.wrap_i64]; omega⟩
        have HW3 : Aside0 (IntKind.i64.wrap ((a0 : Int) + y) = (a0 : Int) + y) := ⟨by rw [IntKind.wrap_i64]; omega⟩
        clear hxc hx32 hsb hy hR hlt6
        go_upto_region 5 with fail
        clear ht35
        refine seq_startN [29, 31] (.take 0 (.take 1 (.take 2 (.take 3 (.take 4 (.take 5 (.take 6 (.take 7 (.take 8 (.take 9 (.take 10 (.take 11 (.take 12 (.take 13 (.take 14 (.take 15 (.take 16 (.take 17 (.take 18 (.take 19 (.take 20 (.take 21 (.take 22 (.take 23 (.take 24 (.take 25 (.take 26 (.take 27 (.run 28 (.run 29 (.take 30 (.run 31 .done)))))))))))))))))))))))))))))))) (by kernel_rfl) (by kernel_rfl) ?_
        refine seq_take (v := ?_) (a' := ?_) rfl rfl (by rfl) (fun w' hw' => ?_) ?_ ?_
        rotate_left 2
        · go_simp
          with_reducible rfl
        · simp only [Act.put, List.setIfInBounds_toArray, List.set_cons_zero, List.set_cons_succ, Go.Proofs.YtdfahblgnbdndaaDoorW.PrintLast.i64_w, Go.Proofs.YtdfahblgnbdndaaDoorW.PrintLast.i32_w]
          rfl
        refine seq_take (v := ?_) (a' := ?_) rfl rfl (by rfl) (fun w' hw' => ?_) ?_ ?_
        rotate_left 2
        · obtain ⟨r0, r1, r2, r3, r4⟩ := HALLC.out w' hw'; go_simp
          with_reducible rfl
        · simp only [Act.put, List.setIfInBounds_toArray, List.set_cons_zero, List.set_cons_succ, Go.Proofs.YtdfahblgnbdndaaDoorW.PrintLast.i64_w, Go.Proofs.YtdfahblgnbdndaaDoorW.PrintLast.i32_w]
          rfl
        refine seq_take (v := ?_) (a' := ?_) rfl rfl (by rfl) (fun w' hw' => ?_) ?_ ?_
        rotate_left 2
        · go_simp
          with_reducible rfl
        · simp only [Act.put, List.setIfInBounds_toArray, List.set_cons_zero, List.set_cons_succ, Go.Proofs.YtdfahblgnbdndaaDoorW.PrintLast.i64_w, Go.Proofs.YtdfahblgnbdndaaDoorW.PrintLast.i32_w]
          rfl
        refine seq_take (v := ?_) (a' := ?_) rfl rfl (by rfl) (fun w' hw' => ?_) ?_ ?_
        rotate_left 2
        · obtain ⟨r0, r1, r2, r3, r4⟩ := HALLC.out w' hw'; go_simp
          with_reducible rfl
        · simp only [Act.put, List.setIfInBounds_toArray, List.set_cons_zero, List.set_cons_succ, Go.Proofs.YtdfahblgnbdndaaDoorW.PrintLast.i64_w, Go.Proofs.YtdfahblgnbdndaaDoorW.PrintLast.i32_w]
          rfl
        refine seq_take (v := ?_) (a' := ?_) rfl rfl (by rfl) (fun w' hw' => ?_) ?_ ?_
        rotate_left 2
        · go_simp
          with_reducible rfl
        · simp only [Act.put, List.setIfInBounds_toArray, List.set_cons_zero, List.set_cons_succ, Go.Proofs.YtdfahblgnbdndaaDoorW.PrintLast.i64_w, Go.Proofs.YtdfahblgnbdndaaDoorW.PrintLast.i32_w]
          rfl
        refine seq_take (v := ?_) (a' := ?_) rfl rfl (by rfl) (fun w' hw' => ?_) ?_ ?_
        rotate_left 2
        · go_simp
          with_reducible rfl
        · simp only [Act.put, List.setIfInBounds_toArray, List.set_cons_zero, List.set_cons_succ, Go.Proofs.YtdfahblgnbdndaaDoorW.PrintLast.i64_w, Go.Proofs.YtdfahblgnbdndaaDoorW.PrintLast.i32_w]
          rfl
        refine seq_take (v := ?_) (a' := ?_) rfl rfl (by rfl) (fun w' hw' => ?_) ?_ ?_
        rotate_left 2
        · go_simp
          with_reducible rfl
        · simp only [Act.put, List.setIfInBounds_toArray, List.set_cons_zero, List.set_cons_succ, Go.Proofs.YtdfahblgnbdndaaDoorW.PrintLast.i64_w, Go.Proofs.YtdfahblgnbdndaaDoorW.PrintLast.i32_w]
          rfl
        refine seq_take (v := _) (a' := ?_) rfl rfl (by rfl) (fun w' hw' => load_run rfl rfl (HNM.out w' hw')) ?_ ?_
        rotate_left
        · simp only [Act.put, List.setIfInBounds_toArray, List.set_cons_zero, List.set_cons_succ, Go.Proofs.YtdfahblgnbdndaaDoorW.PrintLast.i64_w, Go.Proofs.YtdfahblgnbdndaaDoorW.PrintLast.i32_w]
          rfl
        refine seq_take (v := ?_) (a' := ?_) rfl rfl (by rfl) (fun w' hw' => ?_) ?_ ?_
        rotate_left 2
        · go_simp
          with_reducible rfl
        · simp only [Act.put, List.setIfInBounds_toArray, List.set_cons_zero, List.set_cons_succ, Go.Proofs.YtdfahblgnbdndaaDoorW.PrintLast.i64_w, Go.Proofs.YtdfahblgnbdndaaDoorW.PrintLast.i32_w]
          rfl
        refine seq_take (v := ?_) (a' := ?_) rfl rfl (by rfl) (fun w' hw' => ?_) ?_ ?_
        rotate_left 2
        · go_simp
          with_reducible rfl
        · simp only [Act.put, List.setIfInBounds_toArray, List.set_cons_zero, List.set_cons_succ, Go.Proofs.YtdfahblgnbdndaaDoorW.PrintLast.i64_w, Go.Proofs.YtdfahblgnbdndaaDoorW.PrintLast.i32_w]
          rfl
        refine seq_take (v := ?_) (a' := ?_) rfl rfl (by rfl) (fun w' hw' => ?_) ?_ ?_
        rotate_left 2
        · obtain ⟨r0, r1, r2, r3, r4⟩ := HALLC.out w' hw'; go_simp
          with_reducible rfl
        · simp only [Act.put, List.setIfInBounds_toArray, List.set_cons_zero, List.set_cons_succ, Go.Proofs.YtdfahblgnbdndaaDoorW.PrintLast.i64_w, Go.Proofs.YtdfahblgnbdndaaDoorW.PrintLast.i32_w]
          rfl
        refine seq_take (v := ?_) (a' := ?_) rfl rfl (by rfl) (fun w' hw' => ?_) ?_ ?_
        rotate_left 2
        · go_simp
          with_reducible rfl
        · simp only [Act.put, List.setIfInBounds_toArray, List.set_cons_zero, List.set_cons_succ, Go.Proofs.YtdfahblgnbdndaaDoorW.PrintLast.i64_w, Go.Proofs.YtdfahblgnbdndaaDoorW.PrintLast.i32_w]
          rfl
        refine seq_take (v := ?_) (a' := ?_) rfl rfl (by rfl) (fun w' hw' => ?_) ?_ ?_
        rotate_left 2
        · obtain ⟨r0, r1, r2, r3, r4⟩ := HALLC.out w' hw'; go_simp
          with_reducible rfl
        · simp only [Act.put, List.setIfInBounds_toArray, List.set_cons_zero, List.set_cons_succ, Go.Proofs.YtdfahblgnbdndaaDoorW.PrintLast.i64_w, Go.Proofs.YtdfahblgnbdndaaDoorW.PrintLast.i32_w]
          rfl
        refine seq_take (v := ?_) (a' := ?_) rfl rfl (by rfl) (fun w' hw' => ?_) ?_ ?_
        rotate_left 2
        · go_simp
          with_reducible rfl
        · simp only [Act.put, List.setIfInBounds_toArray, List.set_cons_zero, List.set_cons_succ, Go.Proofs.YtdfahblgnbdndaaDoorW.PrintLast.i64_w, Go.Proofs.YtdfahblgnbdndaaDoorW.PrintLast.i32_w]
          rfl
        refine seq_take (v := ?_) (a' := ?_) rfl rfl (by rfl) (fun w' hw' => ?_) ?_ ?_
        rotate_left 2
        · go_simp
          with_reducible rfl
        · simp only [Act.put, List.setIfInBounds_toArray, List.set_cons_zero, List.set_cons_succ, Go.Proofs.YtdfahblgnbdndaaDoorW.PrintLast.i64_w, Go.Proofs.YtdfahblgnbdndaaDoorW.PrintLast.i32_w]
          rfl
        refine seq_take (v := ?_) (a' := ?_) rfl rfl (by rfl) (fun w' hw' => ?_) ?_ ?_
        rotate_left 2
        · go_simp
          with_reducible rfl
        · simp only [Act.put, List.setIfInBounds_toArray, List.set_cons_zero, List.set_cons_succ, Go.Proofs.YtdfahblgnbdndaaDoorW.PrintLast.i64_w, Go.Proofs.YtdfahblgnbdndaaDoorW.PrintLast.i32_w]
          rfl
        refine seq_take (v := ?_) (a' := ?_) rfl rfl (by rfl) (fun w' hw' => ?_) ?_ ?_
        rotate_left 2
        · obtain ⟨r0, r1, r2, r3, r4⟩ := HALLC.out w' hw'; go_simp
          with_reducible rfl
        · simp only [Act.put, List.setIfInBounds_toArray, List.set_cons_zero, List.set_cons_succ, Go.Proofs.YtdfahblgnbdndaaDoorW.PrintLast.i64_w, Go.Proofs.YtdfahblgnbdndaaDoorW.PrintLast.i32_w]
          rfl
        refine seq_take (v := ?_) (a' := ?_) rfl rfl (by rfl) (fun w' hw' => ?_) ?_ ?_
        rotate_left 2
        · go_simp
          with_reducible rfl
        · simp only [Act.put, List.setIfInBounds_toArray, List.set_cons_zero, List.set_cons_succ, Go.Proofs.YtdfahblgnbdndaaDoorW.PrintLast.i64_w, Go.Proofs.YtdfahblgnbdndaaDoorW.PrintLast.i32_w]
          rfl
        refine seq_take (v := ?_) (a' := ?_) rfl rfl (by rfl) (fun w' hw' => ?_) ?_ ?_
        rotate_left 2
        · go_simp
          with_reducible rfl
        · simp only [Act.put, List.setIfInBounds_toArray, List.set_cons_zero, List.set_cons_succ, Go.Proofs.YtdfahblgnbdndaaDoorW.PrintLast.i64_w, Go.Proofs.YtdfahblgnbdndaaDoorW.PrintLast.i32_w]
          rfl
        refine seq_take (v := ?_) (a' := ?_) rfl rfl (by rfl) (fun w' hw' => ?_) ?_ ?_
        rotate_left 2
        · obtain ⟨r0, r1, r2, r3, r4⟩ := HALLC.out w' hw'; go_simp
          with_reducible rfl
        · simp only [Act.put, List.setIfInBounds_toArray, List.set_cons_zero, List.set_cons_succ, Go.Proofs.YtdfahblgnbdndaaDoorW.PrintLast.i64_w, Go.Proofs.YtdfahblgnbdndaaDoorW.PrintLast.i32_w]
          rfl
        refine seq_take (v := ?_) (a' := ?_) rfl rfl (by rfl) (fun w' hw' => ?_) ?_ ?_
        rotate_left 2
        · go_simp
          with_reducible rfl
        · simp only [Act.put, List.setIfInBounds_toArray, List.set_cons_zero, List.set_cons_succ, Go.Proofs.YtdfahblgnbdndaaDoorW.PrintLast.i64_w, Go.Proofs.YtdfahblgnbdndaaDoorW.PrintLast.i32_w]
          rfl
        refine seq_take (v := ?_) (a' := ?_) rfl rfl (by rfl) (fun w' hw' => ?_) ?_ ?_
        rotate_left 2
        · go_simp
          with_reducible rfl
        · simp only [Act.put, List.setIfInBounds_toArray, List.set_cons_zero, List.set_cons_succ, Go.Proofs.YtdfahblgnbdndaaDoorW.PrintLast.i64_w, Go.Proofs.YtdfahblgnbdndaaDoorW.PrintLast.i32_w]
          rfl
        refine seq_take (v := ?_) (a' := ?_) rfl rfl (by rfl) (fun w' hw' => ?_) ?_ ?_
        rotate_left 2
        · obtain ⟨r0, r1, r2, r3, r4⟩ := HALLC.out w' hw'; go_simp
          with_reducible rfl
        · simp only [Act.put, List.setIfInBounds_toArray, List.set_cons_zero, List.set_cons_succ, Go.Proofs.YtdfahblgnbdndaaDoorW.PrintLast.i64_w, Go.Proofs.YtdfahblgnbdndaaDoorW.PrintLast.i32_w]
          rfl
        refine seq_take (v := ?_) (a' := ?_) rfl rfl (by rfl) (fun w' hw' => ?_) ?_ ?_
        rotate_left 2
        · have hwr := HW1.out; go_simp
          with_reducible rfl
        · simp only [Act.put, List.setIfInBounds_toArray, List.set_cons_zero, List.set_cons_succ, Go.Proofs.YtdfahblgnbdndaaDoorW.PrintLast.i64_w, Go.Proofs.YtdfahblgnbdndaaDoorW.PrintLast.i32_w]
          rfl
        refine seq_take (v := ?_) (a' := ?_) rfl rfl (by rfl) (fun w' hw' => ?_) ?_ ?_
        rotate_left 2
        · have hwr := HW2.out; go_simp
          with_reducible rfl
        · simp only [Act.put, List.setIfInBounds_toArray, List.set_cons_zero, List.set_cons_succ, Go.Proofs.YtdfahblgnbdndaaDoorW.PrintLast.i64_w, Go.Proofs.YtdfahblgnbdndaaDoorW.PrintLast.i32_w]
          rfl
        refine seq_quiet (v := ?_) (a' := ?_) rfl rfl (by rfl) rfl Tryd.func10 (by kernel_rfl) rfl #[.int .i64 s, .int .i64 ((c0 : Int) - (a0 : Int) + 1)] (by simp only [List.map_toArray, List.map_cons, List.map_nil]; rfl) (fun w' hw' => ?_) ?_ ?_
        rotate_left 2
        · with_reducible exact HAR.out w'
        · simp only [Act.put, List.setIfInBounds_toArray, List.set_cons_zero, List.set_cons_succ, Go.Proofs.YtdfahblgnbdndaaDoorW.PrintLast.i64_w, Go.Proofs.YtdfahblgnbdndaaDoorW.PrintLast.i32_w]
          rfl
        refine seq_take (v := ?_) (a' := ?_) rfl rfl (by rfl) (fun w' hw' => ?_) ?_ ?_
        rotate_left 2
        · have hwr := HW3.out; go_simp
          with_reducible rfl
        · simp only [Act.put, List.setIfInBounds_toArray, List.set_cons_zero, List.set_cons_succ, Go.Proofs.YtdfahblgnbdndaaDoorW.PrintLast.i64_w, Go.Proofs.YtdfahblgnbdndaaDoorW.PrintLast.i32_w]
          rfl
        refine seq_take (v := _) (a' := ?_) rfl rfl (by rfl) (fun w' hw' => build_run 41 #[(0, .tmp 29), (1, .tmp 48)] rfl (built_it nm ((a0 : Int) + y) HNL.out)) ?_ ?_
        rotate_left
        · simp only [Act.put, List.setIfInBounds_toArray, List.set_cons_zero, List.set_cons_succ, Go.Proofs.YtdfahblgnbdndaaDoorW.PrintLast.i64_w, Go.Proofs.YtdfahblgnbdndaaDoorW.PrintLast.i32_w]
          rfl
        refine seq_run ?_
        refine do_val (v := _) (a' := ?_) (w1 := _) rfl rfl (by rfl) (row1_exec #[(0, .tmp 49)] rfl Tryd.underlying27 infoI (icells (nm, (a0 : Int) + y)) (icells_len HNL.out) (by decide) (by decide) rfl) ?_ ?_
        rotate_left
        · simp only [Act.put, List.setIfInBounds_toArray, List.set_cons_zero, List.set_cons_succ, Go.Proofs.YtdfahblgnbdndaaDoorW.PrintLast.i64_w, Go.Proofs.YtdfahblgnbdndaaDoorW.PrintLast.i32_w]
          rfl
        refine ⟨fun _ => below_alloc (Below.refl _ _) _, ?_⟩
        refine seq_run ?_
        refine do_appR KI (w0 := wr.drew) (W := wr.drew) w1.heap.size rfl rfl (by rfl) (.tmp 23) (.tmp 50) 27 41 zI 40 rfl Tryd.underlying27 infoI zI_size (by decide) (by decide) (.slice VA R.length vc) R (nm, (a0 : Int) + y) (icells (nm, (a0 : Int) + y)) rfl rfl ⟨HNL.out, rfl⟩ (Kd.R_below HO.out (Below.drew (Below.refl _ _))) (Below.refl _ _) HB.out.size (by omega) ?_
        intro v2 w2 hO2 hB2 hG2 hAt2
        refine ⟨fun h => absurd (by simp) h, ?_⟩
        have hgb : w2.heap[g3]? = some (.cells (Xc a0 b0 c0 im (.slice VA R.length vc)).toArray 38 (0, 0)) := (hG2.block g3 (blk_lt (show wr.drew.heap[g3]? = _ from HGR.out)) (Kd.R_ne HO.out HGR.out (by decide))).trans HGR.out
        obtain ⟨WA, wcc, rfl, -, -⟩ := Kd.R_reads hO2
        have hc35 := (x_cells hgb hn).2.2.2.1
        have hf35 : w2.frozen? ⟨g3, 35, none⟩ = false := blk_frozen hgb 35
        have HS2 : Aside0 (SetBlk w2 (w2.setCell ⟨g3, 35, none⟩ (.slice WA (R ++ [(nm, (a0 : Int) + y)]).length wcc)) g3 (.cells (Xc a0 b0 c0 im (.slice WA (R ++ [(nm, (a0 : Int) + y)]).length wcc)).toArray 38 (0, 0))) := ⟨by have h := setBlk_cell (i := 35) hgb (.slice WA (R ++ [(nm, (a0 : Int) + y)]).length wcc); rwa [Xc_set _ _ _ _ _ _ hn] at h⟩
        have HG2 := Aside0.mk hgb
        have HO2 := Aside0.mk hO2
        have HB2 : Aside0 (Below w1.heap.size w1 w2) := ⟨(Below.drew HB.out).trans hB2⟩
        obtain ⟨v2, hv2⟩ : ∃ v2, v2 = Value.slice WA (R ++ [(nm, (a0 : Int) + y)]).length wcc := ⟨_, rfl⟩
        have HV2 := Aside0.mk hv2
        rw [show (R ++ [(nm, (a0 : Int) + y)]).length = R.length + 1 by simp] at HS2 hv2 ⊢
        clear hgb hO2 hB2 hG2 hAt2
        refine seq_take (v := ?_) (a' := ?_) rfl rfl (by rfl) (fun w' hw' => ?_) ?_ ?_
        rotate_left 2
        · go_simp
          with_reducible rfl
        · simp only [Act.put, List.setIfInBounds_toArray, List.set_cons_zero, List.set_cons_succ, Go.Proofs.YtdfahblgnbdndaaDoorW.PrintLast.i64_w, Go.Proofs.YtdfahblgnbdndaaDoorW.PrintLast.i32_w]
          rfl
        refine seq_run ?_
        refine do_store (w1 := ?_) rfl rfl (by rfl) ?_ ?_
        rotate_left
        · go_simp
          rfl
        refine ⟨fun h => absurd (by simp) h, ?_⟩
        refine seq_endN ?_
        have HO3 : Aside0 (OwI (w2.setCell ⟨g3, 35, none⟩ (.slice WA (R.length + 1) wcc)) w1.heap.size (.slice WA (R.length + 1) wcc) (goodIts a0 c0 (its.take (k + 1)))) := ⟨by
          rw [HT.out]
          have h := HO2.out
          rw [show (R ++ [(nm, (a0 : Int) + y)]).length = R.length + 1 by simp] at h
          refine kf_move h fun q cells hq hc => HS2.out.else_ q (fun e => ?_)
          subst e
          rw [HG2.out] at hc
          injection hc with hc
          injection hc with _ hc
          exact absurd hc (by decide)⟩
        have HB3 : Aside0 (Below w1.heap.size w1 (w2.setCell ⟨g3, 35, none⟩ (.slice WA (R.length + 1) wcc))) := ⟨HB2.out.trans (HS2.out.below hg3)⟩
        go_wp2
        go_roundw
        case rel => exact ⟨k + 1, _, by omega, by omega, by go_num, HS2.out.at_, HO3.out, HB3.out⟩
        case measure => simp [intOf]; omega
      · obtain rfl : k = min its.length 6 := by omega
        have HO9 := HO.out
        rw [goodIts_min] at HO9
        have HO9 := Aside0.mk HO9
        have HF2 := Aside0.mk (Later.heap HB.out F2.out)
        have ht35 : wr.cell? ⟨w.heap.size, 35, none⟩ = some (.slice A its.length cp) := (x_cells HF1.out hn).2.2.2.1
        obtain ⟨kk, hkk⟩ : ∃ kk, min its.length 6 = kk := ⟨_, rfl⟩
        have HKK : Aside0 (goodIts a0 c0 (its.take kk) = goodIts a0 c0 its) := ⟨by rw [← hkk, goodIts_min]⟩
        rw [hkk] at hlt hk hk6 HO HGR ⊢
        by_cases hlt2 : kk < its.length
        · have hltI : (kk : Int) < (its.length : Int) := by omega
          have hlt6I : ¬ (kk : Int) < 6 := by omega
          clear hlt hkk
          go_wp2_with (first
            | ((with_reducible refine at_ld (w := wr) 38 (.tmp 3) ?_); refine load_arm rfl 38 (.tmp 3) rfl rfl (ld_row HGR.out 38 _ Tryd.underlying38 rfl (by rw [List.size_toArray]; exact size_RX hn)) ?_; simp only [Act.put, List.setIfInBounds_toArray, List.set_cons_zero, List.set_cons_succ])
            | ((with_reducible refine at_st 38 (.tmp 2) (.tmp 53) ?_); refine store_blk rfl 38 (.tmp 2) (.tmp 53) rfl rfl rfl HF2.out (by rw [Xc_len hn]; exact Xc_len Z32_len) (size_RX hn) (Xc_one rfl) ?_; rintro w4 HS4)
            | fail)
          (try simp only [Exit.inBlock, Exit.then])
          refine bodyPost_ret (v := .agg _) (results_cell1 rfl _ _ (w.heap.size + 1) _ _ _ _ rfl HS4.at_ Tryd.underlying38 rfl (by rw [List.size_toArray]; exact size_RX hn)) rfl ⟨_, rfl, ?_, (below_tr L1.out HB.out L1.out.size).trans (HS4.below (by omega))⟩
          rw [HKK.out]
          exact Kd.R_lower (kf_move HO9.out fun q cells hq hc => HS4.else_ q (by omega)) L1.out.size
        · have hltI : ¬ (kk : Int) < (its.length : Int) := by omega
          clear hlt hkk
          go_wp2_with (first
            | ((with_reducible refine at_ld (w := wr) 38 (.tmp 3) ?_); refine load_arm rfl 38 (.tmp 3) rfl rfl (ld_row HGR.out 38 _ Tryd.underlying38 rfl (by rw [List.size_toArray]; exact size_RX hn)) ?_; simp only [Act.put, List.setIfInBounds_toArray, List.set_cons_zero, List.set_cons_succ])
            | ((with_reducible refine at_st 38 (.tmp 2) (.tmp 53) ?_); refine store_blk rfl 38 (.tmp 2) (.tmp 53) rfl rfl rfl HF2.out (by rw [Xc_len hn]; exact Xc_len Z32_len) (size_RX hn) (Xc_one rfl) ?_; rintro w4 HS4)
            | fail)
          (try simp only [Exit.inBlock, Exit.then])
          refine bodyPost_ret (v := .agg _) (results_cell1 rfl _ _ (w.heap.size + 1) _ _ _ _ rfl HS4.at_ Tryd.underlying38 rfl (by rw [List.size_toArray]; exact size_RX hn)) rfl ⟨_, rfl, ?_, (below_tr L1.out HB.out L1.out.size).trans (HS4.below (by omega))⟩
          rw [HKK.out]
          exact Kd.R_lower (kf_move HO9.out fun q cells hq hc => HS4.else_ q (by omega)) L1.out.size
end Go.Proofs.YtdfahblgnbdndaaDoor
namespace Go.Proofs.YtdfahblgnbdndaaDoor
open Go.RowKit Go.Shelf Go.Proofs.YtdfahblgnbdndaaDoorW.PrintWords Go.Proofs.YtdfahblgnbdndaaDoorW.PrintMore
set_option linter.unusedVariables false
set_option linter.unusedSimpArgs false
set_option maxRecDepth 20000 in
set_option maxHeartbeats 3200000 in
theorem rbytes_calls (a b c : Nat) (im : List Int) (A : Option Addr) (n cp : Nat) (its : List Itm) (C : Array Value) (w : World) (hC : C = (Xc a b c im (.slice A n cp)).toArray) (hn : im.length = 32) (h : RdI w A n its) (hm : mayX a b c its = true) (hib : Bytes im) (hnb : ∀ x ∈ its, Bytes x.1) :
    Calls Tryd.prog 20 #[.agg C] w fun e w' => ∃ v, e = .returned v ∧ OwB w' w.heap.size v (xbytes a b c im its) ∧ Below w.heap.size w w' := by
  obtain rfl : its.length = n := h.1
  have kc := fun (w : World) (C : Array Value) (n c : Nat) => Lib.run_convert_bytes_const (P := Tryd.prog) w 33 5 C n c Tryd.underlying33 Tryd.underlying5
  have HX := Aside0.mk h
  have HIB := Aside0.mk hib
  have HNB := Aside0.mk hnb
  obtain ⟨hmb, hl, hall, -⟩ := mayX_spec hm
  obtain ⟨_, _, _, ea, eb, ec, m1, m2, m3, m4⟩ := mayB_nat hmb
  obtain rfl := Int.ofNat.inj ea
  obtain rfl := Int.ofNat.inj eb
  obtain rfl := Int.ofNat.inj ec
  have HALL := Aside0.mk hall
  have HBX : Aside0 ((w.alloc (.cells C 38)).heap[w.heap.size]? = some (.cells (Xc a b c im (.slice A its.length cp)).toArray 38 (0, 0))) := ⟨by rw [← hC]; exact blk_new w _⟩
  obtain ⟨w1, hw1⟩ : ∃ w1, w1 = w.alloc (.cells C 38) := ⟨_, rfl⟩
  have L1 : Aside0 (Below w.heap.size w w1) := ⟨by rw [hw1]; exact below_alloc (Below.refl _ _) _⟩
  rw [← hw1] at HBX
  have HL : Aside0 (∀ W, Below w1.heap.size w1 W → W.heap[w.heap.size]? = some (.cells (Xc a b c im (.slice A its.length cp)).toArray 38 (0, 0)) ∧ W.cell? ⟨w.heap.size, 0, none⟩ = some (.int .i64 a) ∧ W.cell? ⟨w.heap.size, 1, none⟩ = some (.int .i64 b) ∧ W.cell? ⟨w.heap.size, 2, none⟩ = some (.int .i64 c) ∧ W.cell? ⟨w.heap.size, 35, none⟩ = some (.slice A its.length cp)) := ⟨fun W hW => by
    have h3 := Later.heap hW HBX.out
    obtain ⟨q0, q1, q2, q3, _⟩ := x_cells h3 hn
    exact ⟨h3, q0, q1, q2, q3⟩⟩
  clear hC h hm hib hnb hmb hall ea eb ec
  go_enter Tryd.func20, Tryd.ntmps20
  go_upto_region 1 with fail
  rw [← hw1]
  clear hw1
  go_upto_region 2 with fail
  obtain ⟨wm, hwm⟩ : ∃ wm, wm = w1.alloc (.cells #[.int .u8 76, .int .u8 84, .int .u8 73, .int .u8 49] 5 (4, 5)) := ⟨_, rfl⟩
  have LM : Aside0 (Below w1.heap.size w1 wm) := ⟨by rw [hwm]; exact below_alloc (Below.refl _ _) _⟩
  have AM : Aside0 (ApQ wm w1.heap.size (.slice (some ⟨w1.heap.size, 0, none⟩) 4 4) [76, 84, 73, 49]) := ⟨.inr ⟨_, rfl, by rw [hwm]; exact rd_lit w1 _ _ _ _ rfl rfl (by simp), by simp⟩⟩
  refine at_w1 (w := wm) hwm ?_
  clear hwm kc
  obtain ⟨_, q0, q1, q2, q3⟩ := HL.out wm LM.out
  obtain ⟨B0, hB0⟩ : ∃ B0, w1.heap.size = B0 := ⟨_, rfl⟩
  rw [hB0] at LM AM HL ⊢
  have HSB : Aside0 (w.heap.size ≤ B0 ∧ B0 = w1.heap.size) := ⟨by rw [← hB0]; exact L1.out.size, hB0.symm⟩
  have S1 : B0 ≤ wm.heap.size := by rw [← hB0]; exact LM.out.size
  clear hB0
  have HAG : Aside0 (∀ k, (Value.slice (some (⟨B0, 0, none⟩ : Addr)) 4 4).ownBlock = some k → B0 ≤ k) := ⟨fun k hk => by injection hk with hk; exact Nat.le_of_eq hk⟩
  have HNU := Aside0.mk (fun (m : Nat) (w : World) (hm : m ≤ 4096) => number_calls (m : Int) w (by omega) (by omega))
  simp only [Int.toNat_natCast] at HNU
  go_wp2_with (first
    | (go_at_call 41; (with_reducible refine at_cw wm ?_); refine (HNU.out a wm (by omega)).mono ?_; rintro e x1 ⟨B1, d1, rfl, hO, hB⟩; have HR1 := Aside0.mk hO.parts.2; have HB1 := Aside0.mk hB; clear hO hB q0 q1 q2 q3)
    | (at_builtin; (with_reducible refine at_w x1 ?_); refine appA B0 rfl (.tmp 7) (.tmp 11) rfl _ [76, 84, 73, 49] (le32 a) B1 4 d1 rfl rfl (apq_below AM.out HB1.out) HR1.out (Nat.le_trans S1 HB1.out.size) (by omega) (by simp) ?_; intro v1 y1 hq hG hA; have HQ1 := Aside0.mk hq; have hb1 : Below B0 w1 y1 := ((LM.out.trans (HB1.out.mono S1)).grown hG (Nat.le_trans S1 HB1.out.size) HAG.out); have LY1 := Aside0.mk hb1; obtain ⟨_, q0, q1, q2, q3⟩ := HL.out y1 hb1; have S2 : B0 ≤ y1.heap.size := (by have := hb1.size; have := HSB.out.2; omega); clear hq hG hA hb1)
    | (go_at_call 41; (with_reducible refine at_cw y1 ?_); refine (HNU.out b y1 (by omega)).mono ?_; rintro e x2 ⟨B2, d2, rfl, hO, hB⟩; have HR2 := Aside0.mk hO.parts.2; have HB2 := Aside0.mk hB; clear hO hB q0 q1 q2 q3)
    | (at_builtin; (with_reducible refine at_w x2 ?_); refine appQ B0 rfl (.tmp 13) (.tmp 17) rfl v1 ([76, 84, 73, 49] ++ le32 a) (le32 b) B2 4 d2 rfl rfl (HQ1.out.below HB2.out) HR2.out (Nat.le_trans S2 HB2.out.size) (by simp [le32, hn]) ?_; intro v2 y2 hq hG hA; have HQ2 := Aside0.mk hq; have hb1 : Below B0 w1 y2 := ((LY1.out.trans (HB2.out.mono S2)).grown hG (Nat.le_trans S2 HB2.out.size) HQ1.out.ge); have LY2 := Aside0.mk hb1; obtain ⟨hG2, q0, q1, q2, q3⟩ := HL.out y2 hb1; have HGX2 := Aside0.mk hG2; have S3 : B0 ≤ y2.heap.size := (by have := hb1.size; have := HSB.out.2; omega); clear hq hG hA hb1 hG2)
    | (go_at_call 41; (with_reducible refine at_cw y2 ?_); refine (HNU.out c y2 (by omega)).mono ?_; rintro e x3 ⟨B3, d3, rfl, hO, hB⟩; have HR3 := Aside0.mk hO.parts.2; have HB3 := Aside0.mk hB; clear hO hB q0 q1 q2 q3)
    | (at_builtin; (with_reducible refine at_w x3 ?_); refine appQ B0 rfl (.tmp 19) (.tmp 23) rfl v2 ([76, 84, 73, 49] ++ le32 a ++ le32 b) (le32 c) B3 4 d3 rfl rfl (HQ2.out.below HB3.out) HR3.out (Nat.le_trans S3 HB3.out.size) (by simp [le32, hn]) ?_; intro v3 y3 hq hG hA; have HQ3 := Aside0.mk hq; have hb1 : Below B0 w1 y3 := ((LY2.out.trans (HB3.out.mono S3)).grown hG (Nat.le_trans S3 HB3.out.size) HQ2.out.ge); have LY3 := Aside0.mk hb1; obtain ⟨hG3, q0, q1, q2, q3⟩ := HL.out y3 hb1; have HGX3 := Aside0.mk hG3; have S4 : B0 ≤ y3.heap.size := (by have := hb1.size; have := HSB.out.2; omega); clear hq hG hA hb1 hG3)
    | ((with_reducible refine at_ld (w := y3) 26 (.tmp 26) ?_); refine load_arm rfl 26 (.tmp 26) rfl rfl (x_dig HGX3.out hn) ?_; simp only [Act.put, List.setIfInBounds_toArray, List.set_cons_zero, List.set_cons_succ])
    | (go_at_call 42; (with_reducible refine at_cw y3 ?_); refine (bytes32_calls im _ y3 rfl hn HIB.out).mono ?_; rintro e x4 ⟨u4, rfl, hO, hB⟩; obtain ⟨B4, d4, rfl, -, hr⟩ := OwB.reads hO; rw [hn] at hr ⊢; have HR4 := Aside0.mk hr; have HB4 := Aside0.mk hB; clear hO hB hr q0 q1 q2 q3)
    | (at_builtin; (with_reducible refine at_w x4 ?_); refine appQ B0 rfl (.tmp 25) (.tmp 28) rfl v3 (hdr a b c) im B4 32 d4 rfl rfl (HQ3.out.below HB4.out) HR4.out (Nat.le_trans S4 HB4.out.size) (by simp [hdr, le32, hn]) ?_; intro v4 y4 hq hG hA; have HQ4 := Aside0.mk hq; have hb1 : Below B0 w1 y4 := ((LY3.out.trans (HB4.out.mono S4)).grown hG (Nat.le_trans S4 HB4.out.size) HQ3.out.ge); have LY4 := Aside0.mk hb1; obtain ⟨hG4, q0, q1, q2, q3⟩ := HL.out y4 hb1; have HGX4 := Aside0.mk hG4; have S5 : B0 ≤ y4.heap.size := (by have := hb1.size; have := HSB.out.2; omega); clear hq hG hA hb1 hG4)
    | (go_at_call 41; (with_reducible refine at_cw y4 ?_); refine (HNU.out its.length y4 (by omega)).mono ?_; rintro e x5 ⟨B5, d5, rfl, hO, hB⟩; have HR5 := Aside0.mk hO.parts.2; have HB5 := Aside0.mk hB; clear hO hB q0 q1 q2 q3)
    | (at_builtin; (with_reducible refine at_w x5 ?_); refine appQ B0 rfl (.tmp 30) (.tmp 34) rfl v4 (hdr a b c ++ im) (le32 its.length) B5 4 d5 rfl rfl (HQ4.out.below HB5.out) HR5.out (Nat.le_trans S5 HB5.out.size) (by simp [hdr, le32, hn]) ?_; intro v5 y5 hq hG hA; have HQ5 := Aside0.mk hq; have hb1 : Below B0 w1 y5 := ((LY4.out.trans (HB5.out.mono S5)).grown hG (Nat.le_trans S5 HB5.out.size) HQ4.out.ge); have LY5 := Aside0.mk hb1; obtain ⟨hG5, q0, q1, q2, q3⟩ := HL.out y5 hb1; have HGX5 := Aside0.mk hG5; have S6 : B0 ≤ y5.heap.size := (by have := hb1.size; have := HSB.out.2; omega); clear hq hG hA hb1 hG5)
    | fail)
  clear q0 q1 q2 q3
  go_loopw [3, 4] (fun vb i wr => ∃ k : Nat, k ≤ its.length ∧ i = .int .i64 k ∧ QB wr B0 vb (hdr a b c ++ im ++ le32 its.length ++ itB (its.take k)) ∧ Below B0 w1 wr) (fun _ i _ => its.length - (intOf i).toNat)
  case atStart => exact ⟨0, Nat.zero_le _, rfl, by simpa [itB] using HQ5.out, LY5.out⟩
  case round =>
    obtain ⟨k, hk, rfl, hQ, hB⟩ := hrel
    have HQ := Aside0.mk hQ
    have HB := Aside0.mk hB
    have SR : B0 ≤ wr.heap.size := by have := hB.size; have := HSB.out.2; omega
    have HW : Aside0 (Below w.heap.size w wr) := ⟨L1.out.trans (hB.mono HSB.out.1)⟩
    have q3 := (HL.out wr hB).2.2.2.2
    clear hQ hB
    by_cases hlt : k < its.length
    · obtain ⟨ad, rfl, hx32, hxc⟩ := kf_at HX.out ([], 0) k hlt
      have HXC := Aside0.mk hxc
      have HT := Aside0.mk (itB_take hlt)
      have hok := HALL.out k hlt
      have HNMB := Aside0.mk (HNB.out (its.getD k ([], 0)) (by rw [List.getD_eq_getElem?_getD, List.getElem?_eq_getElem hlt]; exact List.getElem_mem _))
      unfold okI sz at hok
      generalize its.getD k ([], 0) = X at *
      obtain ⟨nm, s⟩ := X
      dsimp only at hok HT HNMB
      obtain ⟨m, rfl⟩ := Int.eq_ofNat_of_zero_le (show 0 ≤ s by omega)
      have hm5 : m ≤ 4096 := by omega
      rw [Int.toNat_natCast] at HT
      have HNL : Aside0 (nm.length = 32) := ⟨hx32⟩
      have HNM : Aside0 ((Instr.loadAt 26 (.pointer (some (ad.add (k * 33))))).run Tryd.prog wr = .ok (.agg (Nm nm).toArray) wr) := ⟨ld_elem (fun j u hu => pw_cell_below HW.out (hxc j u (ic_name hx32 j u hu))) 26 _ Tryd.underlying26 rfl (size_d nm hx32)⟩
      have HES := Aside0.mk (elem_size hx32 hxc)
      obtain ⟨U, hU⟩ : ∃ U, hdr a b c ++ im ++ le32 its.length ++ itB (its.take k) = U := ⟨_, rfl⟩
      have HUL : Aside0 (U.length ≤ 200000) := ⟨by
        rw [← hU]
        have h1 := itB_len (its := its.take k) (fun x hx => kf_all HX.out x (List.mem_of_mem_take hx))
        rw [List.length_take] at h1
        simp only [List.length_append, h1, hdr, le32_len4, List.length_cons, List.length_nil, hn]
        omega⟩
      have HUE : Aside0 (hdr a b c ++ im ++ le32 its.length ++ itB (its.take (k + 1)) = U ++ nm ++ le32 m) := ⟨by rw [HT.out, ← hU]; simp [List.append_assoc]⟩
      rw [hU] at HQ
      clear hxc hx32 hok hU
      go_wp2_with (first
        | ((with_reducible refine at_ld (w := wr) 26 (.tmp 48) ?_); refine load_arm rfl 26 (.tmp 48) rfl rfl HNM.out ?_; simp only [Act.put, List.setIfInBounds_toArray, List.set_cons_zero, List.set_cons_succ])
        | (go_at_call 42; (with_reducible refine at_cw wr ?_); refine (bytes32_calls nm _ wr rfl HNL.out HNMB.out).mono ?_; rintro e x6 ⟨u6, rfl, hO, hB⟩; obtain ⟨B6, d6, rfl, -, hr⟩ := OwB.reads hO; rw [HNL.out] at hr ⊢; have HR6 := Aside0.mk hr; have HB6 := Aside0.mk hB; clear hO hB hr)
        | (at_builtin; (with_reducible refine at_w x6 ?_); refine appQ B0 rfl (.tmp 43) (.tmp 50) rfl u3 U nm B6 32 d6 rfl rfl (HQ.out.below HB6.out) HR6.out (Nat.le_trans SR HB6.out.size) (by have := HUL.out; omega) ?_; intro v6 y6 hq hG hA; have HQ6 := Aside0.mk hq; have hb1 : Below B0 w1 y6 := ((HB.out.trans (HB6.out.mono SR)).grown hG (Nat.le_trans SR HB6.out.size) HQ.out.ge); have LY6 := Aside0.mk hb1; have p3 := (HL.out y6 hb1).2.2.2.2; have S7 : B0 ≤ y6.heap.size := (by have := hb1.size; have := HSB.out.2; omega); have hes := pw_cell_below (L1.out.trans (hb1.mono HSB.out.1)) HES.out; clear hq hG hA hb1)
        | (go_at_call 41; (with_reducible refine at_cw y6 ?_); refine (HNU.out m y6 (by omega)).mono ?_; rintro e x7 ⟨B7, d7, rfl, hO, hB⟩; have HR7 := Aside0.mk hO.parts.2; have HB7 := Aside0.mk hB; clear hO hB)
        | (at_builtin; (with_reducible refine at_w x7 ?_); refine appQ B0 rfl (.tmp 52) (.tmp 59) rfl v6 (U ++ nm) (le32 m) B7 4 d7 rfl rfl (HQ6.out.below HB7.out) HR7.out (Nat.le_trans S7 HB7.out.size) (by have := HUL.out; have := HNL.out; rw [List.length_append]; omega) ?_; intro v7 y7 hq hG hA; have HQ7 : Aside0 (QB y7 B0 v7 (hdr a b c ++ im ++ le32 its.length ++ itB (its.take (k + 1)))) := ⟨by rw [HUE.out]; exact hq⟩; have LY7 : Aside0 (Below B0 w1 y7) := ⟨(LY6.out.trans (HB7.out.mono S7)).grown hG (Nat.le_trans S7 HB7.out.size) HQ6.out.ge⟩; clear hq hG hA)
        | fail)
      go_roundw
      case rel => exact ⟨k + 1, by omega, by go_num, HQ7.out, LY7.out⟩
      case measure => simp [intOf]; omega
    · obtain rfl : k = its.length := by omega
      have hQ9 := HQ.out
      rw [List.take_length] at hQ9
      obtain ⟨qA, qc, rfl, hqc, hqr⟩ := hQ9.reads
      have HQR : Aside0 (RdB wr qA (xbody a b c im its).length (xbody a b c im its)) := ⟨hqr⟩
      have HXB := Aside0.mk (xbody_bytes (a := a) (b := b) (c := c) HIB.out HNB.out)
      have HXL := Aside0.mk (xbody_len (a := a) (b := b) (c := c) hn (kf_all HX.out))
      clear hQ9 hqr hqc
      obtain ⟨Y, hY⟩ : ∃ Y, xbody a b c im its = Y := ⟨_, rfl⟩
      rw [show hdr a b c ++ im ++ le32 its.length ++ itB its = Y from hY]
      have HYE : Aside0 (xbytes a b c im its = cput Y) := ⟨by rw [← hY]; rfl⟩
      rw [hY] at HQR HXB HXL
      clear hY
      go_wp2_with (go_at_call 30; refine (rput_calls qA Y.length qc Y wr HQR.out HXB.out (by have := HXL.out; omega)).mono ?_; rintro e w11 ⟨v, rfl, hO, hB⟩; have HO := Aside0.mk hO; have HB := Aside0.mk hB; clear hO hB)
      (try simp only [Exit.inBlock, Exit.then])
      exact bodyPost_ret (results_tmp rfl _ _ _) rfl ⟨_, rfl, by rw [HYE.out]; exact Kd.R_lower HO.out HW.out.size, below_tr HW.out HB.out HW.out.size⟩
end Go.Proofs.YtdfahblgnbdndaaDoor
