/- What index.Read reads: the numbers of bytes; its reader's methods; lighterageref11.number. Conditions: each contract's own. -/
import Derived.Test.YtdfahblgnbdndaaDoorG12
import Derived.Test.YtdfahblgnbdndaaDoorNum2
namespace Go.Proofs.YtdfahblgnbdndaaDoor
open Go.RowKit Go.Shelf Go.Proofs.YtdfahblgnbdndaaDoorW.PrintWords Go.Proofs.YtdfahblgnbdndaaDoorW.PrintMore
set_option linter.unusedVariables false
set_option linter.unusedSimpArgs false
theorem rd_at {w : World} {ad : Addr} {n : Nat} {xs : List Int} (h : RdB w (some ad) n xs) (i : Nat) (hi : i < n) : w.cell? (ad.add i) = some (.int .u8 (rd xs i)) := by
  obtain ⟨ad', e, hx⟩ := Kd.at_int h (i : Int) (by omega) (by omega)
  injection e with e
  subst e
  simpa using hx
theorem rd_drop (y : List Int) (k i : Nat) : rd (y.drop k) (i : Int) = rd y ((k + i : Nat) : Int) := by
  simp only [rd, Int.toNat_natCast, List.getD_eq_getElem?_getD, List.getElem?_drop]
/-- Four bytes' number. -/
def num (y : List Int) (i : Nat) : Int := rd y (i : Nat) + 256 * rd y ((i + 1 : Nat) : Int) + 65536 * rd y ((i + 2 : Nat) : Int) + 16777216 * rd y ((i + 3 : Nat) : Int)
theorem num_drop (y : List Int) (k i : Nat) : num (y.drop k) i = num y (k + i) := by
  simp only [num, rd_drop, Nat.add_assoc]
theorem num_range {y : List Int} (h : Bytes y) (i : Nat) : 0 ≤ num y i ∧ num y i < 4294967296 := by
  have b0 := h.at_ (i : Int)
  have b1 := h.at_ ((i + 1 : Nat) : Int)
  have b2 := h.at_ ((i + 2 : Nat) : Int)
  have b3 := h.at_ ((i + 3 : Nat) : Int)
  unfold num
  omega
set_option maxRecDepth 20000 in
set_option maxHeartbeats 1600000 in
theorem rnum_calls (A : Option Addr) (n c : Nat) (xs : List Int) (i : Nat) (w : World) (h : RdB w A n xs) (hb : Bytes xs) (hi : i + 4 ≤ n) (hn : n ≤ 1099511627776) :
    Calls Tryd.prog 53 #[.slice A n c, .int .i64 (i : Int)] w fun e w' => e = .returned (.int .i64 (num xs i)) ∧ Below w.heap.size w w' := by
  have HX := Aside0.mk h
  obtain ⟨ad, rfl⟩ : ∃ ad, A = some ad := by
    obtain ⟨ad, e, _⟩ := Kd.at_int h (i : Int) (by omega) (by omega)
    exact ⟨ad, e⟩
  have HC : Aside0 (∀ W, Later w.drew W → ∀ j, j < 4 → W.cell? (ad.add (i + j)) = some (.int .u8 (rd xs ((i + j : Nat) : Int)))) := ⟨fun W hW j hj => rd_at (Kd.C_below (Kd.C_drew HX.out) hW) (i + j) (by omega)⟩
  obtain ⟨v, hv⟩ : ∃ v, v = num xs i := ⟨_, rfl⟩
  have HV := Aside0.mk hv
  have b0 := hb.at_ (i : Int)
  have b1 := hb.at_ ((i + 1 : Nat) : Int)
  have b2 := hb.at_ ((i + 2 : Nat) : Int)
  have b3 := hb.at_ ((i + 3 : Nat) : Int)
  unfold num at hv
  have HC0 : Aside0 (∀ W, Later w.drew W → W.cell? (ad.add i) = some (.int .u8 (rd xs (i : Int)))) := ⟨fun W hW => HC.out W hW 0 (by omega)⟩
  have HC1 : Aside0 (∀ W, Later w.drew W → W.cell? ⟨ad.block, ad.off + (i + 1), none⟩ = some (.int .u8 (rd xs ((i + 1 : Nat) : Int)))) := ⟨fun W hW => by
    have h := HC.out W hW 1 (by omega)
    rwa [show ad.add (i + 1) = ⟨ad.block, ad.off + (i + 1), none⟩ from rfl] at h⟩
  have HC2 : Aside0 (∀ W, Later w.drew W → W.cell? ⟨ad.block, ad.off + (i + 1 + 1), none⟩ = some (.int .u8 (rd xs ((i + 2 : Nat) : Int)))) := ⟨fun W hW => by
    have h := HC.out W hW 2 (by omega)
    rwa [show ad.add (i + 2) = ⟨ad.block, ad.off + (i + 1 + 1), none⟩ from rfl] at h⟩
  have HC3 : Aside0 (∀ W, Later w.drew W → W.cell? ⟨ad.block, ad.off + (i + 1 + 1 + 1), none⟩ = some (.int .u8 (rd xs ((i + 3 : Nat) : Int)))) := ⟨fun W hW => by
    have h := HC.out W hW 3 (by omega)
    rwa [show ad.add (i + 3) = ⟨ad.block, ad.off + (i + 1 + 1 + 1), none⟩ from rfl] at h⟩
  clear h hb HC HX
  rw [← HV.out]
  generalize rd xs (i : Int) = x0 at *
  generalize rd xs ((i + 1 : Nat) : Int) = x1 at *
  generalize rd xs ((i + 2 : Nat) : Int) = x2 at *
  generalize rd xs ((i + 3 : Nat) : Int) = x3 at *
  clear HV
  have t0 : (i : Int).toNat = i := by omega
  have t1 : ((i : Int) + 1).toNat = i + 1 := by omega
  have t2 : ((i : Int) + 2).toNat = i + 2 := by omega
  have t3 : ((i : Int) + 3).toNat = i + 3 := by omega
  have hw0 : IntKind.i64.wrap x0 = x0 := by rw [IntKind.wrap_i64]; omega
  have hw1 : IntKind.i64.wrap x1 = x1 := by rw [IntKind.wrap_i64]; omega
  have hw2 : IntKind.i64.wrap x2 = x2 := by rw [IntKind.wrap_i64]; omega
  have hw3 : IntKind.i64.wrap x3 = x3 := by rw [IntKind.wrap_i64]; omega
  have n0 : i < n := by omega
  have n1 : i + 1 < n := by omega
  have n2 : i + 2 < n := by omega
  have n3 : i + 3 < n := by omega
  have m1 : (i : Int) + 1 < (n : Int) := by omega
  have m2 : (i : Int) + 2 < (n : Int) := by omega
  have m3 : (i : Int) + 3 < (n : Int) := by omega
  have p1 : 0 ≤ (i : Int) + 1 := by omega
  have p2 : 0 ≤ (i : Int) + 2 := by omega
  have p3 : 0 ≤ (i : Int) + 3 := by omega
  have v1 : IntKind.i64.wrap ((i : Int) + 1) = (i : Int) + 1 := by rw [IntKind.wrap_i64]; omega
  have v2 : IntKind.i64.wrap ((i : Int) + 2) = (i : Int) + 2 := by rw [IntKind.wrap_i64]; omega
  have v3 : IntKind.i64.wrap ((i : Int) + 3) = (i : Int) + 3 := by rw [IntKind.wrap_i64]; omega
  go_enter Tryd.func53, Tryd.ntmps53
  go_wp2_with fail
  refine seq_startN [] (.take 0 (.take 1 (.take 2 (.take 3 (.take 4 (.take 5 (.take 6 (.take 7 (.take 8 (.take 9 (.take 10 (.take 11 (.take 12 (.take 13 (.take 14 (.take 15 (.take 16 (.take 17 (.take 18 (.take 19 (.take 20 (.take 21 (.take 22 (.take 23 (.take 24 (.take 25 (.take 26 (.take 27 (.take 28 (.take 29 .done)))))))))))))))))))))))))))))) (by kernel_rfl) (by kernel_rfl) ?_
  refine seq_take (v := ?_) (a' := ?_) rfl rfl (by rfl) (fun w' hw' => ?_) ?_ ?_
  rotate_left 2
  · go_simp
    with_reducible rfl
  · simp only [Act.put, List.setIfInBounds_toArray, List.set_cons_zero, List.set_cons_succ, Go.Proofs.YtdfahblgnbdndaaDoorW.PrintLast.i64_w, Go.Proofs.YtdfahblgnbdndaaDoorW.PrintLast.i32_w]
    rfl
  refine seq_take (v := ?_) (a' := ?_) rfl rfl (by rfl) (fun w' hw' => ?_) ?_ ?_
  rotate_left 2
  · go_simp
    with_reducible rfl
  · simp only [Act.put, List.setIfInBounds_toArray, List.set_cons_zero, List.set_cons_succ, Go.Proofs.YtdfahblgnbdndaaDoorW.PrintLast.i64_w, Go.Proofs.YtdfahblgnbdndaaDoorW.PrintLast.i32_w]
    rfl
  refine seq_take (v := ?_) (a' := ?_) rfl rfl (by rfl) (fun w' hw' => ?_) ?_ ?_
  rotate_left 2
  · go_simp
    with_reducible rfl
  · simp only [Act.put, List.setIfInBounds_toArray, List.set_cons_zero, List.set_cons_succ, Go.Proofs.YtdfahblgnbdndaaDoorW.PrintLast.i64_w, Go.Proofs.YtdfahblgnbdndaaDoorW.PrintLast.i32_w]
    rfl
  refine seq_take (v := ?_) (a' := ?_) rfl rfl (by rfl) (fun w' hw' => ?_) ?_ ?_
  rotate_left 2
  · have hc := HC0.out w' hw'; go_simp
    with_reducible rfl
  · simp only [Act.put, List.setIfInBounds_toArray, List.set_cons_zero, List.set_cons_succ, Go.Proofs.YtdfahblgnbdndaaDoorW.PrintLast.i64_w, Go.Proofs.YtdfahblgnbdndaaDoorW.PrintLast.i32_w]
    rfl
  refine seq_take (v := ?_) (a' := ?_) rfl rfl (by rfl) (fun w' hw' => ?_) ?_ ?_
  rotate_left 2
  · go_simp
    with_reducible rfl
  · simp only [Act.put, List.setIfInBounds_toArray, List.set_cons_zero, List.set_cons_succ, Go.Proofs.YtdfahblgnbdndaaDoorW.PrintLast.i64_w, Go.Proofs.YtdfahblgnbdndaaDoorW.PrintLast.i32_w]
    rfl
  refine seq_take (v := ?_) (a' := ?_) rfl rfl (by rfl) (fun w' hw' => ?_) ?_ ?_
  rotate_left 2
  · go_simp
    with_reducible rfl
  · simp only [Act.put, List.setIfInBounds_toArray, List.set_cons_zero, List.set_cons_succ, Go.Proofs.YtdfahblgnbdndaaDoorW.PrintLast.i64_w, Go.Proofs.YtdfahblgnbdndaaDoorW.PrintLast.i32_w]
    rfl
  refine seq_take (v := ?_) (a' := ?_) rfl rfl (by rfl) (fun w' hw' => ?_) ?_ ?_
  rotate_left 2
  · go_simp
    with_reducible rfl
  · simp only [Act.put, List.setIfInBounds_toArray, List.set_cons_zero, List.set_cons_succ, Go.Proofs.YtdfahblgnbdndaaDoorW.PrintLast.i64_w, Go.Proofs.YtdfahblgnbdndaaDoorW.PrintLast.i32_w]
    rfl
  refine seq_take (v := ?_) (a' := ?_) rfl rfl (by rfl) (fun w' hw' => ?_) ?_ ?_
  rotate_left 2
  · go_simp
    with_reducible rfl
  · simp only [Act.put, List.setIfInBounds_toArray, List.set_cons_zero, List.set_cons_succ, Go.Proofs.YtdfahblgnbdndaaDoorW.PrintLast.i64_w, Go.Proofs.YtdfahblgnbdndaaDoorW.PrintLast.i32_w]
    rfl
  refine seq_take (v := ?_) (a' := ?_) rfl rfl (by rfl) (fun w' hw' => ?_) ?_ ?_
  rotate_left 2
  · go_simp
    with_reducible rfl
  · simp only [Act.put, List.setIfInBounds_toArray, List.set_cons_zero, List.set_cons_succ, Go.Proofs.YtdfahblgnbdndaaDoorW.PrintLast.i64_w, Go.Proofs.YtdfahblgnbdndaaDoorW.PrintLast.i32_w]
    rfl
  refine seq_take (v := ?_) (a' := ?_) rfl rfl (by rfl) (fun w' hw' => ?_) ?_ ?_
  rotate_left 2
  · have hc := HC1.out w' hw'; go_simp
    with_reducible rfl
  · simp only [Act.put, List.setIfInBounds_toArray, List.set_cons_zero, List.set_cons_succ, Go.Proofs.YtdfahblgnbdndaaDoorW.PrintLast.i64_w, Go.Proofs.YtdfahblgnbdndaaDoorW.PrintLast.i32_w]
    rfl
  refine seq_take (v := ?_) (a' := ?_) rfl rfl (by rfl) (fun w' hw' => ?_) ?_ ?_
  rotate_left 2
  · go_simp
    with_reducible rfl
  · simp only [Act.put, List.setIfInBounds_toArray, List.set_cons_zero, List.set_cons_succ, Go.Proofs.YtdfahblgnbdndaaDoorW.PrintLast.i64_w, Go.Proofs.YtdfahblgnbdndaaDoorW.PrintLast.i32_w]
    rfl
  refine seq_take (v := ?_) (a' := ?_) rfl rfl (by rfl) (fun w' hw' => ?_) ?_ ?_
  rotate_left 2
  · have hm : IntKind.i64.wrap (256 * x1) = 256 * x1 := (by rw [IntKind.wrap_i64]; omega); go_simp
    with_reducible rfl
  · simp only [Act.put, List.setIfInBounds_toArray, List.set_cons_zero, List.set_cons_succ, Go.Proofs.YtdfahblgnbdndaaDoorW.PrintLast.i64_w, Go.Proofs.YtdfahblgnbdndaaDoorW.PrintLast.i32_w]
    rfl
  refine seq_take (v := ?_) (a' := ?_) rfl rfl (by rfl) (fun w' hw' => ?_) ?_ ?_
  rotate_left 2
  · have hm : IntKind.i64.wrap (x0 + 256 * x1) = x0 + 256 * x1 := (by rw [IntKind.wrap_i64]; omega); go_simp
    with_reducible rfl
  · simp only [Act.put, List.setIfInBounds_toArray, List.set_cons_zero, List.set_cons_succ, Go.Proofs.YtdfahblgnbdndaaDoorW.PrintLast.i64_w, Go.Proofs.YtdfahblgnbdndaaDoorW.PrintLast.i32_w]
    rfl
  refine seq_take (v := ?_) (a' := ?_) rfl rfl (by rfl) (fun w' hw' => ?_) ?_ ?_
  rotate_left 2
  · go_simp
    with_reducible rfl
  · simp only [Act.put, List.setIfInBounds_toArray, List.set_cons_zero, List.set_cons_succ, Go.Proofs.YtdfahblgnbdndaaDoorW.PrintLast.i64_w, Go.Proofs.YtdfahblgnbdndaaDoorW.PrintLast.i32_w]
    rfl
  refine seq_take (v := ?_) (a' := ?_) rfl rfl (by rfl) (fun w' hw' => ?_) ?_ ?_
  rotate_left 2
  · go_simp
    with_reducible rfl
  · simp only [Act.put, List.setIfInBounds_toArray, List.set_cons_zero, List.set_cons_succ, Go.Proofs.YtdfahblgnbdndaaDoorW.PrintLast.i64_w, Go.Proofs.YtdfahblgnbdndaaDoorW.PrintLast.i32_w]
    rfl
  refine seq_take (v := ?_) (a' := ?_) rfl rfl (by rfl) (fun w' hw' => ?_) ?_ ?_
  rotate_left 2
  · go_simp
    with_reducible rfl
  · simp only [Act.put, List.setIfInBounds_toArray, List.set_cons_zero, List.set_cons_succ, Go.Proofs.YtdfahblgnbdndaaDoorW.PrintLast.i64_w, Go.Proofs.YtdfahblgnbdndaaDoorW.PrintLast.i32_w]
    rfl
  refine seq_take (v := ?_) (a' := ?_) rfl rfl (by rfl) (fun w' hw' => ?_) ?_ ?_
  rotate_left 2
  · go_simp
    with_reducible rfl
  · simp only [Act.put, List.setIfInBounds_toArray, List.set_cons_zero, List.set_cons_succ, Go.Proofs.YtdfahblgnbdndaaDoorW.PrintLast.i64_w, Go.Proofs.YtdfahblgnbdndaaDoorW.PrintLast.i32_w]
    rfl
  refine seq_take (v := ?_) (a' := ?_) rfl rfl (by rfl) (fun w' hw' => ?_) ?_ ?_
  rotate_left 2
  · have hc := HC2.out w' hw'; go_simp
    with_reducible rfl
  · simp only [Act.put, List.setIfInBounds_toArray, List.set_cons_zero, List.set_cons_succ, Go.Proofs.YtdfahblgnbdndaaDoorW.PrintLast.i64_w, Go.Proofs.YtdfahblgnbdndaaDoorW.PrintLast.i32_w]
    rfl
  refine seq_take (v := ?_) (a' := ?_) rfl rfl (by rfl) (fun w' hw' => ?_) ?_ ?_
  rotate_left 2
  · go_simp
    with_reducible rfl
  · simp only [Act.put, List.setIfInBounds_toArray, List.set_cons_zero, List.set_cons_succ, Go.Proofs.YtdfahblgnbdndaaDoorW.PrintLast.i64_w, Go.Proofs.YtdfahblgnbdndaaDoorW.PrintLast.i32_w]
    rfl
  refine seq_take (v := ?_) (a' := ?_) rfl rfl (by rfl) (fun w' hw' => ?_) ?_ ?_
  rotate_left 2
  · have hm : IntKind.i64.wrap (65536 * x2) = 65536 * x2 := (by rw [IntKind.wrap_i64]; omega); go_simp
    with_reducible rfl
  · simp only [Act.put, List.setIfInBounds_toArray, List.set_cons_zero, List.set_cons_succ, Go.Proofs.YtdfahblgnbdndaaDoorW.PrintLast.i64_w, Go.Proofs.YtdfahblgnbdndaaDoorW.PrintLast.i32_w]
    rfl
  refine seq_take (v := ?_) (a' := ?_) rfl rfl (by rfl) (fun w' hw' => ?_) ?_ ?_
  rotate_left 2
  · have hm : IntKind.i64.wrap (x0 + 256 * x1 + 65536 * x2) = x0 + 256 * x1 + 65536 * x2 := (by rw [IntKind.wrap_i64]; omega); go_simp
    with_reducible rfl
  · simp only [Act.put, List.setIfInBounds_toArray, List.set_cons_zero, List.set_cons_succ, Go.Proofs.YtdfahblgnbdndaaDoorW.PrintLast.i64_w, Go.Proofs.YtdfahblgnbdndaaDoorW.PrintLast.i32_w]
    rfl
  refine seq_take (v := ?_) (a' := ?_) rfl rfl (by rfl) (fun w' hw' => ?_) ?_ ?_
  rotate_left 2
  · go_simp
    with_reducible rfl
  · simp only [Act.put, List.setIfInBounds_toArray, List.set_cons_zero, List.set_cons_succ, Go.Proofs.YtdfahblgnbdndaaDoorW.PrintLast.i64_w, Go.Proofs.YtdfahblgnbdndaaDoorW.PrintLast.i32_w]
    rfl
  refine seq_take (v := ?_) (a' := ?_) rfl rfl (by rfl) (fun w' hw' => ?_) ?_ ?_
  rotate_left 2
  · go_simp
    with_reducible rfl
  · simp only [Act.put, List.setIfInBounds_toArray, List.set_cons_zero, List.set_cons_succ, Go.Proofs.YtdfahblgnbdndaaDoorW.PrintLast.i64_w, Go.Proofs.YtdfahblgnbdndaaDoorW.PrintLast.i32_w]
    rfl
  refine seq_take (v := ?_) (a' := ?_) rfl rfl (by rfl) (fun w' hw' => ?_) ?_ ?_
  rotate_left 2
  · go_simp
    with_reducible rfl
  · simp only [Act.put, List.setIfInBounds_toArray, List.set_cons_zero, List.set_cons_succ, Go.Proofs.YtdfahblgnbdndaaDoorW.PrintLast.i64_w, Go.Proofs.YtdfahblgnbdndaaDoorW.PrintLast.i32_w]
    rfl
  refine seq_take (v := ?_) (a' := ?_) rfl rfl (by rfl) (fun w' hw' => ?_) ?_ ?_
  rotate_left 2
  · go_simp
    with_reducible rfl
  · simp only [Act.put, List.setIfInBounds_toArray, List.set_cons_zero, List.set_cons_succ, Go.Proofs.YtdfahblgnbdndaaDoorW.PrintLast.i64_w, Go.Proofs.YtdfahblgnbdndaaDoorW.PrintLast.i32_w]
    rfl
  refine seq_take (v := ?_) (a' := ?_) rfl rfl (by rfl) (fun w' hw' => ?_) ?_ ?_
  rotate_left 2
  · have hc := HC3.out w' hw'; go_simp
    with_reducible rfl
  · simp only [Act.put, List.setIfInBounds_toArray, List.set_cons_zero, List.set_cons_succ, Go.Proofs.YtdfahblgnbdndaaDoorW.PrintLast.i64_w, Go.Proofs.YtdfahblgnbdndaaDoorW.PrintLast.i32_w]
    rfl
  refine seq_take (v := ?_) (a' := ?_) rfl rfl (by rfl) (fun w' hw' => ?_) ?_ ?_
  rotate_left 2
  · go_simp
    with_reducible rfl
  · simp only [Act.put, List.setIfInBounds_toArray, List.set_cons_zero, List.set_cons_succ, Go.Proofs.YtdfahblgnbdndaaDoorW.PrintLast.i64_w, Go.Proofs.YtdfahblgnbdndaaDoorW.PrintLast.i32_w]
    rfl
  refine seq_take (v := ?_) (a' := ?_) rfl rfl (by rfl) (fun w' hw' => ?_) ?_ ?_
  rotate_left 2
  · have hm : IntKind.i64.wrap (16777216 * x3) = 16777216 * x3 := (by rw [IntKind.wrap_i64]; omega); go_simp
    with_reducible rfl
  · simp only [Act.put, List.setIfInBounds_toArray, List.set_cons_zero, List.set_cons_succ, Go.Proofs.YtdfahblgnbdndaaDoorW.PrintLast.i64_w, Go.Proofs.YtdfahblgnbdndaaDoorW.PrintLast.i32_w]
    rfl
  refine seq_take (v := ?_) (a' := ?_) rfl rfl (by rfl) (fun w' hw' => ?_) ?_ ?_
  rotate_left 2
  · have hm : IntKind.i64.wrap (x0 + 256 * x1 + 65536 * x2 + 16777216 * x3) = x0 + 256 * x1 + 65536 * x2 + 16777216 * x3 := (by rw [IntKind.wrap_i64]; omega); go_simp
    with_reducible rfl
  · simp only [Act.put, List.setIfInBounds_toArray, List.set_cons_zero, List.set_cons_succ, Go.Proofs.YtdfahblgnbdndaaDoorW.PrintLast.i64_w, Go.Proofs.YtdfahblgnbdndaaDoorW.PrintLast.i32_w]
    rfl
  refine seq_take (v := ?_) (a' := ?_) rfl rfl (by rfl) (fun w' hw' => ?_) ?_ ?_
  rotate_left 2
  · go_simp
    with_reducible rfl
  · simp only [Act.put, List.setIfInBounds_toArray, List.set_cons_zero, List.set_cons_succ, Go.Proofs.YtdfahblgnbdndaaDoorW.PrintLast.i64_w, Go.Proofs.YtdfahblgnbdndaaDoorW.PrintLast.i32_w]
    rfl
  refine seq_endN ?_
  go_wp2
  go_ret
  exact ⟨by rw [hv]; rfl, Below.drew (Below.refl _ _)⟩
/-- A string's byte; the rest of a string; its beginning. -/
theorem str_index {W : World} {z : List Int} (hb : Bytes z) (i : Int) (h0 : 0 ≤ i) (h1 : i < z.length) : (Instr.index 9 (.string (strOfNums z)) (.int .i64 i)).run Tryd.prog W = .ok (.int .u8 (rd z i)) W := by
  rw [run_index_string W 9 _ .i64 i Tryd.underlying9, dif_pos ⟨h0, by rw [size_str]; exact h1⟩]
  congr 2
  have hlt : i.toNat < z.length := by omega
  have h2 : (bytesOf (strOfNums z))[i.toNat]? = some (((strOfNums z)[i.toNat]'(by rw [size_str]; exact hlt)).toNat : Int) := by
    unfold bytesOf
    rw [List.getElem?_map, Array.getElem?_toList, Array.getElem?_eq_getElem (by rw [ByteArray.size_data, size_str]; exact hlt)]
    rfl
  rw [bytesOf_str hb, List.getElem?_eq_getElem hlt] at h2
  have h3 := Option.some.inj h2
  rw [← h3]
  simp [rd, List.getD_eq_getElem?_getD, List.getElem?_eq_getElem hlt]
theorem extract_from (b : ByteArray) (m : Nat) : b.extract m b.size = strOfNums ((bytesOf b).drop m) := by
  apply bytesOf_inj
  rw [bytesOf_str ((bytesOf_bytes b).drop m)]
  unfold bytesOf
  rw [← List.map_drop, ByteArray.data_extract, Array.toList_extract]
  simp only [List.extract]
  rw [List.take_of_length_le (by rw [List.length_drop, Array.length_toList, ByteArray.size_data]; omega)]
theorem str_from {W : World} {z : List Int} (hb : Bytes z) (m : Nat) (h : m ≤ z.length) : (Instr.slice 9 (.string (strOfNums z)) (some (.int .i64 (m : Int))) none none).run Tryd.prog W = .ok (.string (strOfNums (z.drop m))) W := by
  rw [run_slice_string_l W 9 _ Tryd.underlying9 .i64 (m : Int) (by omega) (by rw [size_str]; omega), Int.toNat_natCast, extract_from, bytesOf_str hb]
theorem str_upto {W : World} {z : List Int} (hb : Bytes z) (m : Nat) (h : m ≤ z.length) : (Instr.slice 9 (.string (strOfNums z)) none (some (.int .i64 (m : Int))) none).run Tryd.prog W = .ok (.string (strOfNums (z.take m))) W := by
  rw [run_slice_string_h W 9 _ Tryd.underlying9 .i64 (m : Int) (by omega) (by rw [size_str]; omega), Int.toNat_natCast, extract_str, bytesOf_str hb]
theorem ofInt_i64 (a : Nat) (h : a < 18446744073709551616) : (BitVec.ofInt 64 (a : Int)).toNat = a := by
  simp [BitVec.toNat_ofInt]
  omega
theorem i64_or_nat (a b : Nat) (ha : a < 9223372036854775808) (hb : b < 9223372036854775808) : Go.bits .or .i64 (a : Int) (b : Int) = ((a ||| b : Nat) : Int) := by
  have hx : a ||| b < 2 ^ 63 := Nat.or_lt_two_pow (by omega) (by omega)
  show IntKind.i64.wrap ((BitVec.ofInt 64 (a : Int) ||| BitVec.ofInt 64 (b : Int)).toNat : Int) = _
  rw [BitVec.toNat_or, ofInt_i64 a (by omega), ofInt_i64 b (by omega), IntKind.wrap_i64]
  omega
theorem i64_join8 (s x : Int) (h0 : 0 ≤ s) (h1 : s < 16777216) (h2 : 0 ≤ x) (h3 : x < 256) : Go.bits .or .i64 (256 * s) x = 256 * s + x := by
  obtain ⟨a, rfl⟩ := Int.eq_ofNat_of_zero_le h0
  obtain ⟨b, rfl⟩ := Int.eq_ofNat_of_zero_le h2
  have := i64_or_nat (256 * a) b (by omega) (by omega)
  rw [show (256 * (a : Int)) = ((256 * a : Nat) : Int) by omega, this, nat_join 8 (256 * a) b (by omega) (by omega)]
  omega
/-- The number behind j of its bytes, the highest one first. -/
def nv (z : List Int) : Nat → Int
  | 0 => 0
  | j + 1 => 256 * nv z j + rd z (3 - (j : Int))
theorem nv4 (z : List Int) : nv z 4 = num z 0 := by
  simp only [nv, num]
  simp
  omega
theorem nv_range {z : List Int} (h : Bytes z) : ∀ j, j < 4 → 0 ≤ nv z j ∧ nv z j < 16777216 := by
  intro j hj
  have b1 := h.at_ 3
  have b2 := h.at_ 2
  have b3 := h.at_ 1
  have e1 : nv z 1 = rd z 3 := by simp [nv]
  have e2 : nv z 2 = 256 * rd z 3 + rd z 2 := by simp [nv]
  have e3 : nv z 3 = 256 * (256 * rd z 3 + rd z 2) + rd z 1 := by simp [nv]
  obtain rfl | rfl | rfl | rfl : j = 0 ∨ j = 1 ∨ j = 2 ∨ j = 3 := by omega
  · simp [nv]
  · rw [e1]; omega
  · rw [e2]; omega
  · rw [e3]; omega
/-- The reader holds the bytes z. -/
def RdG (w : World) (g : Nat) (z : List Int) : Prop := w.heap[g]? = some (.cells #[.string (strOfNums z)] 87 (0, 0))
theorem RdG.cell {w : World} {g : Nat} {z : List Int} (h : RdG w g z) : w.cell? ⟨g, 0, none⟩ = some (.string (strOfNums z)) := by
  rw [blk_cell h]; rfl
set_option maxRecDepth 20000 in
set_option maxHeartbeats 1600000 in
theorem rdnum_calls (g : Nat) (z : List Int) (w : World) (hz : Bytes z) (hl : 4 ≤ z.length) (h : RdG w g z) :
    Calls Tryd.prog 50 #[.pointer (some ⟨g, 0, none⟩)] w fun e w' => e = .returned (.int .i64 (num z 0)) ∧ SetBlk w w' g (.cells #[.string (strOfNums (z.drop 4))] 87 (0, 0)) := by
  have HS := Aside0.mk h
  have hc := h.cell
  have hf : w.frozen? ⟨g, 0, none⟩ = false := blk_frozen h 0
  have HZ := Aside0.mk hz
  clear h hz
  go_enter Tryd.func50, Tryd.ntmps50
  go_wp2
  go_loopw [3, 4] (fun n i wr => ∃ j : Nat, j ≤ 4 ∧ n = .int .i64 (nv z j) ∧ i = .int .i64 (3 - (j : Int)) ∧ wr = w) (fun _ i _ => (intOf i + 1).toNat)
  case atStart => exact ⟨0, by omega, rfl, rfl, rfl⟩
  case round =>
    obtain ⟨j, hj, rfl, rfl, rfl⟩ := hrel
    by_cases hlt : j < 4
    · obtain ⟨r0, r1⟩ := nv_range HZ.out j hlt
      have bj := HZ.out.at_ (3 - (j : Int))
      have HSV : Aside0 (nv z (j + 1) = 256 * nv z j + rd z (3 - (j : Int))) := ⟨rfl⟩
      have hjn := i64_join8 (nv z j) (rd z (3 - (j : Int))) r0 r1 bj.1 bj.2
      have hix : ∀ W, (Instr.index 9 (.string (strOfNums z)) (.int .i64 (3 - (j : Int)))).run Tryd.prog W = .ok (.int .u8 (rd z (3 - (j : Int)))) W := fun W => str_index HZ.out _ (by omega) (by omega)
      generalize nv z j = sv at *
      generalize rd z (3 - (j : Int)) = x at *
      have fx : IntKind.i64.wrap x = x := by rw [IntKind.wrap_i64]; omega
      have fs : IntKind.i64.wrap (sv * 256) = 256 * sv := by rw [IntKind.wrap_i64]; omega
      have f0 : 0 ≤ 3 - (j : Int) := by omega
      clear bj
      go_wp2
      go_roundw
      case rel => exact ⟨j + 1, by omega, by rw [HSV.out], by go_num, by simp⟩
      case measure => simp [intOf]; omega
    · obtain rfl : j = 4 := by omega
      have hsl : ∀ W, (Instr.slice 9 (.string (strOfNums z)) (some (.int .i64 4)) none none).run Tryd.prog W = .ok (.string (strOfNums (z.drop 4))) W := fun W => str_from HZ.out 4 hl
      have HSET : Aside0 (SetBlk wr (wr.setCell ⟨g, 0, none⟩ (.string (strOfNums (z.drop 4)))) g (.cells #[.string (strOfNums (z.drop 4))] 87 (0, 0))) := ⟨setBlk_cell HS.out _⟩
      go_wp2
      go_ret
      exact ⟨by rw [← nv4]; rfl, HSET.out⟩
theorem infoDg : (Tryd.prog.info? 26).map (fun i => (i.zero, i.size, i.bytes)) = some (some (.agg (Nm Z32).toArray), 32, 32) := by kernel_rfl
section
variable {ops : Array Oper} {rest : List Oper} {o : Oper} {a : Act} {Q : Exit → Act → World → Prop} {w : World}
theorem new_dg {o1 o2 : Oper} {N : Tmp} (hg1 : o1.guard = none) (hg2 : o2.guard = none) (hd1 : o1.dst = some N) (ho1 : o1.op = .alloc 26) (y : Operand) (ho2 : o2.op = .store 26 (.tmp N) y) (hN : N < a.tmps.size) {nm : List Int}
    (hy : (a.put (some N) (.pointer (some ⟨w.heap.size, 0, none⟩))).eval y = .agg (Nm nm).toArray) (hn : nm.length = 32)
    (h : ∀ w1 g, NewBlk w w1 g (.cells (Nm nm).toArray 26 (0, 0)) → wpList Tryd.prog ops Q rest ((a.put (some N) (.pointer (some ⟨g, 0, none⟩))).put o2.dst undef) w1) : wpList Tryd.prog ops Q (o1 :: o2 :: rest) a w := by
  obtain ⟨it, hi, hz, hs, _⟩ := info_parts infoDg
  exact new_var hg1 hg2 hd1 _ ho1 y ho2 hN hy hi hz (by rw [Nm_len, hn]; rfl) (by rw [hs, Nm_len, hn]) (Nm_one nm) h
end
theorem rng_rd {w : World} {g o n : Nat} {xs : List Int} (h : RdB w (some ⟨g, o, none⟩) n xs) : w.rangeAt g o (Nm xs) := by
  intro i v hv
  simp only [Nm, List.getElem?_map] at hv
  have hl := h.1
  rcases hx : xs[i]? with _ | x
  · rw [hx] at hv; cases hv
  · rw [hx] at hv
    obtain rfl := Option.some.inj hv
    have hi := (List.getElem?_eq_some_iff.1 hx).1
    have := rd_at h i (by omega)
    rw [show (Addr.add ⟨g, o, none⟩ i) = ⟨g, o + i, none⟩ from by unfold Addr.add; split <;> simp_all] at this
    rw [this]
    simp [rd, List.getD_eq_getElem?_getD, hx]
set_option maxRecDepth 20000 in
set_option maxHeartbeats 1600000 in
theorem rddig_calls (g : Nat) (z : List Int) (w : World) (hz : Bytes z) (hl : 32 ≤ z.length) (h : RdG w g z) :
    Calls Tryd.prog 51 #[.pointer (some ⟨g, 0, none⟩)] w fun e w' => e = .returned (.agg (Nm (z.take 32)).toArray) ∧ RdG w' g (z.drop 32) ∧ Fr w w' (fun k => k = g) := by
  have HS := Aside0.mk h
  have HZ := Aside0.mk hz
  have hgl : g < w.heap.size := blk_lt h
  have hc : ∀ o, (w.alloc o).cell? ⟨g, 0, none⟩ = some (.string (strOfNums z)) := fun o => RdG.cell (blk_below (below_alloc (Below.refl _ w) o) h)
  have Q0 : Aside0 (∀ o, Bag w (w.alloc (.cells o 26)) [(w.heap.size, .cells o 26 (0, 0))]) := ⟨fun o => (Bag.nil w).box o 26⟩
  have hup : ∀ W : World, (Instr.slice 9 (.string (strOfNums z)) none (some (.int .i64 32)) none).run Tryd.prog W = .ok (.string (strOfNums (z.take 32))) W := fun W => str_upto hz 32 hl
  have hsl : ∀ W : World, (Instr.slice 9 (.string (strOfNums z)) (some (.int .i64 32)) none none).run Tryd.prog W = .ok (.string (strOfNums (z.drop 32))) W := fun W => str_from hz 32 hl
  obtain ⟨nm, hnm⟩ : ∃ nm, z.take 32 = nm := ⟨_, rfl⟩
  obtain ⟨zr, hzr⟩ : ∃ zr, z.drop 32 = zr := ⟨_, rfl⟩
  have hnl : nm.length = 32 := by rw [← hnm, List.length_take]; omega
  have HNB : Aside0 (Bytes nm) := ⟨by rw [← hnm]; exact hz.take _⟩
  rw [hnm] at hup
  rw [hzr] at hsl
  rw [hnm, hzr]
  have hsz : (strOfNums nm).size = 32 := by rw [size_str, hnl]
  have hat : ∀ (W : World) (g2 c2 : Nat), (Instr.arrayAt 26 (.slice (some ⟨g2, 0, none⟩) 32 c2)).run Tryd.prog W = .ok (.pointer (some ⟨g2, 0, none⟩)) W := fun W g2 c2 => run_arrayAt W 26 _ 32 _ 32 c2 Tryd.underlying26 (Nat.le_refl _)
  have HNL := Aside0.mk hnl
  clear h hz hnm hzr hnl
  go_enter Tryd.func51, Tryd.ntmps51
  go_wp2_with (first
    | ((with_reducible refine at_cv 9 33 ?_); refine conv_new rfl _ rfl rfl (by rw [hsz]; omega) ?_; rintro g2 c2 w1 HR hc2 hg2 hB1; rw [hsz, bytesOf_str HNB.out] at HR; have HR1 := Aside0.mk HR; have Q1 := (Q0.out _).call hB1; clear HR hc2 hg2 hB1)
    | ((with_reducible refine at_ld 26 (.tmp 10) ?_); refine load_arm rfl 26 (.tmp 10) rfl rfl (run_loadAt_mid _ g2 0 26 (Nm nm) _ (rng_rd HR1.out) Tryd.underlying26 rfl (size_d nm HNL.out)) ?_; simp only [Act.put, List.setIfInBounds_toArray, List.set_cons_zero, List.set_cons_succ])
    | ((with_reducible refine at_al 26 ?_); refine new_dg rfl rfl rfl rfl (.tmp 11) rfl (of_decide_eq_true rfl) rfl HNL.out ?_; rintro w2 g3 N2; have Q2 := Q1.new N2; have hG : RdG w2 g z := (Q2.below.block g hgl).trans HS.out; have hc3 := hG.cell; have hf3 : w2.frozen? ⟨g, 0, none⟩ = false := blk_frozen hG 0; have S3 := Aside0.mk (setBlk_cell (i := 0) hG (.string (strOfNums zr))); have G3 := Aside0.mk N2.ge; clear N2 hG Q1)
    | ((with_reducible refine at_ld 26 (.tmp 3) ?_); refine load_arm rfl 26 (.tmp 3) rfl rfl (ld_row (S3.out.blk (by have := Q2.ge _ (List.mem_of_getElem? (i := 1) rfl); simp only at this; omega) (Q2.at 1 rfl)) 26 _ Tryd.underlying26 rfl (by rw [List.size_toArray]; exact size_d nm HNL.out)) ?_; simp only [Act.put, List.setIfInBounds_toArray, List.set_cons_zero, List.set_cons_succ])
    | ((with_reducible refine at_st 26 (.tmp 2) (.tmp 20) ?_); refine store_blk rfl 26 (.tmp 2) (.tmp 20) rfl rfl rfl (S3.out.blk (by omega) (Q2.at 0 rfl)) (by rw [Nm_len, HNL.out]; rfl) (size_d nm HNL.out) (Nm_one nm) ?_; rintro w4 S4)
    | fail)
  (try simp only [Exit.inBlock, Exit.then])
  refine bodyPost_ret (v := .agg (Nm nm).toArray) (results_cell_row rfl _ _ w.heap.size _ _ _ _ rfl S4.at_ Tryd.underlying26 rfl ?_) rfl ⟨rfl, S4.blk (by omega) S3.out.at_, ((Fr.later (S := fun k => k = g) Q2.below).set S3.out (.inl rfl)).set S4 (.inr (Nat.le_refl _))⟩
  rw [size_d nm HNL.out, List.size_toArray]
theorem rdnum_fr {w w' : World} {g : Nat} {o : Obj} (h : SetBlk w w' g o) : Fr w w' (fun k => k = g) := (Fr.refl w _).set h (.inl rfl)
end Go.Proofs.YtdfahblgnbdndaaDoor
