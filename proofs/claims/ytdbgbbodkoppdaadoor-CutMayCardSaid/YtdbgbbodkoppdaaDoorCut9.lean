/- lighterageref01.SameInts, same, lives. Conditions: their own. -/
import Derived.Test.YtdbgbbodkoppdaaDoorCut8
import Derived.Lib.SlBytesConst
namespace Go.Proofs.YtdbgbbodkoppdaaDoor
open Go.RowKit Go.Shelf Go.Proofs.YtdbgbbodkoppdaaDoorW.PrintWords Go.Proofs.YtdbgbbodkoppdaaDoorW.PrintMore
set_option linter.unusedVariables false
set_option linter.unusedSimpArgs false
theorem rdN_at {w : World} {ad : Addr} {n : Nat} {xs : List Int} (h : RdN w (some ad) n xs) (i : Nat) (hi : i < n) : w.cell? (ad.add i) = some (.int .i64 (xs.getD i 0)) := by
  obtain ⟨_, _, hc⟩ := Kd.reads_of_C (d := (0 : Int)) h
  obtain ⟨ad', he, hx⟩ := hc (by omega)
  injection he with he
  subst he
  exact hx i hi
theorem rdN_lit (W : World) (xs : List Int) (cs : Array Value) (fr : Nat × Nat) (n : Nat) (hcs : cs = (xs.map (Value.int .i64)).toArray) (hn : n = xs.length) (hm : xs.length ≤ 9223372036854775807) :
    RdN (W.alloc (.cells cs 3 fr)) (some ⟨W.heap.size, 0, none⟩) n xs := by
  subst hcs; subst hn
  refine Kd.C_of_reads (d := (0 : Int)) ⟨rfl, hm, fun _ => ⟨_, rfl, fun j hj => ?_⟩⟩
  rw [add_plain, World.cell?_alloc_mark]
  simp [List.getD_eq_getElem?_getD, List.getElem?_eq_getElem hj]
theorem rdN_some {w : World} {A : Option Addr} {n : Nat} {xs : List Int} (h : RdN w A n xs) (hp : 0 < n) : ∃ ad, A = some ad := by
  obtain ⟨ad, he, _⟩ := (Kd.reads_of_C (d := (0 : Int)) h).2.2 hp
  exact ⟨ad, he⟩
set_option maxRecDepth 20000 in
theorem sameInts_calls (A B : Option Addr) (n c d : Nat) (xs : List Int) (w : World) (hx : RdN w A n xs) (hy : RdN w B n xs) (hn : n ≤ 1099511627776) :
    Calls Tryd.prog 25 #[.slice A n c, .slice B n d] w fun e w' => e = .returned (.bool true) ∧ Below w.heap.size w w' := by
  have HX := Aside0.mk hx
  have HY := Aside0.mk hy
  clear hx hy
  go_enter Tryd.func25, Tryd.ntmps25
  go_wp2
  go_loopw [5] (fun i wr => ∃ k : Nat, k ≤ n ∧ i = .int .i64 k ∧ Below w.heap.size w wr) (fun i _ => n - (intOf i).toNat)
  case atStart => exact ⟨0, Nat.zero_le _, rfl, Below.refl _ _⟩
  case round =>
    obtain ⟨k, hk, rfl, hB⟩ := hrel
    have HB := Aside0.mk hB
    clear hB
    by_cases hlt : k < n
    · obtain ⟨ad, rfl⟩ := rdN_some HX.out (by omega)
      obtain ⟨bd, rfl⟩ := rdN_some HY.out (by omega)
      have hc1 := rdN_at (Kd.C_below HX.out HB.out) k hlt
      have hc2 := rdN_at (Kd.C_below HY.out HB.out) k hlt
      generalize xs.getD k 0 = x at *
      go_wp2_with fail
      go_quiet (fail)
      have HB2 : Aside0 (Below w.heap.size w (wr.drewN nq)) := ⟨HB.out.trans ((pw_below_drewN (Below.refl wr.heap.size wr) nq).mono HB.out.size)⟩
      go_wp2
      go_roundw
      case rel => exact ⟨k + 1, by omega, by go_num, HB2.out⟩
      case measure => simp [intOf]; omega
    · obtain rfl : k = n := by omega
      go_wp2
      (try simp only [Exit.inBlock, Exit.then])
      exact bodyPost_ret (results_tmp rfl _ _ _) rfl ⟨rfl, HB.out⟩
theorem rdS_some {w : World} {A : Option Addr} {n : Nat} {xs : List S3} (h : RdS w A n xs) (hp : 0 < n) : ∃ ad, A = some ad := by
  obtain ⟨ad, he, _⟩ := (Kd.reads_of_C (d := ((none, 0, 0) : S3)) h).2.2 hp
  exact ⟨ad, he⟩
theorem chR_at {w : World} {ad : Addr} {n : Nat} {L : List (S3 × List Int)} (h : ChR w L) (hr : RdS w (some ad) n (L.map (·.1))) (k : Nat) (hk : k < n) :
    ∃ A c, w.cell? (ad.add k) = some (.slice A ((L.map (·.2)).getD k []).length c) ∧ RdB w A ((L.map (·.2)).getD k []).length ((L.map (·.2)).getD k []) ∧ ((L.map (·.2)).getD k []).length ≤ c := by
  have hn : k < L.length := by have := hr.1; simp at this; omega
  have hc := rdS_at hr k hk
  have e1 : (L.map (·.1)).getD k (none, 0, 0) = L[k].1 := by simp [List.getD_eq_getElem?_getD, hn]
  have e2 : (L.map (·.2)).getD k [] = L[k].2 := by simp [List.getD_eq_getElem?_getD, hn]
  obtain ⟨h1, h2, h3, _⟩ := h _ (List.getElem_mem hn)
  rw [e1] at hc
  rw [e2]
  refine ⟨_, _, hc.trans ?_, h1, h3⟩
  rw [← h2]
  rfl
set_option maxRecDepth 20000 in
theorem same_calls (A B : Option Addr) (n m c d : Nat) (L M : List (S3 × List Int)) (w : World) (hx : RdS w A n (L.map (·.1))) (hy : RdS w B m (M.map (·.1))) (hL : ChR w L) (hM : ChR w M) (he : L.map (·.2) = M.map (·.2)) (hn : n ≤ 1099511627776) :
    Calls Tryd.prog 20 #[.slice A n c, .slice B m d] w fun e w' => e = .returned (.bool true) ∧ Below w.heap.size w w' := by
  obtain rfl : n = m := by
    have h1 := hx.1
    have h2 := hy.1
    have h3 := congrArg List.length he
    simp at h1 h2 h3
    omega
  have HX := Aside0.mk hx
  have HY := Aside0.mk hy
  have HL := Aside0.mk hL
  have HM := Aside0.mk hM
  have HE := Aside0.mk he
  clear hx hy hL hM he
  go_enter Tryd.func20, Tryd.ntmps20
  go_wp2
  go_loopw [5] (fun i wr => ∃ k : Nat, k ≤ n ∧ i = .int .i64 k ∧ Below w.heap.size w wr) (fun i _ => n - (intOf i).toNat)
  case atStart => exact ⟨0, Nat.zero_le _, rfl, Below.refl _ _⟩
  case round =>
    obtain ⟨k, hk, rfl, hB⟩ := hrel
    have HB := Aside0.mk hB
    clear hB
    by_cases hlt : k < n
    · obtain ⟨ad, rfl⟩ := rdS_some HX.out (by omega)
      obtain ⟨bd, rfl⟩ := rdS_some HY.out (by omega)
      obtain ⟨X, hX⟩ : ∃ X, (M.map (·.2)).getD k [] = X := ⟨_, rfl⟩
      obtain ⟨a1, c1, hc1, hr1, -⟩ := chR_at HL.out HX.out k hlt
      obtain ⟨a2, c2, hc2, hr2, -⟩ := chR_at HM.out HY.out k hlt
      rw [HE.out, hX] at hc1 hr1
      rw [hX] at hc2 hr2
      replace hc1 := pw_cell_below HB.out hc1
      replace hc2 := pw_cell_below HB.out hc2
      have HR1 := Aside0.mk (Kd.C_below hr1 HB.out)
      have HR2 := Aside0.mk (Kd.C_below hr2 HB.out)
      clear hX hr1 hr2
      go_wp2_with fail
      refine seq_start [] (.take 0 (.take 1 (.take 2 (.take 3 (.take 4 (.take 5 (.take 6 (.take 7 (.take 8 (.take 9 (.take 10 .done))))))))))) (by kernel_rfl) (by kernel_rfl) (fun _ _ d _ _ h => by cases d <;> exact h) ?_
      refine seq_take (v := ?_) (a' := ?_) rfl rfl (by rfl) (fun w' hw' => ?_) ?_ ?_
      rotate_left 2
      · go_simp
        with_reducible rfl
      · simp only [Act.put, List.setIfInBounds_toArray, List.set_cons_zero, List.set_cons_succ, Go.Proofs.YtdbgbbodkoppdaaDoorW.PrintLast.i64_w, Go.Proofs.YtdbgbbodkoppdaaDoorW.PrintLast.i32_w]
        rfl
      refine seq_take (v := ?_) (a' := ?_) rfl rfl (by rfl) (fun w' hw' => ?_) ?_ ?_
      rotate_left 2
      · go_simp
        with_reducible rfl
      · simp only [Act.put, List.setIfInBounds_toArray, List.set_cons_zero, List.set_cons_succ, Go.Proofs.YtdbgbbodkoppdaaDoorW.PrintLast.i64_w, Go.Proofs.YtdbgbbodkoppdaaDoorW.PrintLast.i32_w]
        rfl
      refine seq_take (v := ?_) (a' := ?_) rfl rfl (by rfl) (fun w' hw' => ?_) ?_ ?_
      rotate_left 2
      · go_simp
        with_reducible rfl
      · simp only [Act.put, List.setIfInBounds_toArray, List.set_cons_zero, List.set_cons_succ, Go.Proofs.YtdbgbbodkoppdaaDoorW.PrintLast.i64_w, Go.Proofs.YtdbgbbodkoppdaaDoorW.PrintLast.i32_w]
        rfl
      refine seq_take (v := ?_) (a' := ?_) rfl rfl (by rfl) (fun w' hw' => ?_) ?_ ?_
      rotate_left 2
      · have hq := pw_cell_below hw' (show wr.drew.cell? (ad.add k) = _ from hc1); go_simp
        with_reducible rfl
      · simp only [Act.put, List.setIfInBounds_toArray, List.set_cons_zero, List.set_cons_succ, Go.Proofs.YtdbgbbodkoppdaaDoorW.PrintLast.i64_w, Go.Proofs.YtdbgbbodkoppdaaDoorW.PrintLast.i32_w]
        rfl
      refine seq_take (v := ?_) (a' := ?_) rfl rfl (by rfl) (fun w' hw' => ?_) ?_ ?_
      rotate_left 2
      · have hq := conv_str (Kd.C_below (Kd.C_drew HR1.out) hw') c1; go_simp
        with_reducible rfl
      · simp only [Act.put, List.setIfInBounds_toArray, List.set_cons_zero, List.set_cons_succ, Go.Proofs.YtdbgbbodkoppdaaDoorW.PrintLast.i64_w, Go.Proofs.YtdbgbbodkoppdaaDoorW.PrintLast.i32_w]
        rfl
      refine seq_take (v := ?_) (a' := ?_) rfl rfl (by rfl) (fun w' hw' => ?_) ?_ ?_
      rotate_left 2
      · go_simp
        with_reducible rfl
      · simp only [Act.put, List.setIfInBounds_toArray, List.set_cons_zero, List.set_cons_succ, Go.Proofs.YtdbgbbodkoppdaaDoorW.PrintLast.i64_w, Go.Proofs.YtdbgbbodkoppdaaDoorW.PrintLast.i32_w]
        rfl
      refine seq_take (v := ?_) (a' := ?_) rfl rfl (by rfl) (fun w' hw' => ?_) ?_ ?_
      rotate_left 2
      · go_simp
        with_reducible rfl
      · simp only [Act.put, List.setIfInBounds_toArray, List.set_cons_zero, List.set_cons_succ, Go.Proofs.YtdbgbbodkoppdaaDoorW.PrintLast.i64_w, Go.Proofs.YtdbgbbodkoppdaaDoorW.PrintLast.i32_w]
        rfl
      refine seq_take (v := ?_) (a' := ?_) rfl rfl (by rfl) (fun w' hw' => ?_) ?_ ?_
      rotate_left 2
      · go_simp
        with_reducible rfl
      · simp only [Act.put, List.setIfInBounds_toArray, List.set_cons_zero, List.set_cons_succ, Go.Proofs.YtdbgbbodkoppdaaDoorW.PrintLast.i64_w, Go.Proofs.YtdbgbbodkoppdaaDoorW.PrintLast.i32_w]
        rfl
      refine seq_take (v := ?_) (a' := ?_) rfl rfl (by rfl) (fun w' hw' => ?_) ?_ ?_
      rotate_left 2
      · have hq := pw_cell_below hw' (show wr.drew.cell? (bd.add k) = _ from hc2); go_simp
        with_reducible rfl
      · simp only [Act.put, List.setIfInBounds_toArray, List.set_cons_zero, List.set_cons_succ, Go.Proofs.YtdbgbbodkoppdaaDoorW.PrintLast.i64_w, Go.Proofs.YtdbgbbodkoppdaaDoorW.PrintLast.i32_w]
        rfl
      refine seq_take (v := ?_) (a' := ?_) rfl rfl (by rfl) (fun w' hw' => ?_) ?_ ?_
      rotate_left 2
      · have hq := conv_str (Kd.C_below (Kd.C_drew HR2.out) hw') c2; go_simp
        with_reducible rfl
      · simp only [Act.put, List.setIfInBounds_toArray, List.set_cons_zero, List.set_cons_succ, Go.Proofs.YtdbgbbodkoppdaaDoorW.PrintLast.i64_w, Go.Proofs.YtdbgbbodkoppdaaDoorW.PrintLast.i32_w]
        rfl
      refine seq_take (v := ?_) (a' := ?_) rfl rfl (by rfl) (fun w' hw' => ?_) ?_ ?_
      rotate_left 2
      · go_simp
        with_reducible rfl
      · simp only [Act.put, List.setIfInBounds_toArray, List.set_cons_zero, List.set_cons_succ, Go.Proofs.YtdbgbbodkoppdaaDoorW.PrintLast.i64_w, Go.Proofs.YtdbgbbodkoppdaaDoorW.PrintLast.i32_w]
        rfl
      refine seq_end ?_
      have HB2 : Aside0 (Below w.heap.size w wr.drew) := ⟨Below.drew HB.out⟩
      go_wp2
      go_roundw
      case rel => exact ⟨k + 1, by omega, by go_num, HB2.out⟩
      case measure => simp [intOf]; omega
    · obtain rfl : k = n := by omega
      go_wp2
      (try simp only [Exit.inBlock, Exit.then])
      exact bodyPost_ret (results_tmp rfl _ _ _) rfl ⟨rfl, HB.out⟩
theorem lives_val : lens (al 2 2 (pw 2) [] [97, 98, 99, 100, 101]) = [2, 2, 1] := by decide +kernel
theorem lives_len : (al 2 2 (pw 2) [] [97, 98, 99, 100, 101]).length = 3 := by decide +kernel
set_option maxRecDepth 20000 in
theorem lives_calls (w : World) : Calls Tryd.prog 15 #[] w fun e w' => e = .returned (.bool true) ∧ Below w.heap.size w w' := by
  have kc := fun (w : World) (C : Array Value) (n c : Nat) => Lib.run_convert_bytes_const (P := Tryd.prog) w 35 5 C n c Tryd.underlying35 Tryd.underlying5
  go_enter Tryd.func15, Tryd.ntmps15
  go_wp2_with (first
    | (go_at_call 9; refine (sizes_calls 2 2 2 (some ⟨w.heap.size, 0, none⟩) 5 5 [97, 98, 99, 100, 101] (al 2 2 (pw 2) [] [97, 98, 99, 100, 101]) _ (by decide) (tells_ok 2 2 2 _ _ _ _ (by intro x hx; simp at hx; omega) (by decide) (by omega)) (rd_lit w _ _ _ _ rfl rfl (by simp)) (by rw [lives_len]; omega)).mono ?_; rw [lives_val]; rintro e w2 ⟨v, rfl, hQ, hB⟩; obtain ⟨A, c, rfl, hc, hr⟩ := Kd.R_reads hQ; have HB := Aside0.mk hB; have HR := Aside0.mk hr; clear hQ hB hr)
    | (go_at_call 25; refine (sameInts_calls A _ 3 c _ [2, 2, 1] _ (Kd.C_alloc HR.out _) (rdN_lit w2 _ _ _ _ rfl rfl (by simp)) (by omega)).mono ?_; rintro e w3 ⟨rfl, hB⟩; have HB3 := Aside0.mk hB; clear hB))
  have B2 := Below.trans (below_alloc (Below.refl _ w) _) (HB.out.mono (by simp))
  have B3 := Below.trans (below_alloc (Below.refl _ w2) _) (HB3.out.mono (by simp))
  go_ret
  exact ⟨rfl, B2.trans (B3.mono B2.size)⟩
end Go.Proofs.YtdbgbbodkoppdaaDoor
