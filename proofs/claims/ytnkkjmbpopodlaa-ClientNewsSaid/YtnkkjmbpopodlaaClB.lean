/- The walk of ClientNews. Conditions: its own. -/
import Derived.Test.YtnkkjmbpopodlaaClA
namespace Go.Proofs.Ytnkkjmbpopodlaa
open Go.RowKit Go.Proofs.YtnkkjmbpopodlaaW.PrintWords Go.Proofs.YtnkkjmbpopodlaaW.PrintMore
set_option linter.unusedVariables false
set_option linter.unusedSimpArgs false
theorem askedN_new (l : List Int) (window timeout tries : Int) : askedN (clOf l window timeout tries).L = 0 := by
  unfold askedN
  rw [List.length_eq_zero_iff, List.filter_eq_nil_iff]
  intro x hx
  have := (newL_nm (by simp) (namesL_all l) x hx).2.2.1
  simp [this]
theorem rdZ_lit {w : World} {g : Nat} {xs : List Int} (h : w.heap[g]? = some (.cells (xs.map (Value.int .i64)).toArray 3 (0, 0))) {k : Nat} (hk : k < xs.length) : w.cell? ⟨g, k, none⟩ = some (.int .i64 (rd xs k)) := by
  rw [blk_cell h]
  simp [rd, List.getD_eq_getElem?_getD, List.getElem?_eq_getElem hk]
theorem isRowZ_read {w : World} {a : Option Addr} {len cap : Nat} {zs : List Int}
    (h : (a = none ∧ len = 0 ∧ cap = 0 ∧ zs = []) ∨ ∃ x, a = some x ∧ len ≤ cap ∧ cap ≤ maxLen ∧ zs.length = cap ∧ (∀ i, i < zs.length → w.cell? (x.add i) = some (.int .i64 (zs.getD i 0))) ∧ ∀ n ∈ zs, (Lit.int .i64 n).wf = true) :
    RdZ w a len (zs.take len) ∧ len ≤ cap ∧ I64 (zs.take len) := by
  rcases h with ⟨rfl, rfl, rfl, rfl⟩ | ⟨x, rfl, hl, hm, hz, hc, hw⟩
  · exact ⟨Kd.C_nil _ _, Nat.le_refl _, by intro x hx; simp at hx⟩
  · refine ⟨Kd.C_of_reads (d := (0 : Int)) ⟨by rw [List.length_take]; omega, by simp only [maxLen] at hm; omega, fun _ => ⟨_, rfl, fun j hj => ?_⟩⟩, hl, ?_⟩
    · rw [hc j (by omega)]
      simp [List.getD_eq_getElem?_getD, List.getElem?_take, hj]
    · intro n hn
      exact wf_i64 (hw n (List.mem_of_mem_take hn))
set_option maxRecDepth 20000 in
set_option maxHeartbeats 6400000 in
theorem clientNews_walk (A : Option Addr) (n cp : Nat) (l : List Int) (window timeout tries : Int) (w : World) (h : RdZ w A n l) (hl : I64 l) (b1 : -9223372036854775808 ≤ window ∧ window ≤ 9223372036854775807) (b2 : -9223372036854775808 ≤ timeout ∧ timeout ≤ 9223372036854775807) (b3 : -9223372036854775808 ≤ tries ∧ tries ≤ 9223372036854775807) :
    Calls Try.prog 3 #[.slice A n cp, .int .i64 window, .int .i64 timeout, .int .i64 tries] w fun e w' => e = .returned (.bool true) ∧ Below w.heap.size w w' := by
  have a1 := around_range window 10 (by omega)
  have a2 := around_range timeout 1002 (by omega)
  have a3 := around_range tries 18 (by omega)
  have A1 := Aside0.mk (fun W : World => around_calls window 10 W b1.1 b1.2 (by omega) (by omega))
  have A2 := Aside0.mk (fun W : World => around_calls timeout 1002 W b2.1 b2.2 (by omega) (by omega))
  have A3 := Aside0.mk (fun W : World => around_calls tries 18 W b3.1 b3.2 (by omega) (by omega))
  generalize around window 10 = x1 at *
  generalize around timeout 1002 = y1 at *
  generalize around tries 18 = z1 at *
  obtain ⟨w1, hw1⟩ : ∃ w1, w1 = ((w.alloc (.cells #[.int .i64 window, .int .i64 x1, .int .i64 1, .int .i64 1] 3)).alloc (.cells #[.int .i64 timeout, .int .i64 1, .int .i64 y1, .int .i64 1] 3)).alloc (.cells #[.int .i64 tries, .int .i64 1, .int .i64 1, .int .i64 z1] 3) := ⟨_, rfl⟩
  have F1 : Aside0 (w1.heap[w.heap.size]? = some (.cells ([window, x1, 1, 1].map (Value.int .i64)).toArray 3 (0, 0))) := ⟨by rw [hw1]; exact old3 w _ _ _⟩
  have F2 : Aside0 (w1.heap[w.heap.size + 1]? = some (.cells ([timeout, 1, y1, 1].map (Value.int .i64)).toArray 3 (0, 0))) := ⟨by rw [hw1]; exact mid3 w _ _ _⟩
  have F3 : Aside0 (w1.heap[w.heap.size + 1 + 1]? = some (.cells ([tries, 1, 1, z1].map (Value.int .i64)).toArray 3 (0, 0))) := ⟨by rw [hw1]; exact new3 w _ _ _⟩
  have HB1 : Aside0 (Below w.heap.size w w1) := ⟨by rw [hw1]; exact (((Below.refl _ _).alloc (Nat.le_refl _) _).alloc (by simp) _).alloc (by simp; omega) _⟩
  have HN : Aside0 (∀ W, Below w.heap.size w W → Calls Try.prog 6 #[.slice A n cp] W fun e w' => NsPost (namesL l) W e w') := ⟨fun W hW => names_calls A n cp l W (Kd.C_below h hW) hl⟩
  have h8 := namesL_len l
  have B1 : Aside0 (∀ k, k < 4 → -9223372036854775808 ≤ rd [window, x1, 1, 1] (k : Nat) ∧ rd [window, x1, 1, 1] (k : Nat) ≤ 9223372036854775807) := ⟨fun k hk => rd_i64 (l := [window, x1, 1, 1]) (fun x hx => by simp only [List.mem_cons, List.not_mem_nil, or_false] at hx; omega) hk⟩
  have B2 : Aside0 (∀ k, k < 4 → -9223372036854775808 ≤ rd [timeout, 1, y1, 1] (k : Nat) ∧ rd [timeout, 1, y1, 1] (k : Nat) ≤ 9223372036854775807) := ⟨fun k hk => rd_i64 (l := [timeout, 1, y1, 1]) (fun x hx => by simp only [List.mem_cons, List.not_mem_nil, or_false] at hx; omega) hk⟩
  have B3 : Aside0 (∀ k, k < 4 → -9223372036854775808 ≤ rd [tries, 1, 1, z1] (k : Nat) ∧ rd [tries, 1, 1, z1] (k : Nat) ≤ 9223372036854775807) := ⟨fun k hk => rd_i64 (l := [tries, 1, 1, z1]) (fun x hx => by simp only [List.mem_cons, List.not_mem_nil, or_false] at hx; omega) hk⟩
  have HLV := Aside0.mk (fun W => clives_calls W)
  have C1 : Aside0 (∀ W, Below w1.heap.size w1 W → ∀ k, k < 4 → W.cell? ⟨w.heap.size, k, none⟩ = some (.int .i64 (rd [window, x1, 1, 1] (k : Nat)))) := ⟨fun W hW k hk => rdZ_lit (Later.heap hW F1.out) hk⟩
  have C2 : Aside0 (∀ W, Below w1.heap.size w1 W → ∀ k, k < 4 → W.cell? ⟨w.heap.size + 1, k, none⟩ = some (.int .i64 (rd [timeout, 1, y1, 1] (k : Nat)))) := ⟨fun W hW k hk => rdZ_lit (Later.heap hW F2.out) hk⟩
  have C3 : Aside0 (∀ W, Below w1.heap.size w1 W → ∀ k, k < 4 → W.cell? ⟨w.heap.size + 1 + 1, k, none⟩ = some (.int .i64 (rd [tries, 1, 1, z1] (k : Nat)))) := ⟨fun W hW k hk => rdZ_lit (Later.heap hW F3.out) hk⟩
  clear F1 F2 F3
  clear h hl b1 b2 b3 a1 a2 a3
  go_enter Try.func3, Try.ntmps3
  go_upto_region 4 with (first
    | (go_at_call 4; (first | (with_reducible refine (A1.out _).mono ?_) | (with_reducible refine (A2.out _).mono ?_) | (with_reducible refine (A3.out _).mono ?_)); rintro e u0 ⟨rfl, rfl⟩)
    | fail)
  refine at_w1 (w := w1) hw1 ?_
  clear hw1 A1 A2 A3
  generalize [window, x1, 1, 1] = X at *
  generalize [timeout, 1, y1, 1] = Y at *
  generalize [tries, 1, 1, z1] = Z at *
  go_wp2
  go_loopw [12, 13, 14, 15] (fun i _ _ _ wr => ∃ k : Nat, k ≤ 4 ∧ i = .int .i64 k ∧ Below w1.heap.size w1 wr) (fun i _ _ _ _ => 4 - (intOf i).toNat)
  case atStart => exact ⟨0, by omega, rfl, Below.refl _ _⟩
  case round =>
    obtain ⟨k, hk, rfl, hB⟩ := hrel
    have HB := Aside0.mk hB
    clear hB
    by_cases hlt : k < 4
    · have HCS : Aside0 (∀ W, Below wr.heap.size wr W → W.cell? ⟨w.heap.size, k, none⟩ = some (.int .i64 (rd X (k : Nat))) ∧ W.cell? ⟨w.heap.size + 1, k, none⟩ = some (.int .i64 (rd Y (k : Nat))) ∧ W.cell? ⟨w.heap.size + 1 + 1, k, none⟩ = some (.int .i64 (rd Z (k : Nat)))) := ⟨fun W hW => by
        have h2 := HB.out.trans (hW.mono HB.out.size)
        exact ⟨C1.out W h2 k hlt, C2.out W h2 k hlt, C3.out W h2 k hlt⟩⟩
      have bx := B1.out k hlt
      have by_ := B2.out k hlt
      have bz := B3.out k hlt
      generalize rd X (k : Nat) = x at *
      generalize rd Y (k : Nat) = y at *
      generalize rd Z (k : Nat) = z at *
      have hltI : (k : Int) < 4 := by omega
      have HD0 : Aside0 (Below wr.heap.size wr wr.drew) := ⟨Below.drew (Below.refl _ wr)⟩
      have HBW : Aside0 (Below w.heap.size w wr) := ⟨HB1.out.trans (HB.out.mono HB1.out.size)⟩
      go_upto_region 7 with fail
      by_cases hin : inR x y z
      · have HIN := Aside0.mk hin
        have HNW : Aside0 (∀ W B d, RdD W B (namesL l).length (namesL l) → Calls Try.prog 5 #[.slice B (namesL l).length d, .int .i64 x, .int .i64 y, .int .i64 z] W fun e w' => ∃ g tb v, e = .returned (.tuple #[.pointer (some ⟨g, 0, none⟩), .int .i64 0]) ∧ PCl w' W.heap.size g tb (clOf l x y z) v ∧ Below W.heap.size W w') := ⟨fun W B d hW => new_ok B _ d (namesL l) x y z W hW (by omega) hin⟩
        have HRN : Aside0 (∀ W B d, RdD W B (namesL l).length (namesL l) → Calls Try.prog 10 #[.slice B (namesL l).length d, .int .i64 1, .int .i64 1, .int .i64 1] W fun e w' => ∃ B d, e = .returned (.agg (Rv (clOf l 1 1 1) (.slice B (clOf l 1 1 1).L.length d)).toArray) ∧ OwV w' W.heap.size (.slice B (clOf l 1 1 1).L.length d) (clOf l 1 1 1).L ∧ Below W.heap.size W w') := ⟨fun W B d hW => rnew_calls B _ d (namesL l) 1 1 1 W hW (by omega)⟩
        have h8c := clOf_len l x y z
        have HRL : Aside0 (∀ W B d, RdV W B (clOf l 1 1 1).L.length (clOf l 1 1 1).L → Calls Try.prog 9 #[.agg (Rv (clOf l 1 1 1) (.slice B (clOf l 1 1 1).L.length d)).toArray] W fun e w' => ∃ u, e = .returned u ∧ OwD w' W.heap.size u (leftL (clOf l x y z).L) ∧ Below W.heap.size W w') := ⟨fun W B d hW => rleft_calls (clOf l 1 1 1) B _ d _ W rfl hW (by have : (clOf l 1 1 1).L.length = (clOf l x y z).L.length := rfl; omega)⟩
        have HLF : Aside0 (∀ W B g tb v, PCl W B g tb (clOf l x y z) v → Calls Try.prog 8 #[.pointer (some ⟨g, 0, none⟩)] W fun e w' => ∃ u, e = .returned u ∧ OwD w' W.heap.size u (leftL (clOf l x y z).L) ∧ Below W.heap.size W w') := ⟨fun W B g tb v hP => left_calls B g tb _ v W hP (by omega)⟩
        have HAS : Aside0 (∀ W B g tb v, PCl W B g tb (clOf l x y z) v → Calls Try.prog 11 #[.pointer (some ⟨g, 0, none⟩)] W fun e w' => e = .returned (.int .i64 0) ∧ W = w') := ⟨fun W B g tb v hP => asks_calls B g tb _ v W hP (Int.le_refl _) (by show (0 : Int) ≤ _; omega)⟩
        have HAD : Aside0 (∀ W B g tb v, PCl W B g tb (clOf l x y z) v → Calls Try.prog 12 #[.pointer (some ⟨g, 0, none⟩)] W fun e w' => e = .returned (.int .i64 0) ∧ W = w') := ⟨fun W B g tb v hP => by
          have := asked_calls B g tb _ v W hP (clOf_ok hin)
          rw [askedN_new] at this
          exact this⟩
        have HER : Aside0 (∀ W B g tb v, PCl W B g tb (clOf l x y z) v → Calls Try.prog 13 #[.pointer (some ⟨g, 0, none⟩)] W fun e w' => e = .returned (.int .i64 0) ∧ W = w') := ⟨fun W B g tb v hP => errno_calls B g tb _ v W hP⟩
        have h8l := leftL_len (clOf l x y z).L
        have HLZ : Aside0 ((leftL (clOf l x y z).L).length ≤ 1099511627776) := ⟨by omega⟩
        have HSN : Aside0 (∀ W B D d d', RdD W B (leftL (clOf l x y z).L).length (leftL (clOf l x y z).L) → RdD W D (leftL (clOf l x y z).L).length (leftL (clOf l x y z).L) → Calls Try.prog 7 #[.slice B (leftL (clOf l x y z).L).length d, .slice D (leftL (clOf l x y z).L).length d'] W fun e w' => e = .returned (.bool true) ∧ Below W.heap.size W w') := ⟨fun W B D d d' h1 h2 => by
          have := sameNames_calls B D _ _ d d' _ _ W h1 h2 HLZ.out HLZ.out
          rw [decide_eq_true rfl] at this
          exact this⟩
        generalize clOf l 1 1 1 = cr at *
        generalize clOf l x y z = c at *
        generalize leftL c.L = lf at *
        generalize namesL l = ns at *
        clear hin h8 h8c h8l HLZ bx by_ bz
        refine seq_startN [] (.take 0 (.take 2 (.take 3 (.take 4 (.take 5 (.take 6 (.take 7 (.take 8 (.take 9 (.take 10 (.take 11 (.take 12 (.take 13 (.run 1 (.run 14 (.take 15 (.take 16 (.take 17 (.take 18 (.take 19 .done)))))))))))))))))))) (by kernel_rfl) (by kernel_rfl) ?_
        refine seq_take (v := ?_) (a' := ?_) rfl rfl (by rfl) (fun w' hw' => ?_) ?_ ?_
        rotate_left 2
        · go_simp
          with_reducible rfl
        · simp only [Act.put, List.setIfInBounds_toArray, List.set_cons_zero, List.set_cons_succ, Go.Proofs.YtnkkjmbpopodlaaW.PrintLast.i64_w, Go.Proofs.YtnkkjmbpopodlaaW.PrintLast.i32_w]
          rfl
        refine seq_take (v := ?_) (a' := ?_) rfl rfl (by rfl) (fun w' hw' => ?_) ?_ ?_
        rotate_left 2
        · go_simp
          with_reducible rfl
        · simp only [Act.put, List.setIfInBounds_toArray, List.set_cons_zero, List.set_cons_succ, Go.Proofs.YtnkkjmbpopodlaaW.PrintLast.i64_w, Go.Proofs.YtnkkjmbpopodlaaW.PrintLast.i32_w]
          rfl
        refine seq_take (v := ?_) (a' := ?_) rfl rfl (by rfl) (fun w' hw' => ?_) ?_ ?_
        rotate_left 2
        · go_simp
          with_reducible rfl
        · simp only [Act.put, List.setIfInBounds_toArray, List.set_cons_zero, List.set_cons_succ, Go.Proofs.YtnkkjmbpopodlaaW.PrintLast.i64_w, Go.Proofs.YtnkkjmbpopodlaaW.PrintLast.i32_w]
          rfl
        refine seq_take (v := ?_) (a' := ?_) rfl rfl (by rfl) (fun w' hw' => ?_) ?_ ?_
        rotate_left 2
        · go_simp
          with_reducible rfl
        · simp only [Act.put, List.setIfInBounds_toArray, List.set_cons_zero, List.set_cons_succ, Go.Proofs.YtnkkjmbpopodlaaW.PrintLast.i64_w, Go.Proofs.YtnkkjmbpopodlaaW.PrintLast.i32_w]
          rfl
        refine seq_take (v := ?_) (a' := ?_) rfl rfl (by rfl) (fun w' hw' => ?_) ?_ ?_
        rotate_left 2
        · obtain ⟨c1, c2, c3⟩ := HCS.out w' (Later.trans HD0.out hw'); go_simp
          with_reducible rfl
        · simp only [Act.put, List.setIfInBounds_toArray, List.set_cons_zero, List.set_cons_succ, Go.Proofs.YtnkkjmbpopodlaaW.PrintLast.i64_w, Go.Proofs.YtnkkjmbpopodlaaW.PrintLast.i32_w]
          rfl
        refine seq_take (v := ?_) (a' := ?_) rfl rfl (by rfl) (fun w' hw' => ?_) ?_ ?_
        rotate_left 2
        · go_simp
          with_reducible rfl
        · simp only [Act.put, List.setIfInBounds_toArray, List.set_cons_zero, List.set_cons_succ, Go.Proofs.YtnkkjmbpopodlaaW.PrintLast.i64_w, Go.Proofs.YtnkkjmbpopodlaaW.PrintLast.i32_w]
          rfl
        refine seq_take (v := ?_) (a' := ?_) rfl rfl (by rfl) (fun w' hw' => ?_) ?_ ?_
        rotate_left 2
        · go_simp
          with_reducible rfl
        · simp only [Act.put, List.setIfInBounds_toArray, List.set_cons_zero, List.set_cons_succ, Go.Proofs.YtnkkjmbpopodlaaW.PrintLast.i64_w, Go.Proofs.YtnkkjmbpopodlaaW.PrintLast.i32_w]
          rfl
        refine seq_take (v := ?_) (a' := ?_) rfl rfl (by rfl) (fun w' hw' => ?_) ?_ ?_
        rotate_left 2
        · go_simp
          with_reducible rfl
        · simp only [Act.put, List.setIfInBounds_toArray, List.set_cons_zero, List.set_cons_succ, Go.Proofs.YtnkkjmbpopodlaaW.PrintLast.i64_w, Go.Proofs.YtnkkjmbpopodlaaW.PrintLast.i32_w]
          rfl
        refine seq_take (v := ?_) (a' := ?_) rfl rfl (by rfl) (fun w' hw' => ?_) ?_ ?_
        rotate_left 2
        · obtain ⟨c1, c2, c3⟩ := HCS.out w' (Later.trans HD0.out hw'); go_simp
          with_reducible rfl
        · simp only [Act.put, List.setIfInBounds_toArray, List.set_cons_zero, List.set_cons_succ, Go.Proofs.YtnkkjmbpopodlaaW.PrintLast.i64_w, Go.Proofs.YtnkkjmbpopodlaaW.PrintLast.i32_w]
          rfl
        refine seq_take (v := ?_) (a' := ?_) rfl rfl (by rfl) (fun w' hw' => ?_) ?_ ?_
        rotate_left 2
        · go_simp
          with_reducible rfl
        · simp only [Act.put, List.setIfInBounds_toArray, List.set_cons_zero, List.set_cons_succ, Go.Proofs.YtnkkjmbpopodlaaW.PrintLast.i64_w, Go.Proofs.YtnkkjmbpopodlaaW.PrintLast.i32_w]
          rfl
        refine seq_take (v := ?_) (a' := ?_) rfl rfl (by rfl) (fun w' hw' => ?_) ?_ ?_
        rotate_left 2
        · go_simp
          with_reducible rfl
        · simp only [Act.put, List.setIfInBounds_toArray, List.set_cons_zero, List.set_cons_succ, Go.Proofs.YtnkkjmbpopodlaaW.PrintLast.i64_w, Go.Proofs.YtnkkjmbpopodlaaW.PrintLast.i32_w]
          rfl
        refine seq_take (v := ?_) (a' := ?_) rfl rfl (by rfl) (fun w' hw' => ?_) ?_ ?_
        rotate_left 2
        · go_simp
          with_reducible rfl
        · simp only [Act.put, List.setIfInBounds_toArray, List.set_cons_zero, List.set_cons_succ, Go.Proofs.YtnkkjmbpopodlaaW.PrintLast.i64_w, Go.Proofs.YtnkkjmbpopodlaaW.PrintLast.i32_w]
          rfl
        refine seq_take (v := ?_) (a' := ?_) rfl rfl (by rfl) (fun w' hw' => ?_) ?_ ?_
        rotate_left 2
        · obtain ⟨c1, c2, c3⟩ := HCS.out w' (Later.trans HD0.out hw'); go_simp
          with_reducible rfl
        · simp only [Act.put, List.setIfInBounds_toArray, List.set_cons_zero, List.set_cons_succ, Go.Proofs.YtnkkjmbpopodlaaW.PrintLast.i64_w, Go.Proofs.YtnkkjmbpopodlaaW.PrintLast.i32_w]
          rfl
        refine seq_run ?_
        refine do_call rfl rfl (by rfl) rfl Try.func6 (by kernel_rfl) rfl #[.slice A n cp] (by simp only [List.map_toArray, List.map_cons, List.map_nil]; rfl) ?_
        with_reducible refine (HN.out _ (below_tr' HBW.out HD0.out)).mono ?_
        rintro e w2 ⟨B2, d2, rfl, hR2, hB2⟩
        refine ⟨_, ?_, rfl, ?_, fun _ => hB2, ?_⟩
        rotate_left
        · simp only [Act.put, List.setIfInBounds_toArray, List.set_cons_zero, List.set_cons_succ, Go.Proofs.YtnkkjmbpopodlaaW.PrintLast.i64_w, Go.Proofs.YtnkkjmbpopodlaaW.PrintLast.i32_w]
          rfl
        have HR2 := Aside0.mk hR2
        have HB2 : Aside0 (Below wr.heap.size wr w2) := ⟨Later.trans HD0.out hB2⟩
        clear hR2 hB2
        refine seq_run ?_
        refine do_call rfl rfl (by rfl) rfl Try.func5 (by kernel_rfl) rfl #[.slice B2 ns.length d2, .int .i64 x, .int .i64 y, .int .i64 z] (by simp only [List.map_toArray, List.map_cons, List.map_nil]; rfl) ?_
        with_reducible refine (HNW.out _ B2 d2 HR2.out).mono ?_
        rintro e w3 ⟨g, tb, v, rfl, hP3, hB3⟩
        refine ⟨_, ?_, rfl, ?_, fun _ => hB3, ?_⟩
        rotate_left
        · simp only [Act.put, List.setIfInBounds_toArray, List.set_cons_zero, List.set_cons_succ, Go.Proofs.YtnkkjmbpopodlaaW.PrintLast.i64_w, Go.Proofs.YtnkkjmbpopodlaaW.PrintLast.i32_w]
          rfl
        have HP3 := Aside0.mk hP3
        have HB3 : Aside0 (Below wr.heap.size wr w3) := ⟨Later.trans HB2.out hB3⟩
        clear hP3 hB3
        refine seq_take (v := ?_) (a' := ?_) rfl rfl (by rfl) (fun w' hw' => ?_) ?_ ?_
        rotate_left 2
        · go_simp
          with_reducible rfl
        · simp only [Act.put, List.setIfInBounds_toArray, List.set_cons_zero, List.set_cons_succ, Go.Proofs.YtnkkjmbpopodlaaW.PrintLast.i64_w, Go.Proofs.YtnkkjmbpopodlaaW.PrintLast.i32_w]
          rfl
        refine seq_take (v := ?_) (a' := ?_) rfl rfl (by rfl) (fun w' hw' => ?_) ?_ ?_
        rotate_left 2
        · go_simp
          with_reducible rfl
        · simp only [Act.put, List.setIfInBounds_toArray, List.set_cons_zero, List.set_cons_succ, Go.Proofs.YtnkkjmbpopodlaaW.PrintLast.i64_w, Go.Proofs.YtnkkjmbpopodlaaW.PrintLast.i32_w]
          rfl
        refine seq_take (v := ?_) (a' := ?_) rfl rfl (by rfl) (fun w' hw' => ?_) ?_ ?_
        rotate_left 2
        · go_simp
          with_reducible rfl
        · simp only [Act.put, List.setIfInBounds_toArray, List.set_cons_zero, List.set_cons_succ, Go.Proofs.YtnkkjmbpopodlaaW.PrintLast.i64_w, Go.Proofs.YtnkkjmbpopodlaaW.PrintLast.i32_w]
          rfl
        refine seq_take (v := ?_) (a' := ?_) rfl rfl (by rfl) (fun w' hw' => ?_) ?_ ?_
        rotate_left 2
        · go_simp
          with_reducible rfl
        · simp only [Act.put, List.setIfInBounds_toArray, List.set_cons_zero, List.set_cons_succ, Go.Proofs.YtnkkjmbpopodlaaW.PrintLast.i64_w, Go.Proofs.YtnkkjmbpopodlaaW.PrintLast.i32_w]
          rfl
        refine seq_take (v := ?_) (a' := ?_) rfl rfl (by rfl) (fun w' hw' => ?_) ?_ ?_
        rotate_left 2
        · go_simp
          with_reducible rfl
        · simp only [Act.put, List.setIfInBounds_toArray, List.set_cons_zero, List.set_cons_succ, Go.Proofs.YtnkkjmbpopodlaaW.PrintLast.i64_w, Go.Proofs.YtnkkjmbpopodlaaW.PrintLast.i32_w]
          rfl
        refine seq_endN ?_
        obtain ⟨i1, i2, i3, i4, i5, i6⟩ := HIN.out
        obtain ⟨c1, c2, c3⟩ := HCS.out w3 HB3.out
        go_wp2_with (first
          | (go_at_call 8; (with_reducible refine at_cw w3 ?_); refine (HLF.out w3 _ g tb v HP3.out).mono ?_; rintro e w4 ⟨u4, rfl, hO4, hB4⟩; obtain ⟨U4, p4, rfl, -, hr4⟩ := Kd.R_reads hO4; have HR4 := Aside0.mk hr4; have HB4 : Aside0 (Below w3.heap.size w3 w4) := ⟨hB4⟩; clear hO4 hr4 hB4)
          | (go_at_call 6; (with_reducible refine at_cw w4 ?_); refine (HN.out w4 (below_tr' HBW.out (Later.trans HB3.out HB4.out))).mono ?_; rintro e w5 ⟨B5, d5, rfl, hR5, hB5⟩; have HR5 := Aside0.mk hR5; have HB5 : Aside0 (Below w4.heap.size w4 w5) := ⟨hB5⟩; clear hR5 hB5)
          | (go_at_call 10; (with_reducible refine at_cw w5 ?_); refine (HRN.out w5 B5 d5 HR5.out).mono ?_; rintro e w6 ⟨B6, d6, rfl, hO6, hB6⟩; obtain ⟨A', d', e', -, hr6⟩ := Kd.R_reads hO6; injection e' with e1 _ e3; subst e1; subst e3; have HR6 := Aside0.mk hr6; have HB6 : Aside0 (Below w4.heap.size w4 w6) := ⟨Later.trans HB5.out hB6⟩; clear hO6 hB6 hr6)
          | (go_at_call 9; (with_reducible refine at_cw w6 ?_); refine (HRL.out w6 B6 d6 HR6.out).mono ?_; rintro e w7 ⟨u7, rfl, hO7, hB7⟩; obtain ⟨U7, p7, rfl, -, hr7⟩ := Kd.R_reads hO7; have HR7 := Aside0.mk hr7; have HB7 : Aside0 (Below w4.heap.size w4 w7) := ⟨Later.trans HB6.out hB7⟩; clear hO7 hB7 hr7)
          | (go_at_call 7; (with_reducible refine at_cw w7 ?_); refine (HSN.out w7 U4 U7 p4 p7 (Kd.C_below HR4.out HB7.out) HR7.out).mono ?_; rintro e w8 ⟨rfl, hB8⟩; have HB8 : Aside0 (Below w3.heap.size w3 w8) := ⟨Later.trans HB4.out (Later.trans HB7.out hB8)⟩; have HP8 := Aside0.mk (HP3.out.below HB8.out); clear hB8)
          | (go_at_call 11; refine (HAS.out w8 _ g tb v HP8.out).mono ?_; rintro e u0 ⟨rfl, rfl⟩)
          | (go_at_call 12; refine (HAD.out w8 _ g tb v HP8.out).mono ?_; rintro e u0 ⟨rfl, rfl⟩)
          | (go_at_call 13; refine (HER.out w8 _ g tb v HP8.out).mono ?_; rintro e u0 ⟨rfl, rfl⟩)
          | fail)
        go_roundw
        case rel => exact ⟨k + 1, by omega, by go_num, HB.out.trans ((Later.trans HB3.out HB8.out).mono HB.out.size)⟩
        case measure => simp [intOf]; omega
      · have HNW : Aside0 (∀ W B d, Calls Try.prog 5 #[.slice B (namesL l).length d, .int .i64 x, .int .i64 y, .int .i64 z] W fun e w' => e = .returned (.tuple #[.pointer none, .int .i64 1]) ∧ Below W.heap.size W w') := ⟨fun W B d => new_bad B _ d x y z W hin⟩
        have h2 : (¬ 1 ≤ x) ∨ (1 ≤ x ∧ ¬ x ≤ 8) ∨ (1 ≤ x ∧ x ≤ 8 ∧ ¬ 1 ≤ y) ∨ (1 ≤ x ∧ x ≤ 8 ∧ 1 ≤ y ∧ ¬ y ≤ 1000) ∨ (1 ≤ x ∧ x ≤ 8 ∧ 1 ≤ y ∧ y ≤ 1000 ∧ ¬ 1 ≤ z) ∨ (1 ≤ x ∧ x ≤ 8 ∧ 1 ≤ y ∧ y ≤ 1000 ∧ 1 ≤ z ∧ ¬ z ≤ 16) := by
          unfold inR at hin
          omega
        have H2 := Aside0.mk h2
        generalize namesL l = ns at *
        clear hin h8 bx by_ bz h2
        refine seq_startN [] (.take 0 (.take 2 (.take 3 (.take 4 (.take 5 (.take 6 (.take 7 (.take 8 (.take 9 (.take 10 (.take 11 (.take 12 (.take 13 (.run 1 (.run 14 (.take 15 (.take 16 (.take 17 (.take 18 (.take 19 .done)))))))))))))))))))) (by kernel_rfl) (by kernel_rfl) ?_
        refine seq_take (v := ?_) (a' := ?_) rfl rfl (by rfl) (fun w' hw' => ?_) ?_ ?_
        rotate_left 2
        · go_simp
          with_reducible rfl
        · simp only [Act.put, List.setIfInBounds_toArray, List.set_cons_zero, List.set_cons_succ, Go.Proofs.YtnkkjmbpopodlaaW.PrintLast.i64_w, Go.Proofs.YtnkkjmbpopodlaaW.PrintLast.i32_w]
          rfl
        refine seq_take (v := ?_) (a' := ?_) rfl rfl (by rfl) (fun w' hw' => ?_) ?_ ?_
        rotate_left 2
        · go_simp
          with_reducible rfl
        · simp only [Act.put, List.setIfInBounds_toArray, List.set_cons_zero, List.set_cons_succ, Go.Proofs.YtnkkjmbpopodlaaW.PrintLast.i64_w, Go.Proofs.YtnkkjmbpopodlaaW.PrintLast.i32_w]
          rfl
        refine seq_take (v := ?_) (a' := ?_) rfl rfl (by rfl) (fun w' hw' => ?_) ?_ ?_
        rotate_left 2
        · go_simp
          with_reducible rfl
        · simp only [Act.put, List.setIfInBounds_toArray, List.set_cons_zero, List.set_cons_succ, Go.Proofs.YtnkkjmbpopodlaaW.PrintLast.i64_w, Go.Proofs.YtnkkjmbpopodlaaW.PrintLast.i32_w]
          rfl
        refine seq_take (v := ?_) (a' := ?_) rfl rfl (by rfl) (fun w' hw' => ?_) ?_ ?_
        rotate_left 2
        · go_simp
          with_reducible rfl
        · simp only [Act.put, List.setIfInBounds_toArray, List.set_cons_zero, List.set_cons_succ, Go.Proofs.YtnkkjmbpopodlaaW.PrintLast.i64_w, Go.Proofs.YtnkkjmbpopodlaaW.PrintLast.i32_w]
          rfl
        refine seq_take (v := ?_) (a' := ?_) rfl rfl (by rfl) (fun w' hw' => ?_) ?_ ?_
        rotate_left 2
        · obtain ⟨c1, c2, c3⟩ := HCS.out w' (Later.trans HD0.out hw'); go_simp
          with_reducible rfl
        · simp only [Act.put, List.setIfInBounds_toArray, List.set_cons_zero, List.set_cons_succ, Go.Proofs.YtnkkjmbpopodlaaW.PrintLast.i64_w, Go.Proofs.YtnkkjmbpopodlaaW.PrintLast.i32_w]
          rfl
        refine seq_take (v := ?_) (a' := ?_) rfl rfl (by rfl) (fun w' hw' => ?_) ?_ ?_
        rotate_left 2
        · go_simp
          with_reducible rfl
        · simp only [Act.put, List.setIfInBounds_toArray, List.set_cons_zero, List.set_cons_succ, Go.Proofs.YtnkkjmbpopodlaaW.PrintLast.i64_w, Go.Proofs.YtnkkjmbpopodlaaW.PrintLast.i32_w]
          rfl
        refine seq_take (v := ?_) (a' := ?_) rfl rfl (by rfl) (fun w' hw' => ?_) ?_ ?_
        rotate_left 2
        · go_simp
          with_reducible rfl
        · simp only [Act.put, List.setIfInBounds_toArray, List.set_cons_zero, List.set_cons_succ, Go.Proofs.YtnkkjmbpopodlaaW.PrintLast.i64_w, Go.Proofs.YtnkkjmbpopodlaaW.PrintLast.i32_w]
          rfl
        refine seq_take (v := ?_) (a' := ?_) rfl rfl (by rfl) (fun w' hw' => ?_) ?_ ?_
        rotate_left 2
        · go_simp
          with_reducible rfl
        · simp only [Act.put, List.setIfInBounds_toArray, List.set_cons_zero, List.set_cons_succ, Go.Proofs.YtnkkjmbpopodlaaW.PrintLast.i64_w, Go.Proofs.YtnkkjmbpopodlaaW.PrintLast.i32_w]
          rfl
        refine seq_take (v := ?_) (a' := ?_) rfl rfl (by rfl) (fun w' hw' => ?_) ?_ ?_
        rotate_left 2
        · obtain ⟨c1, c2, c3⟩ := HCS.out w' (Later.trans HD0.out hw'); go_simp
          with_reducible rfl
        · simp only [Act.put, List.setIfInBounds_toArray, List.set_cons_zero, List.set_cons_succ, Go.Proofs.YtnkkjmbpopodlaaW.PrintLast.i64_w, Go.Proofs.YtnkkjmbpopodlaaW.PrintLast.i32_w]
          rfl
        refine seq_take (v := ?_) (a' := ?_) rfl rfl (by rfl) (fun w' hw' => ?_) ?_ ?_
        rotate_left 2
        · go_simp
          with_reducible rfl
        · simp only [Act.put, List.setIfInBounds_toArray, List.set_cons_zero, List.set_cons_succ, Go.Proofs.YtnkkjmbpopodlaaW.PrintLast.i64_w, Go.Proofs.YtnkkjmbpopodlaaW.PrintLast.i32_w]
          rfl
        refine seq_take (v := ?_) (a' := ?_) rfl rfl (by rfl) (fun w' hw' => ?_) ?_ ?_
        rotate_left 2
        · go_simp
          with_reducible rfl
        · simp only [Act.put, List.setIfInBounds_toArray, List.set_cons_zero, List.set_cons_succ, Go.Proofs.YtnkkjmbpopodlaaW.PrintLast.i64_w, Go.Proofs.YtnkkjmbpopodlaaW.PrintLast.i32_w]
          rfl
        refine seq_take (v := ?_) (a' := ?_) rfl rfl (by rfl) (fun w' hw' => ?_) ?_ ?_
        rotate_left 2
        · go_simp
          with_reducible rfl
        · simp only [Act.put, List.setIfInBounds_toArray, List.set_cons_zero, List.set_cons_succ, Go.Proofs.YtnkkjmbpopodlaaW.PrintLast.i64_w, Go.Proofs.YtnkkjmbpopodlaaW.PrintLast.i32_w]
          rfl
        refine seq_take (v := ?_) (a' := ?_) rfl rfl (by rfl) (fun w' hw' => ?_) ?_ ?_
        rotate_left 2
        · obtain ⟨c1, c2, c3⟩ := HCS.out w' (Later.trans HD0.out hw'); go_simp
          with_reducible rfl
        · simp only [Act.put, List.setIfInBounds_toArray, List.set_cons_zero, List.set_cons_succ, Go.Proofs.YtnkkjmbpopodlaaW.PrintLast.i64_w, Go.Proofs.YtnkkjmbpopodlaaW.PrintLast.i32_w]
          rfl
        refine seq_run ?_
        refine do_call rfl rfl (by rfl) rfl Try.func6 (by kernel_rfl) rfl #[.slice A n cp] (by simp only [List.map_toArray, List.map_cons, List.map_nil]; rfl) ?_
        with_reducible refine (HN.out _ (below_tr' HBW.out HD0.out)).mono ?_
        rintro e w2 ⟨B2, d2, rfl, hR2, hB2⟩
        refine ⟨_, ?_, rfl, ?_, fun _ => hB2, ?_⟩
        rotate_left
        · simp only [Act.put, List.setIfInBounds_toArray, List.set_cons_zero, List.set_cons_succ, Go.Proofs.YtnkkjmbpopodlaaW.PrintLast.i64_w, Go.Proofs.YtnkkjmbpopodlaaW.PrintLast.i32_w]
          rfl
        have HB2 : Aside0 (Below wr.heap.size wr w2) := ⟨Later.trans HD0.out hB2⟩
        clear hR2 hB2
        refine seq_run ?_
        refine do_call rfl rfl (by rfl) rfl Try.func5 (by kernel_rfl) rfl #[.slice B2 ns.length d2, .int .i64 x, .int .i64 y, .int .i64 z] (by simp only [List.map_toArray, List.map_cons, List.map_nil]; rfl) ?_
        with_reducible refine (HNW.out _ B2 d2).mono ?_
        rintro e w3 ⟨rfl, hB3⟩
        refine ⟨_, ?_, rfl, ?_, fun _ => hB3, ?_⟩
        rotate_left
        · simp only [Act.put, List.setIfInBounds_toArray, List.set_cons_zero, List.set_cons_succ, Go.Proofs.YtnkkjmbpopodlaaW.PrintLast.i64_w, Go.Proofs.YtnkkjmbpopodlaaW.PrintLast.i32_w]
          rfl
        have HB3 : Aside0 (Below wr.heap.size wr w3) := ⟨Later.trans HB2.out hB3⟩
        clear hB3
        refine seq_take (v := ?_) (a' := ?_) rfl rfl (by rfl) (fun w' hw' => ?_) ?_ ?_
        rotate_left 2
        · go_simp
          with_reducible rfl
        · simp only [Act.put, List.setIfInBounds_toArray, List.set_cons_zero, List.set_cons_succ, Go.Proofs.YtnkkjmbpopodlaaW.PrintLast.i64_w, Go.Proofs.YtnkkjmbpopodlaaW.PrintLast.i32_w]
          rfl
        refine seq_take (v := ?_) (a' := ?_) rfl rfl (by rfl) (fun w' hw' => ?_) ?_ ?_
        rotate_left 2
        · go_simp
          with_reducible rfl
        · simp only [Act.put, List.setIfInBounds_toArray, List.set_cons_zero, List.set_cons_succ, Go.Proofs.YtnkkjmbpopodlaaW.PrintLast.i64_w, Go.Proofs.YtnkkjmbpopodlaaW.PrintLast.i32_w]
          rfl
        refine seq_take (v := ?_) (a' := ?_) rfl rfl (by rfl) (fun w' hw' => ?_) ?_ ?_
        rotate_left 2
        · go_simp
          with_reducible rfl
        · simp only [Act.put, List.setIfInBounds_toArray, List.set_cons_zero, List.set_cons_succ, Go.Proofs.YtnkkjmbpopodlaaW.PrintLast.i64_w, Go.Proofs.YtnkkjmbpopodlaaW.PrintLast.i32_w]
          rfl
        refine seq_take (v := ?_) (a' := ?_) rfl rfl (by rfl) (fun w' hw' => ?_) ?_ ?_
        rotate_left 2
        · go_simp
          with_reducible rfl
        · simp only [Act.put, List.setIfInBounds_toArray, List.set_cons_zero, List.set_cons_succ, Go.Proofs.YtnkkjmbpopodlaaW.PrintLast.i64_w, Go.Proofs.YtnkkjmbpopodlaaW.PrintLast.i32_w]
          rfl
        refine seq_take (v := ?_) (a' := ?_) rfl rfl (by rfl) (fun w' hw' => ?_) ?_ ?_
        rotate_left 2
        · go_simp
          with_reducible rfl
        · simp only [Act.put, List.setIfInBounds_toArray, List.set_cons_zero, List.set_cons_succ, Go.Proofs.YtnkkjmbpopodlaaW.PrintLast.i64_w, Go.Proofs.YtnkkjmbpopodlaaW.PrintLast.i32_w]
          rfl
        refine seq_endN ?_
        obtain ⟨c1, c2, c3⟩ := HCS.out w3 HB3.out
        rcases H2.out with i1 | ⟨i1, i2⟩ | ⟨i1, i2, i3⟩ | ⟨i1, i2, i3, i4⟩ | ⟨i1, i2, i3, i4, i5⟩ | ⟨i1, i2, i3, i4, i5, i6⟩
        all_goals
          clear H2
          go_wp2
          go_roundw
          case rel => exact ⟨k + 1, by omega, by go_num, HB.out.trans (HB3.out.mono HB.out.size)⟩
          case measure => simp [intOf]; omega
    · obtain rfl : k = 4 := by omega
      go_wp2_with (first
        | (go_at_call 14; refine (HLV.out wr).mono ?_; rintro e w2 ⟨rfl, hB2⟩; have HB2 := Aside0.mk hB2; clear hB2)
        | fail)
      go_ret
      exact ⟨rfl, HB1.out.trans ((HB.out.trans (HB2.out.mono HB.out.size)).mono HB1.out.size)⟩
end Go.Proofs.Ytnkkjmbpopodlaa
