/- lighterageref21's New, Left. Conditions: their own. -/
import Derived.Test.YtnkkjmbpopodlaaClV1
import Derived.Test.YtnkkjmbpopodlaaCl3
namespace Go.Proofs.Ytnkkjmbpopodlaa
open Go.RowKit Go.Proofs.YtnkkjmbpopodlaaW.PrintWords Go.Proofs.YtnkkjmbpopodlaaW.PrintMore
set_option linter.unusedVariables false
set_option linter.unusedSimpArgs false
set_option maxRecDepth 20000 in
set_option maxHeartbeats 1600000 in
theorem rleft_calls (c : Cl) (A : Option Addr) (n cp : Nat) (C : Array Value) (w : World) (hC : C = (Rv c (.slice A n cp)).toArray) (h : RdV w A n c.L) (hl : n ≤ 1048576) :
    Calls Try.prog 9 #[.agg C] w fun e w' => ∃ u, e = .returned u ∧ OwD w' w.heap.size u (leftL c.L) ∧ Below w.heap.size w w' := by
  obtain ⟨w1, hw1⟩ : ∃ w1, w1 = w.alloc (.cells C 35) := ⟨_, rfl⟩
  have F1 : Aside0 (w1.heap[w.heap.size]? = some (.cells (Rv c (.slice A n cp)).toArray 35 (0, 0))) := ⟨by rw [hw1, hC]; exact blk_new w _⟩
  have L1 : Aside0 (Below w.heap.size w w1) := ⟨by rw [hw1]; exact below_alloc (Below.refl _ w) _⟩
  have HR := Aside0.mk (Kd.C_below h L1.out)
  obtain rfl : c.L.length = n := h.1
  clear hC h
  go_enter Try.func9, Try.ntmps9
  go_upto_region 1 with fail
  refine at_w1 (w := w1) hw1 ?_
  clear hw1
  go_wp2
  go_loopw [3, 4] (fun u i wr => ∃ k : Nat, k ≤ c.L.length ∧ i = .int .i64 k ∧ OwD wr w1.heap.size u (leftL (c.L.take k)) ∧ Below w1.heap.size w1 wr) (fun _ i _ => c.L.length - (intOf i).toNat)
  case atStart => exact ⟨0, Nat.zero_le _, rfl, Kd.R_nil _ _ _ _ _, Below.refl _ _⟩
  case round =>
    obtain ⟨k, hk, rfl, hO, hB⟩ := hrel
    have HB := Aside0.mk hB
    have HO := Aside0.mk hO
    clear hB hO
    have q0 := (rv_cells (Later.heap HB.out F1.out)).1
    by_cases hlt : k < c.L.length
    · obtain ⟨ad, rfl, h32, hc⟩ := kv_at HR.out hlt
      have HC := Aside0.mk hc
      have H32 := Aside0.mk h32
      have HT := Aside0.mk (leftL_take hlt)
      have hll : (leftL (c.L.take k)).length ≤ 1048576 := by
        have := leftL_len (c.L.take k)
        rw [List.length_take] at this
        omega
      generalize wd c.L k = x at *
      generalize leftL (c.L.take k) = R at *
      obtain ⟨VA, vc, rfl, -, -⟩ := Kd.R_reads HO.out
      have hltI : (k : Int) < (c.L.length : Int) := by omega
      have cst := (HC.out wr HB.out).2.2.1
      clear hc h32
      rcases hst : x.st == 2 with _ | _
      · rw [hst] at HT
        have HL : Aside0 (leftL (c.L.take (k + 1)) = R ++ [x.nm]) := ⟨by rw [HT.out]; rfl⟩
        clear HT
        go_wp2_with (first
          | ((with_reducible refine at_ld (w := wr) 51 (.tmp 24) ?_); refine load_arm rfl 51 (.tmp 24) rfl rfl (ld_elem (HC.out wr HB.out).2.1 51 _ Try.underlying51 rfl (size_d x.nm H32.out)) ?_; simp only [Act.put, List.setIfInBounds_toArray, List.set_cons_zero, List.set_cons_succ])
          | ((with_reducible refine at_bs 28 ?_); refine rows_arm rfl _ _ rfl Try.underlying28 (info_parts infoDg).choose_spec.1 (info_parts infoDg).choose_spec.2.1 (info_parts infoDg).choose_spec.2.2.1 [Nm x.nm] (by intro v hv; rw [List.mem_singleton.1 hv]; exact Nm_len32 H32.out) (show 1 * 32 ≤ 2 ^ 24 by decide) (show 1 * 32 ≠ 0 by decide) rfl rfl ?_; rintro w3 g3 N3; have HO3 : Aside0 (OwD w3 w1.heap.size (.slice VA R.length vc) R) := ⟨Kd.R_below HO.out N3.below⟩; have HR3 : Aside0 (RdD w3 (some ⟨g3, 0, none⟩) 1 [x.nm]) := ⟨rd_one (by have := N3.at_; simpa using this) H32.out⟩; have HB3 : Aside0 (Below w1.heap.size w1 w3) := ⟨HB.out.trans (N3.below.mono HB.out.size)⟩; clear N3)
          | (at_builtin; (with_reducible refine at_w w3 ?_); refine appD (w0 := w1) w1.heap.size rfl (.tmp 19) (.tmp 26) rfl (.slice VA R.length vc) R [x.nm] (some ⟨g3, 0, none⟩) 1 1 rfl rfl HO3.out HR3.out HB3.out HB3.out.size (by omega) ?_; intro v4 w4 hO4 hB4 _ _; have HO4 := Aside0.mk hO4; have HB4 := Aside0.mk hB4; clear hO4 hB4)
          | fail)
        go_roundw
        case rel => exact ⟨k + 1, by omega, by go_num, by rw [HL.out]; exact HO4.out, HB4.out⟩
        case measure => simp [intOf]; omega
      · rw [hst] at HT
        have HL : Aside0 (leftL (c.L.take (k + 1)) = R) := ⟨by rw [HT.out]; simp⟩
        clear HT
        go_wp2
        go_roundw
        case rel => exact ⟨k + 1, by omega, by go_num, by rw [HL.out]; exact HO.out, HB.out⟩
        case measure => simp [intOf]; omega
    · obtain rfl : k = c.L.length := by omega
      rw [List.take_length] at HO
      go_wp2
      go_ret
      exact ⟨_, rfl, Kd.R_lower HO.out L1.out.size, L1.out.trans (Below.mono HB.out L1.out.size)⟩
set_option maxRecDepth 20000 in
set_option maxHeartbeats 3200000 in
theorem rnew_calls (A : Option Addr) (n cp : Nat) (ns : List (List Int)) (window timeout tries : Int) (w : World) (h : RdD w A n ns) (hn : n ≤ 1024) :
    Calls Try.prog 10 #[.slice A n cp, .int .i64 window, .int .i64 timeout, .int .i64 tries] w fun e w' => ∃ B d, e = .returned (.agg (Rv ⟨newL [] ns, window, timeout, tries, 0, 0⟩ (.slice B (newL [] ns).length d)).toArray) ∧ OwV w' w.heap.size (.slice B (newL [] ns).length d) (newL [] ns) ∧ Below w.heap.size w w' := by
  have HX := Aside0.mk h
  obtain rfl : ns.length = n := h.1
  obtain ⟨w1, hw1⟩ : ∃ w1, w1 = w.alloc (.cells (Rv ⟨[], 0, 0, 0, 0, 0⟩ (.slice none 0 0)).toArray 35) := ⟨_, rfl⟩
  have F1 : Aside0 (w1.heap[w.heap.size]? = some (.cells (Rv ⟨[], 0, 0, 0, 0, 0⟩ (.slice none 0 0)).toArray 35 (0, 0))) := ⟨by rw [hw1]; exact blk_new w _⟩
  have L1 : Aside0 (Below w.heap.size w w1) := ⟨by rw [hw1]; exact below_alloc (Below.refl _ w) _⟩
  clear h
  go_enter Try.func10, Try.ntmps10
  go_upto_region 1 with fail
  refine at_w1 (w := w1) hw1 ?_
  clear hw1
  go_wp2_with (first
    | ((with_reducible refine at_bd 35 ?_); refine build_arm rfl 35 _ rfl (built_rv window timeout tries) ?_; simp only [Act.put, List.setIfInBounds_toArray, List.set_cons_zero, List.set_cons_succ])
    | ((with_reducible refine at_al 35 ?_); refine new_rc rfl rfl rfl rfl (.tmp 14) rfl (of_decide_eq_true rfl) rfl rfl ?_; rintro w2 g2 N2; have HN2 := Aside0.mk N2; clear N2)
    | fail)
  have F2 : Aside0 (w2.heap[w.heap.size]? = some (.cells (Rv ⟨[], 0, 0, 0, 0, 0⟩ (.slice none 0 0)).toArray 35 (0, 0))) := ⟨HN2.out.blk F1.out⟩
  have L2 : Aside0 (Below w.heap.size w w2) := ⟨L1.out.trans (Below.mono HN2.out.below L1.out.size)⟩
  have HG2 : Aside0 (w1.heap.size ≤ g2 ∧ g2 < w2.heap.size ∧ w.heap.size < w1.heap.size) := ⟨⟨HN2.out.ge, HN2.out.lt, blk_lt F1.out⟩⟩
  have HW2 := Aside0.mk HN2.out.at_
  clear HN2 F1
  go_loopw [10] (fun i wr => ∃ (k : Nat) (v : Value), k ≤ ns.length ∧ i = .int .i64 k ∧ wr.heap[g2]? = some (.cells (Rv ⟨newL [] (ns.take k), window, timeout, tries, 0, 0⟩ v).toArray 35 (0, 0)) ∧ OwV wr w2.heap.size v (newL [] (ns.take k)) ∧ Below w1.heap.size w2 wr) (fun i _ => ns.length - (intOf i).toNat)
  case atStart => exact ⟨0, _, Nat.zero_le _, rfl, HW2.out, Kd.R_nil _ _ _ _ _, Below.refl _ _⟩
  case round =>
    obtain ⟨k, v, hk, rfl, hG, hO, hB⟩ := hrel
    have HG := Aside0.mk hG
    have HO := Aside0.mk hO
    have HB := Aside0.mk hB
    clear hG hO hB
    by_cases hlt : k < ns.length
    · have HBW : Aside0 (Below w.heap.size w wr) := ⟨L2.out.trans (HB.out.mono (by have := HG2.out; omega))⟩
      obtain ⟨ad, rfl, hx32, hxc⟩ := kf_at (Kd.C_below HX.out HBW.out) [] k hlt
      have HXC := Aside0.mk hxc
      have HX32 := Aside0.mk hx32
      have HT := Aside0.mk (newL_take hlt)
      have hll : (newL [] (ns.take k)).length ≤ 1024 := by
        have := newL_len [] (ns.take k)
        rw [List.length_take] at this
        simp only [List.length_nil] at this
        omega
      generalize ns.getD k [] = X at *
      generalize newL [] (ns.take k) = L at *
      obtain ⟨VA, vc, rfl, -, hrv⟩ := Kd.R_reads HO.out
      have HRV := Aside0.mk hrv
      have hltI : (k : Int) < (ns.length : Int) := by omega
      have HD0 : Aside0 (Below wr.heap.size wr wr.drew) := ⟨Below.drew (Below.refl _ wr)⟩
      have HLD : Aside0 (∀ W, Below wr.heap.size wr W → (Instr.loadAt 51 (.pointer (some (ad.add (k * 32))))).run Try.prog W = .ok (.agg (Nm X).toArray) W) := ⟨fun W hW => ld_elem (fun j u h => pw_cell_below hW (HXC.out j u h)) 51 _ Try.underlying51 rfl (size_d X HX32.out)⟩
      have HFI : Aside0 (∀ W, Below wr.heap.size wr W → Calls Try.prog 18 #[.agg (Rv ⟨L, window, timeout, tries, 0, 0⟩ (.slice VA L.length vc)).toArray, .agg (Nm X).toArray] W fun e w' => e = .returned (.int .i64 (fnd L X)) ∧ Below W.heap.size W w') := ⟨fun W hW => rfind_calls ⟨L, window, timeout, tries, 0, 0⟩ VA L.length vc X _ _ W rfl rfl (Kd.C_below HRV.out hW) HX32.out (by omega)⟩
      clear hxc hx32 hrv
      have hfr := fst_range (fun x => decide (Wt.nm x = X)) L
      rw [show fst (fun x => decide (Wt.nm x = X)) L = fnd L X from rfl] at hfr
      generalize fnd L X = f at *
      have HDD : Aside0 (∀ W, Later wr.drew W → W.heap[g2]? = some (.cells (Rv ⟨L, window, timeout, tries, 0, 0⟩ (.slice VA L.length vc)).toArray 35 (0, 0))) := ⟨fun W hW => Later.heap (Later.trans HD0.out hW) HG.out⟩
      by_cases hf : f < 0
      · rw [if_pos hf] at HT
        go_upto_region 5 with fail
        refine seq_startN [] (.take 0 (.pure 1 (.pure 2 (.take 3 (.take 4 (.run 5 (.take 6 .done))))))) (by kernel_rfl) (by kernel_rfl) ?_
        refine seq_take (v := _) (a' := ?_) rfl rfl (by rfl) (fun w' hw' => load_run rfl rfl (ld_row (HDD.out w' hw') 35 _ Try.underlying35 rfl (by rw [List.size_toArray]; exact size_rv _ _))) ?_ ?_
        rotate_left
        · simp only [Act.put, List.setIfInBounds_toArray, List.set_cons_zero, List.set_cons_succ, Go.Proofs.YtnkkjmbpopodlaaW.PrintLast.i64_w, Go.Proofs.YtnkkjmbpopodlaaW.PrintLast.i32_w]
          rfl
        refine seq_pure (v := ?_) (a' := ?_) rfl rfl (by rfl) (fun w' => ?_) ?_ ?_
        rotate_left 2
        · go_simp
          with_reducible rfl
        · simp only [Act.put, List.setIfInBounds_toArray, List.set_cons_zero, List.set_cons_succ, Go.Proofs.YtnkkjmbpopodlaaW.PrintLast.i64_w, Go.Proofs.YtnkkjmbpopodlaaW.PrintLast.i32_w]
          rfl
        refine seq_pure (v := ?_) (a' := ?_) rfl rfl (by rfl) (fun w' => ?_) ?_ ?_
        rotate_left 2
        · go_simp
          with_reducible rfl
        · simp only [Act.put, List.setIfInBounds_toArray, List.set_cons_zero, List.set_cons_succ, Go.Proofs.YtnkkjmbpopodlaaW.PrintLast.i64_w, Go.Proofs.YtnkkjmbpopodlaaW.PrintLast.i32_w]
          rfl
        refine seq_take (v := ?_) (a' := ?_) rfl rfl (by rfl) (fun w' hw' => ?_) ?_ ?_
        rotate_left 2
        · go_simp
          with_reducible rfl
        · simp only [Act.put, List.setIfInBounds_toArray, List.set_cons_zero, List.set_cons_succ, Go.Proofs.YtnkkjmbpopodlaaW.PrintLast.i64_w, Go.Proofs.YtnkkjmbpopodlaaW.PrintLast.i32_w]
          rfl
        refine seq_take (v := _) (a' := ?_) rfl rfl (by rfl) (fun w' hw' => load_run rfl rfl (HLD.out w' (Later.trans HD0.out hw'))) ?_ ?_
        rotate_left
        · simp only [Act.put, List.setIfInBounds_toArray, List.set_cons_zero, List.set_cons_succ, Go.Proofs.YtnkkjmbpopodlaaW.PrintLast.i64_w, Go.Proofs.YtnkkjmbpopodlaaW.PrintLast.i32_w]
          rfl
        refine seq_run ?_
        refine do_call rfl rfl (by rfl) rfl Try.func18 (by kernel_rfl) rfl #[.agg (Rv ⟨L, window, timeout, tries, 0, 0⟩ (.slice VA L.length vc)).toArray, .agg (Nm X).toArray] (by simp only [List.map_toArray, List.map_cons, List.map_nil]; rfl) ?_
        with_reducible refine (HFI.out _ HD0.out).mono ?_
        rintro e w3 ⟨rfl, hB3⟩
        refine ⟨_, ?_, rfl, ?_, fun _ => hB3, ?_⟩
        rotate_left
        · simp only [Act.put, List.setIfInBounds_toArray, List.set_cons_zero, List.set_cons_succ, Go.Proofs.YtnkkjmbpopodlaaW.PrintLast.i64_w, Go.Proofs.YtnkkjmbpopodlaaW.PrintLast.i32_w]
          rfl
        have HD3 : Aside0 (Below wr.heap.size wr w3.drew) := ⟨Below.drew (Later.trans HD0.out hB3)⟩
        clear hB3 HDD
        refine seq_take (v := ?_) (a' := ?_) rfl rfl (by rfl) (fun w' hw' => ?_) ?_ ?_
        rotate_left 2
        · go_simp
          with_reducible rfl
        · simp only [Act.put, List.setIfInBounds_toArray, List.set_cons_zero, List.set_cons_succ, Go.Proofs.YtnkkjmbpopodlaaW.PrintLast.i64_w, Go.Proofs.YtnkkjmbpopodlaaW.PrintLast.i32_w]
          rfl
        refine seq_endN ?_
        go_upto_region 6 with fail
        have HO3 : Aside0 (OwV w3.drew w2.heap.size (.slice VA L.length vc) L) := ⟨Kd.R_below HO.out HD3.out⟩
        have HG3 : Aside0 (w3.drew.heap[g2]? = some (.cells (Rv ⟨L, window, timeout, tries, 0, 0⟩ (.slice VA L.length vc)).toArray 35 (0, 0))) := ⟨Later.heap HD3.out HG.out⟩
        have HB3 : Aside0 (Below w1.heap.size w2 w3.drew) := ⟨HB.out.trans (HD3.out.mono (by have := HB.out.size; have := HG2.out; omega))⟩
        have HZ3 : Aside0 (w2.heap.size ≤ w3.drew.heap.size) := ⟨by have := HB3.out.size; exact this⟩
        refine seq_startN [8, 10] (.take 0 (.take 1 (.take 2 (.take 3 (.take 4 (.take 5 (.take 6 (.run 7 (.run 8 (.take 9 (.run 10 .done))))))))))) (by kernel_rfl) (by kernel_rfl) ?_
        refine seq_take (v := ?_) (a' := ?_) rfl rfl (by rfl) (fun w' hw' => ?_) ?_ ?_
        rotate_left 2
        · go_simp
          with_reducible rfl
        · simp only [Act.put, List.setIfInBounds_toArray, List.set_cons_zero, List.set_cons_succ, Go.Proofs.YtnkkjmbpopodlaaW.PrintLast.i64_w, Go.Proofs.YtnkkjmbpopodlaaW.PrintLast.i32_w]
          rfl
        refine seq_take (v := ?_) (a' := ?_) rfl rfl (by rfl) (fun w' hw' => ?_) ?_ ?_
        rotate_left 2
        · have q0 := (rv_cells (Later.heap hw' HG3.out)).1; go_simp
          with_reducible rfl
        · simp only [Act.put, List.setIfInBounds_toArray, List.set_cons_zero, List.set_cons_succ, Go.Proofs.YtnkkjmbpopodlaaW.PrintLast.i64_w, Go.Proofs.YtnkkjmbpopodlaaW.PrintLast.i32_w]
          rfl
        refine seq_take (v := ?_) (a' := ?_) rfl rfl (by rfl) (fun w' hw' => ?_) ?_ ?_
        rotate_left 2
        · go_simp
          with_reducible rfl
        · simp only [Act.put, List.setIfInBounds_toArray, List.set_cons_zero, List.set_cons_succ, Go.Proofs.YtnkkjmbpopodlaaW.PrintLast.i64_w, Go.Proofs.YtnkkjmbpopodlaaW.PrintLast.i32_w]
          rfl
        refine seq_take (v := ?_) (a' := ?_) rfl rfl (by rfl) (fun w' hw' => ?_) ?_ ?_
        rotate_left 2
        · go_simp
          with_reducible rfl
        · simp only [Act.put, List.setIfInBounds_toArray, List.set_cons_zero, List.set_cons_succ, Go.Proofs.YtnkkjmbpopodlaaW.PrintLast.i64_w, Go.Proofs.YtnkkjmbpopodlaaW.PrintLast.i32_w]
          rfl
        refine seq_take (v := ?_) (a' := ?_) rfl rfl (by rfl) (fun w' hw' => ?_) ?_ ?_
        rotate_left 2
        · go_simp
          with_reducible rfl
        · simp only [Act.put, List.setIfInBounds_toArray, List.set_cons_zero, List.set_cons_succ, Go.Proofs.YtnkkjmbpopodlaaW.PrintLast.i64_w, Go.Proofs.YtnkkjmbpopodlaaW.PrintLast.i32_w]
          rfl
        refine seq_take (v := _) (a' := ?_) rfl rfl (by rfl) (fun w' hw' => load_run rfl rfl (HLD.out w' (Later.trans HD3.out hw'))) ?_ ?_
        rotate_left
        · simp only [Act.put, List.setIfInBounds_toArray, List.set_cons_zero, List.set_cons_succ, Go.Proofs.YtnkkjmbpopodlaaW.PrintLast.i64_w, Go.Proofs.YtnkkjmbpopodlaaW.PrintLast.i32_w]
          rfl
        refine seq_take (v := _) (a' := ?_) rfl rfl (by rfl) (fun w' hw' => build_run 58 #[(0, .tmp 33)] rfl (built_v X HX32.out)) ?_ ?_
        rotate_left
        · simp only [Act.put, List.setIfInBounds_toArray, List.set_cons_zero, List.set_cons_succ, Go.Proofs.YtnkkjmbpopodlaaW.PrintLast.i64_w, Go.Proofs.YtnkkjmbpopodlaaW.PrintLast.i32_w]
          rfl
        refine seq_run ?_
        refine do_val (v := _) (a' := ?_) (w1 := _) rfl rfl (by rfl) (row1_exec #[(0, .tmp 34)] rfl Try.underlying33 infoV (rcells (Wt.new X)) (rcells_len HX32.out) (by decide) (by decide) rfl) ?_ ?_
        rotate_left
        · simp only [Act.put, List.setIfInBounds_toArray, List.set_cons_zero, List.set_cons_succ, Go.Proofs.YtnkkjmbpopodlaaW.PrintLast.i64_w, Go.Proofs.YtnkkjmbpopodlaaW.PrintLast.i32_w]
          rfl
        refine ⟨fun _ => below_alloc (Below.refl _ _) _, ?_⟩
        refine seq_run ?_
        refine do_appR KV (w0 := w3.drew) (W := w3.drew) w2.heap.size rfl rfl (by rfl) (.tmp 29) (.tmp 35) 33 58 zV 64 rfl Try.underlying33 infoV zV_size (by decide) (by decide) (.slice VA L.length vc) L (Wt.new X) (rcells (Wt.new X)) rfl rfl ⟨HX32.out, rfl⟩ HO3.out (Below.refl _ _) HZ3.out (by omega) ?_
        intro v4 w4 hO4 hB4 hG4 _
        refine ⟨fun h => absurd (by simp) h, ?_⟩
        have hgb : w4.heap[g2]? = some (.cells (Rv ⟨L, window, timeout, tries, 0, 0⟩ (.slice VA L.length vc)).toArray 35 (0, 0)) := (hG4.block g2 (blk_lt HG3.out) (Kd.R_ne HO3.out HG3.out (by decide))).trans HG3.out
        obtain ⟨WA, wcc, rfl, -, -⟩ := Kd.R_reads hO4
        rw [show (L ++ [Wt.new X]).length = L.length + 1 by simp] at hO4 ⊢
        have hc0 := (rv_cells hgb).1
        have hf0 : w4.frozen? ⟨g2, 0, none⟩ = false := blk_frozen hgb 0
        have HS4 : Aside0 (SetBlk w4 (w4.setCell ⟨g2, 0, none⟩ (.slice WA (L.length + 1) wcc)) g2 (.cells (Rv ⟨L ++ [Wt.new X], window, timeout, tries, 0, 0⟩ (.slice WA (L.length + 1) wcc)).toArray 35 (0, 0))) := ⟨setBlk_cell (i := 0) hgb _⟩
        have HO4 := Aside0.mk hO4
        have HB4 := Aside0.mk hB4
        have HGB := Aside0.mk hgb
        clear hO4 hG4 hB4 hgb
        refine seq_take (v := ?_) (a' := ?_) rfl rfl (by rfl) (fun w' hw' => ?_) ?_ ?_
        rotate_left 2
        · go_simp
          with_reducible rfl
        · simp only [Act.put, List.setIfInBounds_toArray, List.set_cons_zero, List.set_cons_succ, Go.Proofs.YtnkkjmbpopodlaaW.PrintLast.i64_w, Go.Proofs.YtnkkjmbpopodlaaW.PrintLast.i32_w]
          rfl
        refine seq_run ?_
        refine do_store (w1 := ?_) rfl rfl (by rfl) ?_ ?_
        rotate_left
        · go_simp
          rfl
        refine ⟨fun h => absurd (by simp) h, ?_⟩
        refine seq_endN ?_
        have HO5 : Aside0 (OwV (w4.setCell ⟨g2, 0, none⟩ (.slice WA (L.length + 1) wcc)) w2.heap.size (.slice WA (L.length + 1) wcc) (L ++ [Wt.new X])) := ⟨kf_move HO4.out fun q cells hq hc => HS4.out.else_ q (by have := HG2.out; omega)⟩
        have HB5 : Aside0 (Below w1.heap.size w2 (w4.setCell ⟨g2, 0, none⟩ (.slice WA (L.length + 1) wcc))) := ⟨(HB3.out.trans (HB4.out.mono (by have := HG2.out; omega))).trans (HS4.out.below HG2.out.1)⟩
        go_wp2
        go_roundw
        case rel => exact ⟨k + 1, _, by omega, by go_num, by rw [HT.out]; exact HS4.out.at_, by rw [HT.out]; exact HO5.out, HB5.out⟩
        case measure => simp [intOf]; omega
      · rw [if_neg hf] at HT
        go_upto_region 5 with fail
        refine seq_startN [] (.take 0 (.pure 1 (.pure 2 (.take 3 (.take 4 (.run 5 (.take 6 .done))))))) (by kernel_rfl) (by kernel_rfl) ?_
        refine seq_take (v := _) (a' := ?_) rfl rfl (by rfl) (fun w' hw' => load_run rfl rfl (ld_row (HDD.out w' hw') 35 _ Try.underlying35 rfl (by rw [List.size_toArray]; exact size_rv _ _))) ?_ ?_
        rotate_left
        · simp only [Act.put, List.setIfInBounds_toArray, List.set_cons_zero, List.set_cons_succ, Go.Proofs.YtnkkjmbpopodlaaW.PrintLast.i64_w, Go.Proofs.YtnkkjmbpopodlaaW.PrintLast.i32_w]
          rfl
        refine seq_pure (v := ?_) (a' := ?_) rfl rfl (by rfl) (fun w' => ?_) ?_ ?_
        rotate_left 2
        · go_simp
          with_reducible rfl
        · simp only [Act.put, List.setIfInBounds_toArray, List.set_cons_zero, List.set_cons_succ, Go.Proofs.YtnkkjmbpopodlaaW.PrintLast.i64_w, Go.Proofs.YtnkkjmbpopodlaaW.PrintLast.i32_w]
          rfl
        refine seq_pure (v := ?_) (a' := ?_) rfl rfl (by rfl) (fun w' => ?_) ?_ ?_
        rotate_left 2
        · go_simp
          with_reducible rfl
        · simp only [Act.put, List.setIfInBounds_toArray, List.set_cons_zero, List.set_cons_succ, Go.Proofs.YtnkkjmbpopodlaaW.PrintLast.i64_w, Go.Proofs.YtnkkjmbpopodlaaW.PrintLast.i32_w]
          rfl
        refine seq_take (v := ?_) (a' := ?_) rfl rfl (by rfl) (fun w' hw' => ?_) ?_ ?_
        rotate_left 2
        · go_simp
          with_reducible rfl
        · simp only [Act.put, List.setIfInBounds_toArray, List.set_cons_zero, List.set_cons_succ, Go.Proofs.YtnkkjmbpopodlaaW.PrintLast.i64_w, Go.Proofs.YtnkkjmbpopodlaaW.PrintLast.i32_w]
          rfl
        refine seq_take (v := _) (a' := ?_) rfl rfl (by rfl) (fun w' hw' => load_run rfl rfl (HLD.out w' (Later.trans HD0.out hw'))) ?_ ?_
        rotate_left
        · simp only [Act.put, List.setIfInBounds_toArray, List.set_cons_zero, List.set_cons_succ, Go.Proofs.YtnkkjmbpopodlaaW.PrintLast.i64_w, Go.Proofs.YtnkkjmbpopodlaaW.PrintLast.i32_w]
          rfl
        refine seq_run ?_
        refine do_call rfl rfl (by rfl) rfl Try.func18 (by kernel_rfl) rfl #[.agg (Rv ⟨L, window, timeout, tries, 0, 0⟩ (.slice VA L.length vc)).toArray, .agg (Nm X).toArray] (by simp only [List.map_toArray, List.map_cons, List.map_nil]; rfl) ?_
        with_reducible refine (HFI.out _ HD0.out).mono ?_
        rintro e w3 ⟨rfl, hB3⟩
        refine ⟨_, ?_, rfl, ?_, fun _ => hB3, ?_⟩
        rotate_left
        · simp only [Act.put, List.setIfInBounds_toArray, List.set_cons_zero, List.set_cons_succ, Go.Proofs.YtnkkjmbpopodlaaW.PrintLast.i64_w, Go.Proofs.YtnkkjmbpopodlaaW.PrintLast.i32_w]
          rfl
        have HD3 : Aside0 (Below wr.heap.size wr w3) := ⟨Later.trans HD0.out hB3⟩
        clear hB3 HDD
        refine seq_take (v := ?_) (a' := ?_) rfl rfl (by rfl) (fun w' hw' => ?_) ?_ ?_
        rotate_left 2
        · go_simp
          with_reducible rfl
        · simp only [Act.put, List.setIfInBounds_toArray, List.set_cons_zero, List.set_cons_succ, Go.Proofs.YtnkkjmbpopodlaaW.PrintLast.i64_w, Go.Proofs.YtnkkjmbpopodlaaW.PrintLast.i32_w]
          rfl
        refine seq_endN ?_
        go_wp2
        go_roundw
        case rel => exact ⟨k + 1, _, by omega, by go_num, by rw [HT.out]; exact Later.heap HD3.out HG.out, by rw [HT.out]; exact Kd.R_below HO.out HD3.out, HB.out.trans (HD3.out.mono (by have := HB.out.size; have := HG2.out; omega))⟩
        case measure => simp [intOf]; omega
    · obtain rfl : k = ns.length := by omega
      have HO1 := HO.out
      have HG1 := HG.out
      rw [List.take_length] at HO1 HG1
      obtain ⟨VA, vc, rfl, -, -⟩ := Kd.R_reads HO1
      have HO1 := Aside0.mk HO1
      have HG1 := Aside0.mk HG1
      have F3 : Aside0 (wr.heap[w.heap.size]? = some (.cells (Rv ⟨[], 0, 0, 0, 0, 0⟩ (.slice none 0 0)).toArray 35 (0, 0))) := ⟨(HB.out.block _ HG2.out.2.2).trans F2.out⟩
      have HNE : Aside0 (w.heap.size ≠ g2) := ⟨by have := HG2.out; omega⟩
      go_wp2_with (first
        | ((with_reducible refine at_ld (w := wr) 35 (.tmp 9) ?_); refine load_arm rfl 35 (.tmp 9) rfl rfl (ld_row HG1.out 35 _ Try.underlying35 rfl (by rw [List.size_toArray]; exact size_rv _ _)) ?_; simp only [Act.put, List.setIfInBounds_toArray, List.set_cons_zero, List.set_cons_succ])
        | ((with_reducible refine at_st 35 (.tmp 8) (.tmp 38) ?_); refine store_blk rfl 35 (.tmp 8) (.tmp 38) rfl rfl rfl F3.out rfl (size_rv _ _) (Rv_one rfl) ?_; rintro w4 HS4)
        | fail)
      (try simp only [Exit.inBlock, Exit.then])
      refine bodyPost_ret (v := .agg _) (results_cell1 rfl _ _ w.heap.size _ _ _ _ rfl HS4.at_ Try.underlying35 rfl (by rw [List.size_toArray]; exact size_rv _ _)) rfl ⟨VA, vc, rfl, ?_, ?_⟩
      · exact Kd.R_lower (kf_move HO1.out fun q cells hq hc => HS4.else_ q (by have := HG2.out; omega)) (by have := L2.out.size; omega)
      · exact (L2.out.trans (HB.out.mono (by have := HG2.out; omega))).trans (HS4.below (Nat.le_refl _))
end Go.Proofs.Ytnkkjmbpopodlaa
