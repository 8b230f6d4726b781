/- Contracts of lighterageref18 and wire. Conditions: each contract's own. -/
import Derived.Test.YtbagphegelbgcaaNum
import Derived.Test.YtbagphegelbgcaaMsg
import Derived.Test.YtbagphegelbgcaaRegMem
import Derived.Test.YtbagphegelbgcaaMsg2
namespace Go.Proofs.Ytbagphegelbgcaa
open Go.RowKit Go.Proofs.YtbagphegelbgcaaW.PrintWords Go.Proofs.YtbagphegelbgcaaW.PrintMore
set_option linter.unusedVariables false
set_option linter.unusedSimpArgs false

theorem size_d (nm : List Int) (hn : nm.length = 32) : (Try.prog.info? 23).map (·.size) = some (Nm nm).length := by rw [Nm_len, hn]; kernel_rfl
theorem size_m {k s : Int} {nm : List Int} {b : Value} (hn : nm.length = 32) : (Try.prog.info? 25).map (·.size) = some (Mc k s nm b).length := by rw [Mc_len hn]; kernel_rfl
theorem size_w {k s : Int} {nm : List Int} {b : Value} (hn : nm.length = 32) : (Try.prog.info? 36).map (·.size) = some (Mc k s nm b).length := by rw [Mc_len hn]; kernel_rfl
/-- of: a message as the program has it. -/
theorem of_calls (k s : Int) (nm : List Int) (b : ByteArray) (C : Array Value) (w : World) (hC : C = (Mc k s nm (.string b)).toArray) (hn : nm.length = 32) (hm : b.size ≤ 140737488355328) :
    Calls Try.prog 14 #[.agg C] w fun e w' => ∃ A c, e = .returned (.agg (Mc k s nm (.slice A b.size c)).toArray) ∧ RdB w' A b.size (bytesOf b) ∧ b.size ≤ c ∧ Below w.heap.size w w' := by
  obtain ⟨_, _, _, hr, _⟩ := msg_cells (by rw [← hC]; exact blk_new w (.cells C 25)) hn
  have hA := msg_arr hC hn
  have h0 := hA.1
  have h1 := hA.2.1
  have h2 := hA.2.2.1
  clear hA
  have HR := Aside0.mk hr
  clear hC hr
  have HLD : Aside0 (∀ o, (Instr.loadAt 23 (.pointer (some ⟨w.heap.size, 2, none⟩))).run Try.prog ((w.alloc (.cells C 25)).alloc o) = .ok (.agg (Nm nm).toArray) ((w.alloc (.cells C 25)).alloc o)) := ⟨fun o => run_loadAt_mid _ _ 2 _ (Nm nm) _ (World.rangeAt_alloc HR.out o) Try.underlying23 rfl (size_d nm hn)⟩
  go_enter Try.func14, Try.ntmps14
  go_wp2_with (first | ((with_reducible refine at_ld 23 (.tmp 7) ?_); refine load_arm rfl 23 (.tmp 7) rfl rfl (HLD.out _) ?_; simp only [Act.put, List.setIfInBounds_toArray, List.set_cons_zero, List.set_cons_succ]) | ((with_reducible refine at_cv 9 27 ?_); refine conv_new rfl _ rfl rfl hm ?_; rintro g c w1 hB1 hc1 hg1 hl1) | ((with_reducible refine at_bd 36 ?_); refine build_arm rfl 36 _ rfl (built_w4 k s nm _ _ _ hn) ?_; simp only [Act.put, List.setIfInBounds_toArray, List.set_cons_zero, List.set_cons_succ]) | ((with_reducible refine at_st 36 (.tmp 2) (.tmp 12) ?_); refine store_blk rfl 36 (.tmp 2) (.tmp 12) rfl rfl rfl ((hl1.block _ (by simp)).trans (heap_alloc2_new w _ _)) (by rw [Mc_len hn]; rfl) (size_w hn) (Mc_one rfl) ?_; rintro w2 HS))
  (try simp only [Exit.inBlock, Exit.then])
  refine bodyPost_ret (v := .agg _) (results_cell_row rfl _ _ (w.heap.size + 1) _ _ _ _ rfl HS.at_ Try.underlying36 rfl ?_) rfl ⟨_, _, rfl, ?_, ?_, ?_⟩
  · rw [size_w hn, List.size_toArray]
  · exact RdB.setBlk hB1 HS (by simp at hg1; omega)
  · exact hc1
  · exact ((((Below.refl _ _).alloc (Nat.le_refl _) _).alloc (by simp) _).trans (hl1.mono (by simp; omega))).trans (HS.below (by omega))

/-- as: a message as the document has it. -/
theorem as_calls (k s : Int) (nm : List Int) (A : Option Addr) (n c : Nat) (xs : List Int) (C : Array Value) (w : World) (hC : C = (Mc k s nm (.slice A n c)).toArray) (hn : nm.length = 32) (hx : RdB w A n xs) :
    Calls Try.prog 21 #[.agg C] w fun e w' => e = .returned (.agg (Mc k s nm (.string (strOfNums xs))).toArray) ∧ Below w.heap.size w w' := by
  obtain ⟨_, _, _, hr, _⟩ := msg_cells (by rw [← hC]; exact blk_new w (.cells C 36)) hn
  have hA := msg_arr hC hn
  have h0 := hA.1
  have h1 := hA.2.1
  have h2 := hA.2.2.1
  clear hA
  have HR := Aside0.mk hr
  have HX := Aside0.mk hx
  clear hC hr hx
  have HLD : Aside0 (∀ o, (Instr.loadAt 23 (.pointer (some ⟨w.heap.size, 2, none⟩))).run Try.prog ((w.alloc (.cells C 36)).alloc o) = .ok (.agg (Nm nm).toArray) ((w.alloc (.cells C 36)).alloc o)) := ⟨fun o => run_loadAt_mid _ _ 2 _ (Nm nm) _ (World.rangeAt_alloc HR.out o) Try.underlying23 rfl (size_d nm hn)⟩
  go_enter Try.func21, Try.ntmps21
  go_wp2_with (first | ((with_reducible refine at_ld 23 (.tmp 7) ?_); refine load_arm rfl 23 (.tmp 7) rfl rfl (HLD.out _) ?_; simp only [Act.put, List.setIfInBounds_toArray, List.set_cons_zero, List.set_cons_succ]) | ((with_reducible refine at_cv 27 9 ?_); refine conv_arm rfl 27 9 _ rfl rfl (conv_str (Kd.C_below HX.out (((Below.refl _ _).alloc (Nat.le_refl _) _).alloc (by simp) _)) _) ?_; simp only [Act.put, List.setIfInBounds_toArray, List.set_cons_zero, List.set_cons_succ]) | ((with_reducible refine at_bd 25 ?_); refine build_arm rfl 25 _ rfl (built_m4 k s nm _ hn) ?_; simp only [Act.put, List.setIfInBounds_toArray, List.set_cons_zero, List.set_cons_succ]) | ((with_reducible refine at_st 25 (.tmp 2) (.tmp 12) ?_); refine store_blk rfl 25 (.tmp 2) (.tmp 12) rfl rfl rfl (heap_alloc2_new w _ _) (by rw [Mc_len hn]; rfl) (size_m hn) (Mc_one rfl) ?_; rintro w2 HS))
  (try simp only [Exit.inBlock, Exit.then])
  refine bodyPost_ret (v := .agg _) (results_cell_row rfl _ _ (w.heap.size + 1) _ _ _ _ rfl HS.at_ Try.underlying25 rfl ?_) rfl ⟨rfl, ?_⟩
  · rw [size_m hn, List.size_toArray]
  · exact (((Below.refl _ _).alloc (Nat.le_refl _) _).alloc (by simp) _).trans (HS.below (by omega))

/-- Short: the first bytes of a string. -/
theorem short_calls (b : ByteArray) (m : Int) (w : World) (h0 : 0 ≤ m) (h1 : m ≤ 1099511627776) (hb : b.size ≤ 9223372036854775807) :
    Calls Try.prog 11 #[.string b, .int .i64 m] w fun e w' => e = .returned (.string (strOfNums ((bytesOf b).take m.toNat))) ∧ w = w' := by
  go_enter Try.func11, Try.ntmps11
  go_wp2
  · go_ret
    exact ⟨by rw [← extract_str]; rfl, rfl⟩
  · go_ret
    refine ⟨?_, rfl⟩
    rw [List.take_of_length_le (by rw [bytesOf_len]; omega), str_bytesOf]
    rfl

/-- Good: a message that may be, made of any. -/
def goodK (k : Int) : Int := 1 + around k 3
def goodS (s : Int) : Int := around s 4294967296
def goodB (k : Int) (b : ByteArray) : ByteArray := if goodK k = 2 then strOfNums ((bytesOf b).take 40) else ⟨#[]⟩
theorem goodK_range (k : Int) : 1 ≤ goodK k ∧ goodK k ≤ 3 := by
  have := around_range k 3 (by omega)
  unfold goodK
  omega
theorem goodS_range (s : Int) : 0 ≤ goodS s ∧ goodS s < 4294967296 := around_range s _ (by omega)
theorem good_calls (k s : Int) (nm : List Int) (b : ByteArray) (C : Array Value) (w : World) (hC : C = (Mc k s nm (.string b)).toArray) (hn : nm.length = 32) (hm : b.size ≤ 9223372036854775807)
    (hk0 : -9223372036854775808 ≤ k) (hk1 : k ≤ 9223372036854775807) (hs0 : -9223372036854775808 ≤ s) (hs1 : s ≤ 9223372036854775807) :
    Calls Try.prog 9 #[.agg C] w fun e w' => e = .returned (.agg (Mc (goodK k) (goodS s) nm (.string (goodB k b))).toArray) ∧ Below w.heap.size w w' := by
  have HC := Aside0.mk hC
  have hb0 : (w.alloc (.cells C 25)).heap[w.heap.size]? = some (.cells (Mc k s nm (.string b)).toArray 25 (0, 0)) := by rw [← hC]; exact blk_new w (.cells C 25)
  have HB0 : Aside0 (∀ o, ((w.alloc (.cells C 25)).alloc o).drew.heap[w.heap.size]? = some (.cells (Mc k s nm (.string b)).toArray 25 (0, 0))) := ⟨fun o => by rw [← hC]; exact heap_alloc2_old w _ _⟩
  clear hC hb0
  go_enter Try.func9, Try.ntmps9
  go_wp2
  have hwr : IntKind.i64.wrap (1 + around k 3) = goodK k := by have := goodK_range k; unfold goodK at *; rw [IntKind.wrap_i64]; omega
  refine seq_start [11] (.take 0 (.take 1 (.take 2 (.take 3 (.take 4 (.take 5 (.take 6 (.take 7 (.take 8 (.take 9 (.run 10 (.run 11 .done)))))))))))) (by kernel_rfl) (by kernel_rfl) (fun _ _ d _ _ h => by cases d <;> exact h) ?_
  refine seq_take (v := ?_) (a' := ?_) rfl rfl (by rfl) (fun w' hw' => ?_) ?_ ?_
  rotate_left 2
  · go_simp
    with_reducible rfl
  · simp only [Act.put, List.setIfInBounds_toArray, List.set_cons_zero, List.set_cons_succ, Go.Proofs.YtbagphegelbgcaaW.PrintLast.i64_w, Go.Proofs.YtbagphegelbgcaaW.PrintLast.i32_w]
    rfl
  refine seq_take (v := _) (a' := ?_) rfl rfl (by rfl) (fun w' hw' => load_run rfl (p := .pointer (some ⟨w.heap.size, 0, none⟩)) rfl (ld_f0 (hw'.heap (HB0.out _)) hn)) ?_ ?_
  rotate_left
  · simp only [Act.put, List.setIfInBounds_toArray, List.set_cons_zero, List.set_cons_succ, Go.Proofs.YtbagphegelbgcaaW.PrintLast.i64_w, Go.Proofs.YtbagphegelbgcaaW.PrintLast.i32_w]
    rfl
  refine seq_quiet (v := ?_) (a' := ?_) rfl rfl (by rfl) rfl Try.func10 (by kernel_rfl) rfl #[.int .i64 k, .int .i64 3] (by simp only [List.map_toArray, List.map_cons, List.map_nil]; rfl) (fun w' hw' => ?_) ?_ ?_
  rotate_left 2
  · with_reducible exact around_calls k 3 w' hk0 hk1 (by omega) (by omega)
  · simp only [Act.put, List.setIfInBounds_toArray, List.set_cons_zero, List.set_cons_succ, Go.Proofs.YtbagphegelbgcaaW.PrintLast.i64_w, Go.Proofs.YtbagphegelbgcaaW.PrintLast.i32_w]
    rfl
  refine seq_take (v := ?_) (a' := ?_) rfl rfl (by rfl) (fun w' hw' => ?_) ?_ ?_
  rotate_left 2
  · go_simp
    with_reducible rfl
  · simp only [Act.put, List.setIfInBounds_toArray, List.set_cons_zero, List.set_cons_succ, Go.Proofs.YtbagphegelbgcaaW.PrintLast.i64_w, Go.Proofs.YtbagphegelbgcaaW.PrintLast.i32_w]
    rfl
  refine seq_take (v := ?_) (a' := ?_) rfl rfl (by rfl) (fun w' hw' => ?_) ?_ ?_
  rotate_left 2
  · go_simp
    with_reducible rfl
  · simp only [Act.put, List.setIfInBounds_toArray, List.set_cons_zero, List.set_cons_succ, Go.Proofs.YtbagphegelbgcaaW.PrintLast.i64_w, Go.Proofs.YtbagphegelbgcaaW.PrintLast.i32_w]
    rfl
  refine seq_take (v := _) (a' := ?_) rfl rfl (by rfl) (fun w' hw' => load_run rfl (p := .pointer (some ⟨w.heap.size, 1, none⟩)) rfl (ld_f1 (hw'.heap (HB0.out _)) hn)) ?_ ?_
  rotate_left
  · simp only [Act.put, List.setIfInBounds_toArray, List.set_cons_zero, List.set_cons_succ, Go.Proofs.YtbagphegelbgcaaW.PrintLast.i64_w, Go.Proofs.YtbagphegelbgcaaW.PrintLast.i32_w]
    rfl
  refine seq_quiet (v := ?_) (a' := ?_) rfl rfl (by rfl) rfl Try.func10 (by kernel_rfl) rfl #[.int .i64 s, .int .i64 4294967296] (by simp only [List.map_toArray, List.map_cons, List.map_nil]; rfl) (fun w' hw' => ?_) ?_ ?_
  rotate_left 2
  · with_reducible exact around_calls s 4294967296 w' hs0 hs1 (by omega) (by omega)
  · simp only [Act.put, List.setIfInBounds_toArray, List.set_cons_zero, List.set_cons_succ, Go.Proofs.YtbagphegelbgcaaW.PrintLast.i64_w, Go.Proofs.YtbagphegelbgcaaW.PrintLast.i32_w]
    rfl
  refine seq_take (v := ?_) (a' := ?_) rfl rfl (by rfl) (fun w' hw' => ?_) ?_ ?_
  rotate_left 2
  · go_simp
    with_reducible rfl
  · simp only [Act.put, List.setIfInBounds_toArray, List.set_cons_zero, List.set_cons_succ, Go.Proofs.YtbagphegelbgcaaW.PrintLast.i64_w, Go.Proofs.YtbagphegelbgcaaW.PrintLast.i32_w]
    rfl
  refine seq_take (v := _) (a' := ?_) rfl rfl (by rfl) (fun w' hw' => load_run rfl (p := .pointer (some ⟨w.heap.size, 2, none⟩)) rfl (ld_f2 (hw'.heap (HB0.out _)) hn)) ?_ ?_
  rotate_left
  · simp only [Act.put, List.setIfInBounds_toArray, List.set_cons_zero, List.set_cons_succ, Go.Proofs.YtbagphegelbgcaaW.PrintLast.i64_w, Go.Proofs.YtbagphegelbgcaaW.PrintLast.i32_w]
    rfl
  refine seq_take (v := _) (a' := ?_) rfl rfl (by rfl) (fun w' hw' => build_run _ _ rfl (built_m3 (goodK k) (goodS s) nm hn)) ?_ ?_
  rotate_left
  · simp only [Act.put, List.setIfInBounds_toArray, List.set_cons_zero, List.set_cons_succ, Go.Proofs.YtbagphegelbgcaaW.PrintLast.i64_w, Go.Proofs.YtbagphegelbgcaaW.PrintLast.i32_w]
    rfl
  refine seq_run ?_
  refine do_val (v := ?_) (a' := ?_) (w1 := ?_) rfl rfl (by rfl) ?_ ?_ ?_
  rotate_left 3
  · go_simp
    constructor <;> rfl
  · simp only [Act.put, List.setIfInBounds_toArray, List.set_cons_zero, List.set_cons_succ, Go.Proofs.YtbagphegelbgcaaW.PrintLast.i64_w, Go.Proofs.YtbagphegelbgcaaW.PrintLast.i32_w]
    rfl
  refine ⟨fun _ => below_alloc (Below.refl _ _) _, ?_⟩
  refine seq_run ?_
  refine do_blk rfl rfl (by rfl) 25 (.tmp 3) (.tmp 13) rfl rfl rfl (new3 w _ _ _) (by rw [Mc_len hn]; rfl) (size_m hn) (Mc_one rfl) ?_
  rintro w1 HS
  refine ⟨fun h => absurd (by simp) h, ?_⟩
  refine seq_end ?_
  clear hwr
  have hB1 : Below w.heap.size w w1 := (below3 w _ _ _).trans (HS.below (by omega))
  have hbi : w1.heap[w.heap.size]? = some (.cells (Mc k s nm (.string b)).toArray 25 (0, 0)) := by rw [← HC.out]; exact HS.blk (by omega) (old3 w _ _ _)
  have hbr := HS.blk (show w.heap.size + 1 ≠ w.heap.size + 1 + 1 by omega) (mid3 w _ _ _)
  have hbo := HS.at_
  clear HS HB0 HC
  have hgk : Aside0 (goodB k b = if goodK k = 2 then strOfNums ((bytesOf b).take 40) else ⟨#[]⟩) := ⟨rfl⟩
  generalize hE1 : goodB k b = gb at *
  generalize hE2 : goodK k = gk at *
  generalize hE3 : goodS s = gs at *
  have HE : Aside0 (goodB k b = gb ∧ goodK k = gk ∧ goodS s = gs) := ⟨⟨hE1, hE2, hE3⟩⟩
  clear hE1 hE2 hE3
  obtain ⟨c0, _, _, _⟩ := msg_cells hbo hn
  obtain ⟨_, _, c3, _⟩ := msg_cells hbi hn
  obtain ⟨_, _, o3, _⟩ := msg_cells hbo hn
  have f3 := blk_frozen hbo 34
  have HBO := Aside0.mk hbo
  have HBR := Aside0.mk hbr
  have HB1 := Aside0.mk hB1
  have HSET : Aside0 (∀ x, SetBlk w1 (w1.setCell ⟨w.heap.size + 1 + 1, 34, none⟩ (.string x)) (w.heap.size + 1 + 1) (.cells (Mc gk gs nm (.string x)).toArray 25 (0, 0))) := ⟨fun x => by
    have h := setBlk_cell hbo (.string x) (i := 34)
    rw [mc_set3 hn] at h
    exact h⟩
  clear hbo hbi hbr hB1
  by_cases h2 : gk = 2
  · have hg : Aside0 (gb = strOfNums ((bytesOf b).take 40)) := ⟨by rw [hgk.out, if_pos h2]⟩
    have ht : (gk == 2) = true := by rw [h2]; rfl
    clear h2 hgk
    go_wp2_with (first | (go_at_call 11; refine (short_calls b 40 _ (by omega) (by omega) hm).mono ?_; rintro e w2 ⟨rfl, rfl⟩) | ((with_reducible refine at_ld 25 _ ?_); refine load_arm rfl 25 _ rfl rfl (ld_m (HSET.out _).at_ hn) ?_; simp only [Act.put, List.setIfInBounds_toArray, List.set_cons_zero, List.set_cons_succ]) | ((with_reducible refine at_st 25 (.tmp 2) (.tmp 21) ?_); refine store_blk rfl 25 (.tmp 2) (.tmp 21) rfl rfl rfl ((HSET.out _).blk (by omega) HBR.out) (by rw [Mc_len hn]; rfl) (size_m hn) (Mc_one rfl) ?_; rintro w3 HS))
    (try simp only [Exit.inBlock, Exit.then])
    refine bodyPost_ret (v := .agg _) (results_cell_row rfl _ _ (w.heap.size + 1) _ _ _ _ rfl HS.at_ Try.underlying25 rfl ?_) rfl ⟨by rw [HE.out.1, HE.out.2.1, HE.out.2.2, hg.out], ?_⟩
    · rw [size_m hn, List.size_toArray]
    · exact (HB1.out.trans ((HSET.out _).below (by omega))).trans (HS.below (by omega))
  · have hg : Aside0 (gb = ⟨#[]⟩) := ⟨by rw [hgk.out, if_neg h2]⟩
    have ht : (gk == 2) = false := by simp [h2]
    clear h2 hgk
    go_wp2_with (first | ((with_reducible refine at_ld 25 _ ?_); refine load_arm rfl 25 _ rfl rfl (ld_m HBO.out hn) ?_; simp only [Act.put, List.setIfInBounds_toArray, List.set_cons_zero, List.set_cons_succ]) | ((with_reducible refine at_st 25 (.tmp 2) (.tmp 21) ?_); refine store_blk rfl 25 (.tmp 2) (.tmp 21) rfl rfl rfl HBR.out (by rw [Mc_len hn]; rfl) (size_m hn) (Mc_one rfl) ?_; rintro w3 HS))
    (try simp only [Exit.inBlock, Exit.then])
    refine bodyPost_ret (v := .agg _) (results_cell_row rfl _ _ (w.heap.size + 1) _ _ _ _ rfl HS.at_ Try.underlying25 rfl ?_) rfl ⟨by rw [HE.out.1, HE.out.2.1, HE.out.2.2, hg.out], ?_⟩
    · rw [size_m hn, List.size_toArray]
    · exact HB1.out.trans (HS.below (by omega))
end Go.Proofs.Ytbagphegelbgcaa
