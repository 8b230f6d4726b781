/- WireMay's walk. -/
import Derived.Test.YtbagphegelbgcaaWire3
import Derived.Test.YtbagphegelbgcaaOpenM2
namespace Go.Proofs.Ytbagphegelbgcaa
open Go.RowKit Go.Proofs.YtbagphegelbgcaaW.PrintWords Go.Proofs.YtbagphegelbgcaaW.PrintMore
set_option linter.unusedVariables false
set_option linter.unusedSimpArgs false
theorem goodB_size (k : Int) (b : ByteArray) : (goodB k b).size ≤ 40 := by
  unfold goodB
  split
  · rw [size_str, List.length_take]
    omega
  · exact Nat.zero_le _

theorem short40 (b : ByteArray) (w : World) (hb : b.size ≤ 9223372036854775807) : Calls Try.prog 11 #[.string b, .int .i64 40] w fun e w' => e = .returned (.string (strOfNums ((bytesOf b).take 40))) ∧ w = w' := short_calls b 40 w (by omega) (by omega) hb
def M5 (k s : Int) (nm : List Int) (b : ByteArray) (kd sq : Int) (z : List Int) : List (List Value) :=
  [Mc k s nm (.string (strOfNums ((bytesOf b).take 40))), Mc (goodK k) (goodS s) nm (.string (goodB k b)), Mc kd (goodS s) nm (.string (goodB k b)), Mc (goodK k) sq nm (.string (goodB k b)), Mc 2 0 Z32 (.string (strOfNums z))]
theorem M5_len {k s : Int} {nm : List Int} {b : ByteArray} {kd sq : Int} {z : List Int} (hn : nm.length = 32) : ∀ v ∈ M5 k s nm b kd sq z, v.length = 35 := by
  intro v hv
  simp only [M5, List.mem_cons, List.not_mem_nil, or_false] at hv
  rcases hv with rfl | rfl | rfl | rfl | rfl
  · exact Mc_len hn
  · exact Mc_len hn
  · exact Mc_len hn
  · exact Mc_len hn
  · exact Mc_len Z32_len
theorem M5_at {k s : Int} {nm : List Int} {b : ByteArray} {kd sq : Int} {z : List Int} (hn : nm.length = 32) (hbn : Bytes nm) (hz : z.length ≤ 4294967296) (j : Nat) (hj : j < 5) :
    ∃ (k' s' : Int) (nm' : List Int) (b' : ByteArray), (M5 k s nm b kd sq z)[j]? = some (Mc k' s' nm' (.string b')) ∧ nm'.length = 32 ∧ Bytes nm' ∧ b'.size ≤ 4294967296 := by
  have hg := goodB_size k b
  obtain rfl | rfl | rfl | rfl | rfl : j = 0 ∨ j = 1 ∨ j = 2 ∨ j = 3 ∨ j = 4 := by omega
  · exact ⟨_, _, _, _, rfl, hn, hbn, by rw [size_str, List.length_take]; omega⟩
  · exact ⟨_, _, _, _, rfl, hn, hbn, by omega⟩
  · exact ⟨_, _, _, _, rfl, hn, hbn, by omega⟩
  · exact ⟨_, _, _, _, rfl, hn, hbn, by omega⟩
  · exact ⟨_, _, _, _, rfl, Z32_len, Z32_bytes, by rw [size_str]; exact hz⟩

set_option maxHeartbeats 1600000 in
theorem wireMay_walk (k s : Int) (nm : List Int) (b : ByteArray) (kd sq n : Int) (C : Array Value) (w : World) (hC : C = (Mc k s nm (.string b)).toArray) (hn : nm.length = 32) (hbn : Bytes nm) (hm : b.size ≤ 9223372036854775807)
    (hk0 : -9223372036854775808 ≤ k) (hk1 : k ≤ 9223372036854775807) (hs0 : -9223372036854775808 ≤ s) (hs1 : s ≤ 9223372036854775807) (hn0 : -9223372036854775808 ≤ n) (hn1 : n ≤ 9223372036854775807) :
    Calls Try.prog 3 #[.agg C, .int .i64 kd, .int .i64 sq, .int .i64 n] w fun e w' => e = .returned (.bool true) ∧ Below w.heap.size w w' := by
  have HF0 : Aside0 ((w.alloc (.cells C 25)).heap[w.heap.size]? = some (.cells (Mc k s nm (.string b)).toArray 25 (0, 0))) := ⟨by rw [← hC]; exact blk_new w (.cells C 25)⟩
  have HW0 : Aside0 (Below w.heap.size w (w.alloc (.cells C 25)) ∧ (w.alloc (.cells C 25)).heap.size = w.heap.size + 1) := ⟨⟨(Below.refl _ _).alloc (Nat.le_refl _) _, by simp⟩⟩
  clear hC
  have HN := Aside0.mk hn
  clear hn
  have hgb := goodB_size k b
  obtain ⟨ha0, ha1⟩ := around_range n 11 (by omega)
  go_enter Try.func3, Try.ntmps3
  go_wp2_with (first
    | ((with_reducible refine at_ld 25 (.tmp 4) ?_); refine load_arm rfl 25 (.tmp 4) rfl rfl (ld_m HF0.out HN.out) ?_; simp only [Act.put, List.setIfInBounds_toArray, List.set_cons_zero, List.set_cons_succ])
    | (go_at_call 9; refine (good_calls k s nm b _ _ rfl HN.out hm hk0 hk1 hs0 hs1).mono ?_; rintro e w1 ⟨rfl, hB1⟩; have G0 := Aside0.mk (blk_below hB1 HF0.out))
    | ((with_reducible refine at_al 25 ?_); refine new_m rfl rfl rfl rfl (.tmp 19) rfl (of_decide_eq_true rfl) rfl HN.out rfl ?_; rintro w2 g1 N1; have G0a := Aside0.mk (N1.blk G0.out); have G1 := Aside0.mk N1.at_; have B2 := Aside0.mk (((HW0.out.1.trans (hB1.mono (by rw [HW0.out.2]; omega))).trans (N1.below.mono (by have := hB1.size; rw [HW0.out.2] at this; omega)))))
    | ((with_reducible refine at_ld 25 (.tmp 9) ?_); refine load_arm rfl 25 (.tmp 9) rfl rfl (ld_m G1.out HN.out) ?_; simp only [Act.put, List.setIfInBounds_toArray, List.set_cons_zero, List.set_cons_succ])
    | ((with_reducible refine at_al 25 ?_); refine new_m rfl rfl rfl rfl (.tmp 20) rfl (of_decide_eq_true rfl) rfl HN.out rfl ?_; rintro w3 g2 N2; have G0b := Aside0.mk (N2.blk G0a.out); have G1a := Aside0.mk (N2.blk G1.out); have G2 := Aside0.mk N2.at_; have L12 : g1 < g2 := Nat.lt_of_lt_of_le (blk_lt G1.out) N2.ge; have L02 : w.heap.size < g2 := Nat.lt_of_lt_of_le (blk_lt G0a.out) N2.ge; have B3 := Aside0.mk (B2.out.trans (N2.below.mono B2.out.size)))
    | ((with_reducible refine at_st 3 (.tmp 22) (.tmp 21) ?_); refine store_f0 rfl (.tmp 22) (.tmp 21) rfl rfl rfl G2.out HN.out ?_; rintro w4 S2; have G0c := Aside0.mk (S2.blk (by omega) G0b.out); have G1b := Aside0.mk (S2.blk (by omega) G1a.out); have G2a := Aside0.mk S2.at_; have B4 := Aside0.mk (B3.out.trans (S2.below (by omega))))
    | ((with_reducible refine at_ld 25 (.tmp 9) ?_); refine load_arm rfl 25 (.tmp 9) rfl rfl (ld_m G1b.out HN.out) ?_; simp only [Act.put, List.setIfInBounds_toArray, List.set_cons_zero, List.set_cons_succ])
    | ((with_reducible refine at_al 25 ?_); refine new_m rfl rfl rfl rfl (.tmp 23) rfl (of_decide_eq_true rfl) rfl HN.out rfl ?_; rintro w5 g3 N3; have G0d := Aside0.mk (N3.blk G0c.out); have G1c := Aside0.mk (N3.blk G1b.out); have G2b := Aside0.mk (N3.blk G2a.out); have G3 := Aside0.mk N3.at_; have L23 : g2 < g3 := Nat.lt_of_lt_of_le (blk_lt G2a.out) N3.ge; have B5 := Aside0.mk (B4.out.trans (N3.below.mono B4.out.size)))
    | ((with_reducible refine at_st 3 (.tmp 25) (.tmp 24) ?_); refine store_f1 rfl (.tmp 25) (.tmp 24) rfl rfl rfl G3.out HN.out ?_; rintro w6 S3; have G0e := Aside0.mk (S3.blk (by omega) G0d.out); have G1d := Aside0.mk (S3.blk (by omega) G1c.out); have G2c := Aside0.mk (S3.blk (by omega) G2b.out); have G3a := Aside0.mk S3.at_; have B6 := Aside0.mk (B5.out.trans (S3.below (by omega))))
    | (go_at_call 10; refine (around_calls n 11 _ hn0 hn1 (by omega) (by omega)).mono ?_; rintro e w7 ⟨rfl, rfl⟩)
    | (refine makeB (w0 := w6) w6.heap.size rfl rfl (.tmp 28) (.tmp 28) rfl (4100 + around n 11) rfl rfl (by omega) (by omega) (Below.refl _ _) (Nat.le_refl _) ?_; intro v7 w7 hO7 hB7; obtain ⟨A7, c7, hv7, hc7, hr7⟩ := OwB.reads hO7; obtain ⟨z7, HZ7, hr7'⟩ : ∃ z, Aside0 (z = List.replicate (4100 + around n 11).toNat (0 : Int)) ∧ RdB w7 A7 z.length z := ⟨_, ⟨rfl⟩, hr7⟩; rw [← HZ7.out] at hv7; have HR7 := Aside0.mk hr7'; clear hr7 hr7' hO7; subst hv7)
    | ((with_reducible refine at_cv 27 9 ?_); refine conv_arm rfl 27 9 _ rfl rfl (conv_str HR7.out c7) ?_; simp only [Act.put, List.setIfInBounds_toArray, List.set_cons_zero, List.set_cons_succ])
    | ((with_reducible refine at_bd 25 ?_); refine build_arm rfl 25 _ rfl (built_m03 2 0 (strOfNums z7)) ?_; simp only [Act.put, List.setIfInBounds_toArray, List.set_cons_zero, List.set_cons_succ])
    | ((with_reducible refine at_al 25 ?_); refine new_m rfl rfl rfl rfl (.tmp 31) rfl (of_decide_eq_true rfl) rfl Z32_len rfl ?_; rintro w8 g4 N4; have G0f := Aside0.mk (N4.blk (blk_below hB7 G0e.out)); have G1e := Aside0.mk (N4.blk (blk_below hB7 G1d.out)); have G2d := Aside0.mk (N4.blk (blk_below hB7 G2c.out)); have G3b := Aside0.mk (N4.blk (blk_below hB7 G3a.out)); have G4 := Aside0.mk N4.at_; have B8 := Aside0.mk ((B6.out.trans (hB7.mono B6.out.size)).trans (N4.below.mono (Nat.le_trans B6.out.size hB7.size)))))
  have hz7 : z7.length ≤ 4294967296 := by rw [HZ7.out, List.length_replicate]; omega
  have HG := Aside0.mk (And.intro (And.intro G0f.out G1e.out) (And.intro G2d.out (And.intro G3b.out G4.out)))
  obtain ⟨it, zv, hi, hz, hs, _⟩ := m_info
  clear G0 G0a G0b G0c G0d G0e G1 G1a G1b G1c G1d G2 G2a G2b G2c G3 G3a G4 N1 N2 N3 N4 S2 S3 B2 B3 B4 B5 B6 HR7 HZ7 hc7 hB7 hB1 G0f G1e G2d G3b
  refine seq_start [] (.take 0 (.take 1 (.take 2 (.take 3 (.take 4 (.take 5 (.take 6 (.take 7 (.take 8 (.take 9 (.take 10 (.take 11 (.take 12 (.take 13 (.run 14 (.take 15 .done)))))))))))))))) (by kernel_rfl) (by kernel_rfl) (fun _ _ d _ _ h => by cases d <;> exact h) ?_
  refine seq_take (v := ?_) (a' := ?_) rfl rfl (by rfl) (fun w' hw' => ?_) ?_ ?_
  rotate_left 2
  · go_simp
    with_reducible rfl
  · simp only [Act.put, List.setIfInBounds_toArray, List.set_cons_zero, List.set_cons_succ, Go.Proofs.YtbagphegelbgcaaW.PrintLast.i64_w, Go.Proofs.YtbagphegelbgcaaW.PrintLast.i32_w]
    rfl
  refine seq_take (v := _) (a' := ?_) rfl rfl (by rfl) (fun w' hw' => load_run rfl (p := .pointer (some ⟨w.heap.size, 0, none⟩)) rfl (ld_f0 (hw'.heap (w := w8.drew) HG.out.1.1) HN.out)) ?_ ?_
  rotate_left
  · simp only [Act.put, List.setIfInBounds_toArray, List.set_cons_zero, List.set_cons_succ, Go.Proofs.YtbagphegelbgcaaW.PrintLast.i64_w, Go.Proofs.YtbagphegelbgcaaW.PrintLast.i32_w]
    rfl
  refine seq_take (v := ?_) (a' := ?_) rfl rfl (by rfl) (fun w' hw' => ?_) ?_ ?_
  rotate_left 2
  · go_simp
    with_reducible rfl
  · simp only [Act.put, List.setIfInBounds_toArray, List.set_cons_zero, List.set_cons_succ, Go.Proofs.YtbagphegelbgcaaW.PrintLast.i64_w, Go.Proofs.YtbagphegelbgcaaW.PrintLast.i32_w]
    rfl
  refine seq_take (v := _) (a' := ?_) rfl rfl (by rfl) (fun w' hw' => load_run rfl (p := .pointer (some ⟨w.heap.size, 1, none⟩)) rfl (ld_f1 (hw'.heap (w := w8.drew) HG.out.1.1) HN.out)) ?_ ?_
  rotate_left
  · simp only [Act.put, List.setIfInBounds_toArray, List.set_cons_zero, List.set_cons_succ, Go.Proofs.YtbagphegelbgcaaW.PrintLast.i64_w, Go.Proofs.YtbagphegelbgcaaW.PrintLast.i32_w]
    rfl
  refine seq_take (v := ?_) (a' := ?_) rfl rfl (by rfl) (fun w' hw' => ?_) ?_ ?_
  rotate_left 2
  · go_simp
    with_reducible rfl
  · simp only [Act.put, List.setIfInBounds_toArray, List.set_cons_zero, List.set_cons_succ, Go.Proofs.YtbagphegelbgcaaW.PrintLast.i64_w, Go.Proofs.YtbagphegelbgcaaW.PrintLast.i32_w]
    rfl
  refine seq_take (v := _) (a' := ?_) rfl rfl (by rfl) (fun w' hw' => load_run rfl (p := .pointer (some ⟨w.heap.size, 2, none⟩)) rfl (ld_f2 (hw'.heap (w := w8.drew) HG.out.1.1) HN.out)) ?_ ?_
  rotate_left
  · simp only [Act.put, List.setIfInBounds_toArray, List.set_cons_zero, List.set_cons_succ, Go.Proofs.YtbagphegelbgcaaW.PrintLast.i64_w, Go.Proofs.YtbagphegelbgcaaW.PrintLast.i32_w]
    rfl
  refine seq_take (v := ?_) (a' := ?_) rfl rfl (by rfl) (fun w' hw' => ?_) ?_ ?_
  rotate_left 2
  · go_simp
    with_reducible rfl
  · simp only [Act.put, List.setIfInBounds_toArray, List.set_cons_zero, List.set_cons_succ, Go.Proofs.YtbagphegelbgcaaW.PrintLast.i64_w, Go.Proofs.YtbagphegelbgcaaW.PrintLast.i32_w]
    rfl
  refine seq_take (v := _) (a' := ?_) rfl rfl (by rfl) (fun w' hw' => load_run rfl (p := .pointer (some ⟨w.heap.size, 34, none⟩)) rfl (ld_f3s (hw'.heap (w := w8.drew) HG.out.1.1) HN.out)) ?_ ?_
  rotate_left
  · simp only [Act.put, List.setIfInBounds_toArray, List.set_cons_zero, List.set_cons_succ, Go.Proofs.YtbagphegelbgcaaW.PrintLast.i64_w, Go.Proofs.YtbagphegelbgcaaW.PrintLast.i32_w]
    rfl
  refine seq_quiet (v := ?_) (a' := ?_) rfl rfl (by rfl) rfl Try.func11 (by kernel_rfl) rfl #[.string b, .int .i64 40] (by simp only [List.map_toArray, List.map_cons, List.map_nil]; rfl) (fun w' hw' => ?_) ?_ ?_
  rotate_left 2
  · with_reducible exact short40 b w' hm
  · simp only [Act.put, List.setIfInBounds_toArray, List.set_cons_zero, List.set_cons_succ, Go.Proofs.YtbagphegelbgcaaW.PrintLast.i64_w, Go.Proofs.YtbagphegelbgcaaW.PrintLast.i32_w]
    rfl
  refine seq_take (v := _) (a' := ?_) rfl rfl (by rfl) (fun w' hw' => build_run _ _ rfl (built_m4 k s nm _ HN.out)) ?_ ?_
  rotate_left
  · simp only [Act.put, List.setIfInBounds_toArray, List.set_cons_zero, List.set_cons_succ, Go.Proofs.YtbagphegelbgcaaW.PrintLast.i64_w, Go.Proofs.YtbagphegelbgcaaW.PrintLast.i32_w]
    rfl
  refine seq_take (v := _) (a' := ?_) rfl rfl (by rfl) (fun w' hw' => load_run rfl (p := .pointer (some ⟨g1, 0, none⟩)) rfl (ld_m (hw'.heap (w := w8.drew) HG.out.1.2) HN.out)) ?_ ?_
  rotate_left
  · simp only [Act.put, List.setIfInBounds_toArray, List.set_cons_zero, List.set_cons_succ, Go.Proofs.YtbagphegelbgcaaW.PrintLast.i64_w, Go.Proofs.YtbagphegelbgcaaW.PrintLast.i32_w]
    rfl
  refine seq_take (v := _) (a' := ?_) rfl rfl (by rfl) (fun w' hw' => load_run rfl (p := .pointer (some ⟨g2, 0, none⟩)) rfl (ld_m (hw'.heap (w := w8.drew) HG.out.2.1) HN.out)) ?_ ?_
  rotate_left
  · simp only [Act.put, List.setIfInBounds_toArray, List.set_cons_zero, List.set_cons_succ, Go.Proofs.YtbagphegelbgcaaW.PrintLast.i64_w, Go.Proofs.YtbagphegelbgcaaW.PrintLast.i32_w]
    rfl
  refine seq_take (v := _) (a' := ?_) rfl rfl (by rfl) (fun w' hw' => load_run rfl (p := .pointer (some ⟨g3, 0, none⟩)) rfl (ld_m (hw'.heap (w := w8.drew) HG.out.2.2.1) HN.out)) ?_ ?_
  rotate_left
  · simp only [Act.put, List.setIfInBounds_toArray, List.set_cons_zero, List.set_cons_succ, Go.Proofs.YtbagphegelbgcaaW.PrintLast.i64_w, Go.Proofs.YtbagphegelbgcaaW.PrintLast.i32_w]
    rfl
  refine seq_take (v := _) (a' := ?_) rfl rfl (by rfl) (fun w' hw' => load_run rfl (p := .pointer (some ⟨g4, 0, none⟩)) rfl (ld_m (hw'.heap (w := w8.drew) HG.out.2.2.2) Z32_len)) ?_ ?_
  rotate_left
  · simp only [Act.put, List.setIfInBounds_toArray, List.set_cons_zero, List.set_cons_succ, Go.Proofs.YtbagphegelbgcaaW.PrintLast.i64_w, Go.Proofs.YtbagphegelbgcaaW.PrintLast.i32_w]
    rfl
  refine seq_run ?_
  refine do_val (v := _) (a' := ?_) (w1 := _) rfl rfl (by rfl) (rows_exec 5 _ rfl Try.underlying30 hi hz hs (M5 k s nm b kd sq z7) (M5_len HN.out) (show 5 * 35 ≤ 2 ^ 24 by decide) (show 5 * 35 ≠ 0 by decide) rfl rfl) ?_ ?_
  rotate_left
  · simp only [Act.put, List.setIfInBounds_toArray, List.set_cons_zero, List.set_cons_succ, Go.Proofs.YtbagphegelbgcaaW.PrintLast.i64_w, Go.Proofs.YtbagphegelbgcaaW.PrintLast.i32_w]
    rfl
  refine ⟨fun _ => below_alloc (Below.refl _ _) _, ?_⟩
  refine seq_take (v := ?_) (a' := ?_) rfl rfl (by rfl) (fun w' hw' => ?_) ?_ ?_
  rotate_left 2
  · go_simp
    with_reducible rfl
  · simp only [Act.put, List.setIfInBounds_toArray, List.set_cons_zero, List.set_cons_succ, Go.Proofs.YtbagphegelbgcaaW.PrintLast.i64_w, Go.Proofs.YtbagphegelbgcaaW.PrintLast.i32_w]
    rfl
  refine seq_end ?_
  clear hi hz hs
  have hat := fun j hj => M5_at (k := k) (s := s) (b := b) (kd := kd) (sq := sq) HN.out hbn hz7 j hj
  have hML := M5_len (k := k) (s := s) (b := b) (kd := kd) (sq := sq) (z := z7) HN.out
  generalize M5 k s nm b kd sq z7 = vs at *
  obtain ⟨w9, hw9⟩ : ∃ w9, w9 = w8.drew.alloc (.cells vs.flatten.toArray 25) := ⟨_, rfl⟩
  have GA : w9.heap[w8.heap.size]? = some (.cells vs.flatten.toArray 25 (0, 0)) := by rw [hw9]; exact blk_new w8.drew _
  have B9 : Below w.heap.size w w9 := by rw [hw9]; exact (Below.drew B8.out).alloc B8.out.size _
  rw [← hw9, show w8.drew.heap.size = w8.heap.size from rfl]
  generalize w8.heap.size = ga at *
  have HGA := Aside0.mk GA
  have HB9 := Aside0.mk B9
  have HAT := Aside0.mk hat
  have HML := Aside0.mk hML
  clear hw9 GA B9 hat hML B8 HG hz7 HF0 HW0 hgb ha0 ha1 L12 L02 L23
  go_wp2
  go_loopw [14, 15, 16, 17] (fun i _ _ _ wr => ∃ j : Nat, j ≤ 5 ∧ i = .int .i64 j ∧ Below w9.heap.size w9 wr) (fun i _ _ _ _ => 5 - (intOf i).toNat)
  case atStart => exact ⟨0, by omega, rfl, Below.refl _ _⟩
  case round =>
    obtain ⟨j, hj, rfl, hB⟩ := hrel
    have HB := Aside0.mk hB
    clear hB
    by_cases hlt : j < 5
    · obtain ⟨k', s', nm', b', hvj, hn', hb', hbs⟩ := HAT.out j hlt
      have HLD : Aside0 (∀ W, Below w9.heap.size w9 W → (Instr.loadAt 25 (.pointer (some ⟨ga, j * 35, none⟩))).run Try.prog W = .ok (.agg (Mc k' s' nm' (.string b')).toArray) W) := ⟨fun W hW => run_loadAt_mid W ga (j * 35) 25 _ _ (rows_range (blk_below hW HGA.out) HML.out hvj) Try.underlying25 rfl (size_m hn')⟩
      have HN' := Aside0.mk hn'
      have HB' := Aside0.mk hb'
      clear hvj hn' hb'
      have hbs' : b'.size ≤ 9223372036854775807 := by omega
      have hbs2 : b'.size ≤ 140737488355328 := by omega
      rcases hmay : mayB k' s' b'.size with _ | _
      · have HM := Aside0.mk hmay
        clear hmay
        go_wp2_with (first
          | ((with_reducible refine at_ld 25 (.tmp 53) ?_); refine load_arm rfl 25 (.tmp 53) rfl rfl (HLD.out _ HB.out) ?_; simp only [Act.put, List.setIfInBounds_toArray, List.set_cons_zero, List.set_cons_succ])
          | (go_at_call 12; refine (rmay_calls k' s' nm' b' _ _ rfl HN'.out hbs').mono ?_; rw [HM.out]; rintro e u1 ⟨rfl, hC1⟩; have E1 := Aside0.mk (below_tr HB.out hC1 HB.out.size))
          | ((with_reducible refine at_ld 25 (.tmp 59) ?_); refine load_arm rfl 25 (.tmp 59) rfl rfl (HLD.out _ E1.out) ?_; simp only [Act.put, List.setIfInBounds_toArray, List.set_cons_zero, List.set_cons_succ])
          | (go_at_call 14; refine (of_calls k' s' nm' b' _ u1 rfl HN'.out hbs2).mono ?_; rintro e u2 ⟨A2, c2, rfl, hR2, hc2, hC2⟩; have E2 := Aside0.mk (below_tr E1.out hC2 E1.out.size))
          | (go_at_call 13; refine (write_calls k' s' nm' A2 b'.size c2 (bytesOf b') _ _ rfl HN'.out HB'.out hR2 (bytesOf_bytes b') hbs).mono ?_; rw [HM.out]; rintro e u3 ⟨v3, rfl, hO3, hC3⟩; have E3 := Aside0.mk (below_tr E2.out hC3 E2.out.size); obtain ⟨A3, c3, hv3, hc3, hr3⟩ := OwB.reads hO3; subst hv3)
          | ((with_reducible refine at_ld 25 (.tmp 67) ?_); refine load_arm rfl 25 (.tmp 67) rfl rfl (HLD.out _ E3.out) ?_; simp only [Act.put, List.setIfInBounds_toArray, List.set_cons_zero, List.set_cons_succ])
          | (go_at_call 14; refine (of_calls k' s' nm' b' _ u3 rfl HN'.out hbs2).mono ?_; rintro e u4 ⟨A4, c4, rfl, hR4, hc4, hC4⟩; have E4 := Aside0.mk (below_tr E3.out hC4 E3.out.size))
          | (go_at_call 15; refine (wmay_calls k' s' nm' A4 b'.size c4 _ u4 rfl HN'.out hbs2).mono ?_; rw [HM.out]; rintro e u5 ⟨rfl, hC5⟩; have E5 := Aside0.mk (below_tr E4.out hC5 E4.out.size)))
        have E5d := Aside0.mk (Below.drew E5.out)
        clear hO3 hr3 hR2 hR4 hC1 hC2 hC3 hC4 hC5 hc3 hc2 hc4 E1 E2 E3 E4
        refine seq_start [] (.take 0 (.take 1 (.take 2 (.take 3 (.take 4 (.take 5 (.take 6 (.take 7 (.take 8 (.take 9 (.take 10 (.take 11 .done)))))))))))) (by kernel_rfl) (by kernel_rfl) (fun _ _ d _ _ h => by cases d <;> exact h) ?_
        refine seq_take (v := ?_) (a' := ?_) rfl rfl (by rfl) (fun w' hw' => ?_) ?_ ?_
        rotate_left 2
        · go_simp
          with_reducible rfl
        · simp only [Act.put, List.setIfInBounds_toArray, List.set_cons_zero, List.set_cons_succ, Go.Proofs.YtbagphegelbgcaaW.PrintLast.i64_w, Go.Proofs.YtbagphegelbgcaaW.PrintLast.i32_w]
          rfl
        refine seq_take (v := ?_) (a' := ?_) rfl rfl (by rfl) (fun w' hw' => ?_) ?_ ?_
        rotate_left 2
        · go_simp
          with_reducible rfl
        · simp only [Act.put, List.setIfInBounds_toArray, List.set_cons_zero, List.set_cons_succ, Go.Proofs.YtbagphegelbgcaaW.PrintLast.i64_w, Go.Proofs.YtbagphegelbgcaaW.PrintLast.i32_w]
          rfl
        refine seq_off (a' := ?_) rfl rfl (by rfl) ?_ ?_
        rotate_left
        · simp only [Act.put, List.setIfInBounds_toArray, List.set_cons_zero, List.set_cons_succ, Go.Proofs.YtbagphegelbgcaaW.PrintLast.i64_w, Go.Proofs.YtbagphegelbgcaaW.PrintLast.i32_w]
          rfl
        refine seq_off (a' := ?_) rfl rfl (by rfl) ?_ ?_
        rotate_left
        · simp only [Act.put, List.setIfInBounds_toArray, List.set_cons_zero, List.set_cons_succ, Go.Proofs.YtbagphegelbgcaaW.PrintLast.i64_w, Go.Proofs.YtbagphegelbgcaaW.PrintLast.i32_w]
          rfl
        refine seq_off (a' := ?_) rfl rfl (by rfl) ?_ ?_
        rotate_left
        · simp only [Act.put, List.setIfInBounds_toArray, List.set_cons_zero, List.set_cons_succ, Go.Proofs.YtbagphegelbgcaaW.PrintLast.i64_w, Go.Proofs.YtbagphegelbgcaaW.PrintLast.i32_w]
          rfl
        refine seq_off (a' := ?_) rfl rfl (by rfl) ?_ ?_
        rotate_left
        · simp only [Act.put, List.setIfInBounds_toArray, List.set_cons_zero, List.set_cons_succ, Go.Proofs.YtbagphegelbgcaaW.PrintLast.i64_w, Go.Proofs.YtbagphegelbgcaaW.PrintLast.i32_w]
          rfl
        refine seq_off (a' := ?_) rfl rfl (by rfl) ?_ ?_
        rotate_left
        · simp only [Act.put, List.setIfInBounds_toArray, List.set_cons_zero, List.set_cons_succ, Go.Proofs.YtbagphegelbgcaaW.PrintLast.i64_w, Go.Proofs.YtbagphegelbgcaaW.PrintLast.i32_w]
          rfl
        refine seq_off (a' := ?_) rfl rfl (by rfl) ?_ ?_
        rotate_left
        · simp only [Act.put, List.setIfInBounds_toArray, List.set_cons_zero, List.set_cons_succ, Go.Proofs.YtbagphegelbgcaaW.PrintLast.i64_w, Go.Proofs.YtbagphegelbgcaaW.PrintLast.i32_w]
          rfl
        refine seq_off (a' := ?_) rfl rfl (by rfl) ?_ ?_
        rotate_left
        · simp only [Act.put, List.setIfInBounds_toArray, List.set_cons_zero, List.set_cons_succ, Go.Proofs.YtbagphegelbgcaaW.PrintLast.i64_w, Go.Proofs.YtbagphegelbgcaaW.PrintLast.i32_w]
          rfl
        refine seq_off (a' := ?_) rfl rfl (by rfl) ?_ ?_
        rotate_left
        · simp only [Act.put, List.setIfInBounds_toArray, List.set_cons_zero, List.set_cons_succ, Go.Proofs.YtbagphegelbgcaaW.PrintLast.i64_w, Go.Proofs.YtbagphegelbgcaaW.PrintLast.i32_w]
          rfl
        refine seq_off (a' := ?_) rfl rfl (by rfl) ?_ ?_
        rotate_left
        · simp only [Act.put, List.setIfInBounds_toArray, List.set_cons_zero, List.set_cons_succ, Go.Proofs.YtbagphegelbgcaaW.PrintLast.i64_w, Go.Proofs.YtbagphegelbgcaaW.PrintLast.i32_w]
          rfl
        refine seq_take (v := ?_) (a' := ?_) rfl rfl (by rfl) (fun w' hw' => ?_) ?_ ?_
        rotate_left 2
        · go_simp
          with_reducible rfl
        · simp only [Act.put, List.setIfInBounds_toArray, List.set_cons_zero, List.set_cons_succ, Go.Proofs.YtbagphegelbgcaaW.PrintLast.i64_w, Go.Proofs.YtbagphegelbgcaaW.PrintLast.i32_w]
          rfl
        refine seq_end ?_
        go_wp2
        go_roundw
        case rel => exact ⟨j + 1, by omega, by go_num, E5d.out⟩
        case measure => simp [intOf]; omega
      · have HM := Aside0.mk hmay
        have hmm : 1 ≤ k' ∧ k' ≤ 3 ∧ 0 ≤ s' ∧ s' ≤ 4294967295 := by
          unfold mayB at hmay
          rw [decide_eq_true_iff] at hmay
          omega
        clear hmay
        have HMM := Aside0.mk hmm
        clear hmm
        go_wp2_with (first
          | ((with_reducible refine at_ld 25 (.tmp 53) ?_); refine load_arm rfl 25 (.tmp 53) rfl rfl (HLD.out _ HB.out) ?_; simp only [Act.put, List.setIfInBounds_toArray, List.set_cons_zero, List.set_cons_succ])
          | (go_at_call 12; refine (rmay_calls k' s' nm' b' _ _ rfl HN'.out hbs').mono ?_; rw [HM.out]; rintro e u1 ⟨rfl, hC1⟩; have E1 := Aside0.mk (below_tr HB.out hC1 HB.out.size))
          | ((with_reducible refine at_ld 25 (.tmp 59) ?_); refine load_arm rfl 25 (.tmp 59) rfl rfl (HLD.out _ E1.out) ?_; simp only [Act.put, List.setIfInBounds_toArray, List.set_cons_zero, List.set_cons_succ])
          | (go_at_call 14; refine (of_calls k' s' nm' b' _ u1 rfl HN'.out hbs2).mono ?_; rintro e u2 ⟨A2, c2, rfl, hR2, hc2, hC2⟩; have E2 := Aside0.mk (below_tr E1.out hC2 E1.out.size))
          | (go_at_call 13; refine (write_calls k' s' nm' A2 b'.size c2 (bytesOf b') _ _ rfl HN'.out HB'.out hR2 (bytesOf_bytes b') hbs).mono ?_; rw [HM.out]; rintro e u3 ⟨v3, rfl, hO3, hC3⟩; have E3 := Aside0.mk (below_tr E2.out hC3 E2.out.size); obtain ⟨xs3, HX3, hO3'⟩ : ∃ xs, Aside0 (xs = cput (wbody k' s' nm' (bytesOf b'))) ∧ OwB u3 u2.heap.size v3 xs := ⟨_, ⟨rfl⟩, hO3⟩; clear hO3; obtain ⟨A3, c3, hv3, hc3, hr3⟩ := OwB.reads hO3'; have HR3 := Aside0.mk hr3; clear hr3 hO3'; subst hv3)
          | ((with_reducible refine at_ld 25 (.tmp 67) ?_); refine load_arm rfl 25 (.tmp 67) rfl rfl (HLD.out _ E3.out) ?_; simp only [Act.put, List.setIfInBounds_toArray, List.set_cons_zero, List.set_cons_succ])
          | (go_at_call 14; refine (of_calls k' s' nm' b' _ u3 rfl HN'.out hbs2).mono ?_; rintro e u4 ⟨A4, c4, rfl, hR4, hc4, hC4⟩; have E4 := Aside0.mk (below_tr E3.out hC4 E3.out.size))
          | (go_at_call 15; refine (wmay_calls k' s' nm' A4 b'.size c4 _ u4 rfl HN'.out hbs2).mono ?_; rw [HM.out]; rintro e u5 ⟨rfl, hC5⟩; have E5 := Aside0.mk (below_tr E4.out hC5 E4.out.size)))
        have E5d := Aside0.mk (Below.drew E5.out)
        have HR5 : Aside0 (RdB u5.drew A3 xs3.length xs3) := ⟨Kd.C_drew (Kd.C_below (Kd.C_below HR3.out hC4) hC5)⟩
        clear hR2 hR4 hC1 hC2 hC3 hC4 hC5 hc3 hc2 hc4 E1 E2 E3 E4 HR3
        refine seq_start [] (.take 0 (.take 1 (.take 2 (.take 3 (.take 4 (.take 5 (.take 6 (.take 7 (.run 8 (.take 9 (.take 10 (.take 11 .done)))))))))))) (by kernel_rfl) (by kernel_rfl) (fun _ _ d _ _ h => by cases d <;> exact h) ?_
        refine seq_take (v := ?_) (a' := ?_) rfl rfl (by rfl) (fun w' hw' => ?_) ?_ ?_
        rotate_left 2
        · go_simp
          with_reducible rfl
        · simp only [Act.put, List.setIfInBounds_toArray, List.set_cons_zero, List.set_cons_succ, Go.Proofs.YtbagphegelbgcaaW.PrintLast.i64_w, Go.Proofs.YtbagphegelbgcaaW.PrintLast.i32_w]
          rfl
        refine seq_take (v := ?_) (a' := ?_) rfl rfl (by rfl) (fun w' hw' => ?_) ?_ ?_
        rotate_left 2
        · go_simp
          with_reducible rfl
        · simp only [Act.put, List.setIfInBounds_toArray, List.set_cons_zero, List.set_cons_succ, Go.Proofs.YtbagphegelbgcaaW.PrintLast.i64_w, Go.Proofs.YtbagphegelbgcaaW.PrintLast.i32_w]
          rfl
        refine seq_take (v := ?_) (a' := ?_) rfl rfl (by rfl) (fun w' hw' => ?_) ?_ ?_
        rotate_left 2
        · go_simp
          with_reducible rfl
        · simp only [Act.put, List.setIfInBounds_toArray, List.set_cons_zero, List.set_cons_succ, Go.Proofs.YtbagphegelbgcaaW.PrintLast.i64_w, Go.Proofs.YtbagphegelbgcaaW.PrintLast.i32_w]
          rfl
        refine seq_take (v := _) (a' := ?_) rfl rfl (by rfl) (fun w' hw' => conv_run _ _ _ rfl rfl (conv_str (Kd.C_below HR5.out hw') c3)) ?_ ?_
        rotate_left
        · simp only [Act.put, List.setIfInBounds_toArray, List.set_cons_zero, List.set_cons_succ, Go.Proofs.YtbagphegelbgcaaW.PrintLast.i64_w, Go.Proofs.YtbagphegelbgcaaW.PrintLast.i32_w]
          rfl
        refine seq_take (v := ?_) (a' := ?_) rfl rfl (by rfl) (fun w' hw' => ?_) ?_ ?_
        rotate_left 2
        · go_simp
          with_reducible rfl
        · simp only [Act.put, List.setIfInBounds_toArray, List.set_cons_zero, List.set_cons_succ, Go.Proofs.YtbagphegelbgcaaW.PrintLast.i64_w, Go.Proofs.YtbagphegelbgcaaW.PrintLast.i32_w]
          rfl
        refine seq_take (v := ?_) (a' := ?_) rfl rfl (by rfl) (fun w' hw' => ?_) ?_ ?_
        rotate_left 2
        · go_simp
          with_reducible rfl
        · simp only [Act.put, List.setIfInBounds_toArray, List.set_cons_zero, List.set_cons_succ, Go.Proofs.YtbagphegelbgcaaW.PrintLast.i64_w, Go.Proofs.YtbagphegelbgcaaW.PrintLast.i32_w]
          rfl
        refine seq_take (v := ?_) (a' := ?_) rfl rfl (by rfl) (fun w' hw' => ?_) ?_ ?_
        rotate_left 2
        · go_simp
          with_reducible rfl
        · simp only [Act.put, List.setIfInBounds_toArray, List.set_cons_zero, List.set_cons_succ, Go.Proofs.YtbagphegelbgcaaW.PrintLast.i64_w, Go.Proofs.YtbagphegelbgcaaW.PrintLast.i32_w]
          rfl
        refine seq_take (v := _) (a' := ?_) rfl rfl (by rfl) (fun w' hw' => load_run rfl (p := .pointer (some ⟨ga, j * 35, none⟩)) rfl (HLD.out _ (E5d.out.trans (Below.mono hw' E5d.out.size)))) ?_ ?_
        rotate_left
        · simp only [Act.put, List.setIfInBounds_toArray, List.set_cons_zero, List.set_cons_succ, Go.Proofs.YtbagphegelbgcaaW.PrintLast.i64_w, Go.Proofs.YtbagphegelbgcaaW.PrintLast.i32_w]
          rfl
        refine seq_run ?_
        refine do_call rfl rfl (by rfl) rfl Try.func16 (by kernel_rfl) rfl #[.agg (Mc k' s' nm' (.string b')).toArray] (by simp only [List.map_toArray, List.map_cons, List.map_nil]; rfl) ?_
        with_reducible refine (rbytes_calls k' s' nm' b' _ _ rfl HN'.out HB'.out hbs (by have := HMM.out; omega) (by have := HMM.out; omega) (by have := HMM.out; omega) (by have := HMM.out; omega)).mono ?_
        rintro e u6 ⟨v6, rfl, hO6, hC6⟩
        refine ⟨_, ?_, rfl, ?_, fun _ => hC6, ?_⟩
        rotate_left
        · simp only [Act.put, List.setIfInBounds_toArray, List.set_cons_zero, List.set_cons_succ, Go.Proofs.YtbagphegelbgcaaW.PrintLast.i64_w, Go.Proofs.YtbagphegelbgcaaW.PrintLast.i32_w]
          rfl
        rw [← HX3.out] at hO6
        obtain ⟨A6, c6, hv6, hc6, hr6⟩ := OwB.reads hO6
        subst hv6
        refine seq_take (v := _) (a' := ?_) rfl rfl (by rfl) (fun w' hw' => conv_run _ _ _ rfl rfl (conv_str (Kd.C_below hr6 hw') c6)) ?_ ?_
        rotate_left
        · simp only [Act.put, List.setIfInBounds_toArray, List.set_cons_zero, List.set_cons_succ, Go.Proofs.YtbagphegelbgcaaW.PrintLast.i64_w, Go.Proofs.YtbagphegelbgcaaW.PrintLast.i32_w]
          rfl
        refine seq_take (v := ?_) (a' := ?_) rfl rfl (by rfl) (fun w' hw' => ?_) ?_ ?_
        rotate_left 2
        · go_simp
          with_reducible rfl
        · simp only [Act.put, List.setIfInBounds_toArray, List.set_cons_zero, List.set_cons_succ, Go.Proofs.YtbagphegelbgcaaW.PrintLast.i64_w, Go.Proofs.YtbagphegelbgcaaW.PrintLast.i32_w]
          rfl
        refine seq_take (v := ?_) (a' := ?_) rfl rfl (by rfl) (fun w' hw' => ?_) ?_ ?_
        rotate_left 2
        · go_simp
          with_reducible rfl
        · simp only [Act.put, List.setIfInBounds_toArray, List.set_cons_zero, List.set_cons_succ, Go.Proofs.YtbagphegelbgcaaW.PrintLast.i64_w, Go.Proofs.YtbagphegelbgcaaW.PrintLast.i32_w]
          rfl
        refine seq_end ?_
        go_wp2
        go_roundw
        case rel => exact ⟨j + 1, by omega, by go_num, below_tr E5d.out hC6 E5d.out.size⟩
        case measure => simp [intOf]; omega
    · obtain rfl : j = 5 := by omega
      go_wp2_with (go_at_call 17; refine (lives_calls wr).mono ?_; rintro e u1 ⟨rfl, hC1⟩)
      go_ret
      exact ⟨rfl, (HB9.out.trans (HB.out.mono HB9.out.size)).trans (hC1.mono (Nat.le_trans HB9.out.size HB.out.size))⟩
end Go.Proofs.Ytbagphegelbgcaa
