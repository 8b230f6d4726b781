/- Contracts: lighterageref18.Read. Conditions: its own. -/
import Derived.Test.YtbagphegelbgcaaWire3
import Derived.Test.YtbagphegelbgcaaBag
import Derived.Laws.Cover3
namespace Go.Proofs.Ytbagphegelbgcaa
open Go.RowKit Go.Proofs.YtbagphegelbgcaaW.PrintWords Go.Proofs.YtbagphegelbgcaaW.PrintMore
set_option linter.unusedVariables false
set_option linter.unusedSimpArgs false
/-- The four bytes' number. -/
def wseq (y : List Int) : Int := rd y 1 + 256 * rd y 2 + 65536 * rd y 3 + 16777216 * rd y 4
/-- What the bytes say: kind, number, name, body, error. -/
def WR (xs : List Int) : Int × Int × List Int × List Int × Int :=
  if (ctake xs).2 ≠ 0 then (0, 0, Z32, [], (ctake xs).2)
  else if (ctake xs).1.length < 37 then (0, 0, Z32, [], 2)
  else if mayB (rd (ctake xs).1 0) (wseq (ctake xs).1) ((ctake xs).1.length - 37) then (rd (ctake xs).1 0, wseq (ctake xs).1, ((ctake xs).1.drop 5).take 32, (ctake xs).1.drop 37, 0)
  else (0, 0, Z32, [], 2)
theorem WR_err {xs y : List Int} {e : Int} (h : ctake xs = (y, e)) (he : e ≠ 0) : WR xs = (0, 0, Z32, [], e) := by
  unfold WR; rw [h]; rw [if_pos he]
theorem WR_short {xs y : List Int} {e : Int} (h : ctake xs = (y, e)) (he : e = 0) (hl : y.length < 37) : WR xs = (0, 0, Z32, [], 2) := by
  subst he; unfold WR; rw [h]; rw [if_neg (by simp), if_pos hl]
theorem WR_no {xs y : List Int} {e : Int} (h : ctake xs = (y, e)) (he : e = 0) (hl : ¬ y.length < 37) (hm : mayB (rd y 0) (wseq y) (y.length - 37) = false) : WR xs = (0, 0, Z32, [], 2) := by
  subst he; unfold WR; rw [h]; rw [if_neg (by simp), if_neg hl, if_neg (by simp [hm])]
theorem WR_ok {xs y : List Int} {e : Int} (h : ctake xs = (y, e)) (he : e = 0) (hl : ¬ y.length < 37) (hm : mayB (rd y 0) (wseq y) (y.length - 37) = true) : WR xs = (rd y 0, wseq y, (y.drop 5).take 32, y.drop 37, 0) := by
  subst he; unfold WR; rw [h]; rw [if_neg (by simp), if_neg hl, if_pos hm]
/-- One byte of what is read. -/
theorem rd_at {w : World} {ad : Addr} {n : Nat} {xs : List Int} (h : RdB w (some ad) n xs) (i : Nat) (hi : i < n) : w.cell? (ad.add i) = some (.int .u8 (rd xs i)) := by
  obtain ⟨ad', e, hx⟩ := Kd.at_int h (i : Int) (by omega) (by omega)
  cases e
  exact hx
/-- b[i:j], of some that are read. -/
theorem cutMid {w : World} {ad : Addr} {n c : Nat} {xs : List Int} (h : RdB w (some ad) n xs) (hc : n ≤ c) (i j : Nat) (hi : i < j) (hj : j ≤ n) :
    (∀ W : World, (Instr.slice 27 (.slice (some ad) n c) (some (.int .i64 i)) (some (.int .i64 j)) none).run Try.prog W = .ok (.slice (some (ad.add i)) (j - i) (c - i)) W) ∧ RdB w (some (ad.add i)) (j - i) ((xs.drop i).take (j - i)) := by
  obtain ⟨i0, hinf, _, hsz, _⟩ := info_parts infoB
  constructor
  · intro W
    have hel : Try.prog.elem 27 = 5 := by simp [Program.elem, Try.underlying27]
    have hu : Try.prog.underlying 27 = some (.slice (Try.prog.elem 27)) := by rw [hel]; exact Try.underlying27
    rw [run_slice_lh W 27 (some ad) n c hu .i64 .i64 i j (by omega) (by omega) (by omega), hel]
    have hne : ¬ c = i := by omega
    simp [sizeOf, typeInfo, hinf, hsz, sliced, Result.andThen, hne]
  · have h1 := (Kd.reads_of_C (d := (0 : Int)) h).drop_ i (by omega) hc
    rw [if_neg (by omega)] at h1
    exact Kd.C_of_reads (h1.take_ (j - i) (by omega))
def RPost (xs : List Int) (w : World) (e : Ending) (w' : World) : Prop :=
  ∃ (k s : Int) (nm ys : List Int) (er : Int), nm.length = 32 ∧ e = .returned (.tuple #[.agg (Mc k s nm (.string (strOfNums ys))).toArray, .int .i64 er]) ∧ Aside0 ((k, s, nm, ys, er) = WR xs) ∧ Below w.heap.size w w'
set_option maxHeartbeats 1600000 in
set_option maxRecDepth 20000 in
/-- lighterageref18.Read -/
theorem rread_calls (A : Option Addr) (n c : Nat) (xs : List Int) (w : World) (h : RdB w A n xs) (hc : n ≤ c) (hb : Bytes xs) (hn : n ≤ 70368744177664) :
    Calls Try.prog 24 #[.slice A n c] w fun e w' => RPost xs w e w' := by
  have HX := Aside0.mk h
  have HXB := Aside0.mk hb
  obtain rfl : xs.length = n := h.1
  clear h hb
  have Q0 : Aside0 (∀ o, Bag w (w.alloc (.cells o 25)) [(w.heap.size, .cells o 25 (0, 0))]) := ⟨fun o => (Bag.nil w).box o 25⟩
  rcases hT : ctake xs with ⟨y, er⟩
  have HT := Aside0.mk hT
  have hyb : Bytes y := by have := ctake_bytes HXB.out; rwa [hT] at this
  clear hT
  by_cases her : er = 0
  · by_cases hl : y.length < 37
    · have HW := Aside0.mk (WR_short HT.out her hl)
      subst er
      go_enter Try.func24, Try.ntmps24
      go_wp2_with (first
        | (go_at_call 32; refine (rtake_calls A xs.length c xs _ (Kd.C_below HX.out (Q0.out _).below) hc HXB.out hn).mono ?_; rw [HT.out]; rintro e w1 ⟨B, m, d, rfl, hR, hd, hB1⟩; have Q1 := (Q0.out _).call hB1; obtain rfl : y.length = m := hR.1; have HR := Aside0.mk hR; clear hR)
        | ((with_reducible refine at_bd 25 ?_); refine build_arm rfl 25 _ rfl built_mz ?_; simp only [Act.put, List.setIfInBounds_toArray, List.set_cons_zero, List.set_cons_succ])
        | ((with_reducible refine at_st 25 (.tmp 2) (.tmp 20) ?_); have hq := Q1.at 0 rfl; refine store_blk rfl 25 (.tmp 2) (.tmp 20) rfl rfl rfl hq (by rw [Mc_len Z32_len]; rfl) (size_m Z32_len) (Mc_one rfl) ?_; clear hq; rintro w7 HS))
      have Q7 := Q1.set 0 rfl HS
      (try simp only [Exit.inBlock, Exit.then])
      refine bodyPost_ret (v := .tuple #[.agg _, _]) (results_cell_tmp rfl _ _ w.heap.size _ _ _ _ rfl HS.at_ Try.underlying25 rfl ?_) rfl (show RPost xs w _ _ from ⟨0, 0, Z32, [], 2, Z32_len, rfl, ⟨HW.out.symm⟩, Q7.below⟩)
      · rw [size_m Z32_len, List.size_toArray]
    · have h37 : 37 ≤ y.length := by omega
      have hnl : ((y.drop 5).take 32).length = 32 := by rw [List.length_take, List.length_drop]; omega
      have b0 := hyb.at_ 0
      have b1 := hyb.at_ 1
      have b2 := hyb.at_ 2
      have b3 := hyb.at_ 3
      have b4 := hyb.at_ 4
      have HNL := Aside0.mk hnl
      clear hnl
      rcases hm : mayB (rd y 0) (wseq y) (y.length - 37) with _ | _
      · have HW := Aside0.mk (WR_no HT.out her hl hm)
        have HM := Aside0.mk hm
        have HSQ : Aside0 (wseq y = rd y 1 + 256 * rd y 2 + 65536 * rd y 3 + 16777216 * rd y 4) := ⟨rfl⟩
        clear hm hl
        subst er
        go_enter Try.func24, Try.ntmps24
        go_wp2_with (go_at_call 32; refine (rtake_calls A xs.length c xs _ (Kd.C_below HX.out (Q0.out _).below) hc HXB.out hn).mono ?_; rw [HT.out]; rintro e w1 ⟨B, m, d, rfl, hR, hd, hB1⟩; have Q1 := (Q0.out _).call hB1; obtain rfl : y.length = m := hR.1; obtain ⟨ad, hBad⟩ : ∃ ad, B = some ad := (by obtain ⟨ad, e, _⟩ := Kd.at_int hR 0 (by omega) (by omega); exact ⟨ad, e⟩); subst hBad; obtain ⟨gb, ob, sb⟩ := ad; have HRw := Aside0.mk (Kd.C_below hR hB1); have HR := Aside0.mk (Kd.C_drew HRw.out); clear hR hB1)
        clear h37
        obtain ⟨h37, hd37⟩ : 37 ≤ y.length ∧ 37 ≤ d := by have := HR.out.1; omega
        obtain ⟨i0, i1, i2, i3, i4⟩ : 0 < y.length ∧ (1 : Int) < (y.length : Int) ∧ (2 : Int) < (y.length : Int) ∧ (3 : Int) < (y.length : Int) ∧ (4 : Int) < (y.length : Int) := by omega
        obtain ⟨B5, hs1, HR5⟩ : ∃ B, (∀ W : World, (Instr.slice 27 (.slice (some ⟨gb, ob, sb⟩) y.length d) (some (.int .i64 5)) (some (.int .i64 37)) none).run Try.prog W = .ok (.slice B 32 (d - 5)) W) ∧ Aside0 (RdB w1 B 32 ((y.drop 5).take 32)) := ⟨_, (cutMid HR.out hd 5 37 (by omega) (by omega)).1, ⟨(cutMid HRw.out hd 5 37 (by omega) (by omega)).2⟩⟩
        obtain ⟨B37, hs2, HR37⟩ : ∃ B, (∀ W : World, (Instr.slice 27 (.slice (some ⟨gb, ob, sb⟩) y.length d) (some (.int .i64 37)) none none).run Try.prog W = .ok (.slice B (y.length - 37) (d - 37)) W) ∧ Aside0 (RdB w1.drew B (y.length - 37) (y.drop 37)) := ⟨_, (cutFrom HR.out hd 37 (by omega) (by omega)).1, ⟨(cutFrom HR.out hd 37 (by omega) (by omega)).2⟩⟩
        obtain ⟨nm, HNM⟩ : ∃ nm, Aside0 (nm = (y.drop 5).take 32) := ⟨_, ⟨rfl⟩⟩
        obtain ⟨bd, HBD⟩ : ∃ bd, Aside0 (bd = y.drop 37) := ⟨_, ⟨rfl⟩⟩
        rw [← HNM.out] at HR5 HNL
        rw [← HBD.out] at HR37
        obtain ⟨f0, f1, f2, f3, f4⟩ : IntKind.i64.wrap (rd y 0) = rd y 0 ∧ IntKind.i64.wrap (rd y 1) = rd y 1 ∧ IntKind.i64.wrap (rd y 2) = rd y 2 ∧ IntKind.i64.wrap (rd y 3) = rd y 3 ∧ IntKind.i64.wrap (rd y 4) = rd y 4 := by simp only [IntKind.wrap_i64]; omega
        have e1 : IntKind.i64.wrap (256 * rd y 2) = 256 * rd y 2 := by rw [IntKind.wrap_i64]; omega
        have e2 : IntKind.i64.wrap (65536 * rd y 3) = 65536 * rd y 3 := by rw [IntKind.wrap_i64]; omega
        have e3 : IntKind.i64.wrap (16777216 * rd y 4) = 16777216 * rd y 4 := by rw [IntKind.wrap_i64]; omega
        have e4 : IntKind.i64.wrap (rd y 1 + 256 * rd y 2) = rd y 1 + 256 * rd y 2 := by rw [IntKind.wrap_i64]; omega
        have e5 : IntKind.i64.wrap (rd y 1 + 256 * rd y 2 + 65536 * rd y 3) = rd y 1 + 256 * rd y 2 + 65536 * rd y 3 := by rw [IntKind.wrap_i64]; omega
        have e6 : IntKind.i64.wrap (rd y 1 + 256 * rd y 2 + 65536 * rd y 3 + 16777216 * rd y 4) = rd y 1 + 256 * rd y 2 + 65536 * rd y 3 + 16777216 * rd y 4 := by rw [IntKind.wrap_i64]; omega
        have HSB : Aside0 ((strOfNums bd).size ≤ 9223372036854775807) := ⟨by rw [size_str, HBD.out, List.length_drop]; have := HR.out.2.1; omega⟩
        have HM2 : Aside0 (mayB (rd y 0) (rd y 1 + 256 * rd y 2 + 65536 * rd y 3 + 16777216 * rd y 4) (strOfNums bd).size = false) := ⟨by rw [size_str, HBD.out, List.length_drop, ← HSQ.out]; exact HM.out⟩
        refine seq_start [34] (.take 0 (.take 1 (.take 2 (.take 3 (.take 4 (.take 5 (.take 6 (.take 7 (.take 8 (.take 9 (.take 10 (.take 11 (.take 12 (.take 13 (.take 14 (.take 15 (.take 16 (.take 17 (.take 18 (.take 19 (.take 20 (.take 21 (.take 22 (.take 23 (.take 24 (.take 25 (.take 26 (.take 27 (.take 29 (.take 30 (.take 31 (.fork 28 33 (.take 32 (.run 33 (.run 34 .done))) (.run 28 (.take 32 (.run 34 .done))))))))))))))))))))))))))))))))))) (by kernel_rfl) (by kernel_rfl) (fun _ _ d _ _ h => by cases d <;> exact h) ?_
        refine seq_take (v := ?_) (a' := ?_) rfl rfl (by rfl) (fun w' hw' => ?_) ?_ ?_
        rotate_left 2
        · go_simp
          with_reducible rfl
        · simp only [Act.put, List.setIfInBounds_toArray, List.set_cons_zero, List.set_cons_succ, Go.Proofs.YtbagphegelbgcaaW.PrintLast.i64_w, Go.Proofs.YtbagphegelbgcaaW.PrintLast.i32_w]
          rfl
        refine seq_take (v := ?_) (a' := ?_) rfl rfl (by rfl) (fun w' hw' => ?_) ?_ ?_
        rotate_left 2
        · go_simp
          with_reducible rfl
        · simp only [Act.put, List.setIfInBounds_toArray, List.set_cons_zero, List.set_cons_succ, Go.Proofs.YtbagphegelbgcaaW.PrintLast.i64_w, Go.Proofs.YtbagphegelbgcaaW.PrintLast.i32_w]
          rfl
        refine seq_take (v := ?_) (a' := ?_) rfl rfl (by rfl) (fun w' hw' => ?_) ?_ ?_
        rotate_left 2
        · have hx : w'.cell? ⟨gb, ob, sb⟩ = some (.int .u8 (rd y 0)) := rd_at (Kd.C_below HR.out hw') 0 (by omega); go_simp
          with_reducible rfl
        · simp only [Act.put, List.setIfInBounds_toArray, List.set_cons_zero, List.set_cons_succ, Go.Proofs.YtbagphegelbgcaaW.PrintLast.i64_w, Go.Proofs.YtbagphegelbgcaaW.PrintLast.i32_w]
          rfl
        refine seq_take (v := ?_) (a' := ?_) rfl rfl (by rfl) (fun w' hw' => ?_) ?_ ?_
        rotate_left 2
        · go_simp
          with_reducible rfl
        · simp only [Act.put, List.setIfInBounds_toArray, List.set_cons_zero, List.set_cons_succ, Go.Proofs.YtbagphegelbgcaaW.PrintLast.i64_w, Go.Proofs.YtbagphegelbgcaaW.PrintLast.i32_w]
          rfl
        refine seq_take (v := ?_) (a' := ?_) rfl rfl (by rfl) (fun w' hw' => ?_) ?_ ?_
        rotate_left 2
        · go_simp
          with_reducible rfl
        · simp only [Act.put, List.setIfInBounds_toArray, List.set_cons_zero, List.set_cons_succ, Go.Proofs.YtbagphegelbgcaaW.PrintLast.i64_w, Go.Proofs.YtbagphegelbgcaaW.PrintLast.i32_w]
          rfl
        refine seq_take (v := ?_) (a' := ?_) rfl rfl (by rfl) (fun w' hw' => ?_) ?_ ?_
        rotate_left 2
        · go_simp
          with_reducible rfl
        · simp only [Act.put, List.setIfInBounds_toArray, List.set_cons_zero, List.set_cons_succ, Go.Proofs.YtbagphegelbgcaaW.PrintLast.i64_w, Go.Proofs.YtbagphegelbgcaaW.PrintLast.i32_w]
          rfl
        refine seq_take (v := ?_) (a' := ?_) rfl rfl (by rfl) (fun w' hw' => ?_) ?_ ?_
        rotate_left 2
        · have hx : w'.cell? ⟨gb, ob + 1, none⟩ = some (.int .u8 (rd y 1)) := rd_at (Kd.C_below HR.out hw') 1 (by omega); go_simp
          with_reducible rfl
        · simp only [Act.put, List.setIfInBounds_toArray, List.set_cons_zero, List.set_cons_succ, Go.Proofs.YtbagphegelbgcaaW.PrintLast.i64_w, Go.Proofs.YtbagphegelbgcaaW.PrintLast.i32_w]
          rfl
        refine seq_take (v := ?_) (a' := ?_) rfl rfl (by rfl) (fun w' hw' => ?_) ?_ ?_
        rotate_left 2
        · go_simp
          with_reducible rfl
        · simp only [Act.put, List.setIfInBounds_toArray, List.set_cons_zero, List.set_cons_succ, Go.Proofs.YtbagphegelbgcaaW.PrintLast.i64_w, Go.Proofs.YtbagphegelbgcaaW.PrintLast.i32_w]
          rfl
        refine seq_take (v := ?_) (a' := ?_) rfl rfl (by rfl) (fun w' hw' => ?_) ?_ ?_
        rotate_left 2
        · go_simp
          with_reducible rfl
        · simp only [Act.put, List.setIfInBounds_toArray, List.set_cons_zero, List.set_cons_succ, Go.Proofs.YtbagphegelbgcaaW.PrintLast.i64_w, Go.Proofs.YtbagphegelbgcaaW.PrintLast.i32_w]
          rfl
        refine seq_take (v := ?_) (a' := ?_) rfl rfl (by rfl) (fun w' hw' => ?_) ?_ ?_
        rotate_left 2
        · go_simp
          with_reducible rfl
        · simp only [Act.put, List.setIfInBounds_toArray, List.set_cons_zero, List.set_cons_succ, Go.Proofs.YtbagphegelbgcaaW.PrintLast.i64_w, Go.Proofs.YtbagphegelbgcaaW.PrintLast.i32_w]
          rfl
        refine seq_take (v := ?_) (a' := ?_) rfl rfl (by rfl) (fun w' hw' => ?_) ?_ ?_
        rotate_left 2
        · have hx : w'.cell? ⟨gb, ob + 2, none⟩ = some (.int .u8 (rd y 2)) := rd_at (Kd.C_below HR.out hw') 2 (by omega); go_simp
          with_reducible rfl
        · simp only [Act.put, List.setIfInBounds_toArray, List.set_cons_zero, List.set_cons_succ, Go.Proofs.YtbagphegelbgcaaW.PrintLast.i64_w, Go.Proofs.YtbagphegelbgcaaW.PrintLast.i32_w]
          rfl
        refine seq_take (v := ?_) (a' := ?_) rfl rfl (by rfl) (fun w' hw' => ?_) ?_ ?_
        rotate_left 2
        · go_simp
          with_reducible rfl
        · simp only [Act.put, List.setIfInBounds_toArray, List.set_cons_zero, List.set_cons_succ, Go.Proofs.YtbagphegelbgcaaW.PrintLast.i64_w, Go.Proofs.YtbagphegelbgcaaW.PrintLast.i32_w]
          rfl
        refine seq_take (v := ?_) (a' := ?_) rfl rfl (by rfl) (fun w' hw' => ?_) ?_ ?_
        rotate_left 2
        · go_simp
          with_reducible rfl
        · simp only [Act.put, List.setIfInBounds_toArray, List.set_cons_zero, List.set_cons_succ, Go.Proofs.YtbagphegelbgcaaW.PrintLast.i64_w, Go.Proofs.YtbagphegelbgcaaW.PrintLast.i32_w]
          rfl
        refine seq_take (v := ?_) (a' := ?_) rfl rfl (by rfl) (fun w' hw' => ?_) ?_ ?_
        rotate_left 2
        · go_simp
          with_reducible rfl
        · simp only [Act.put, List.setIfInBounds_toArray, List.set_cons_zero, List.set_cons_succ, Go.Proofs.YtbagphegelbgcaaW.PrintLast.i64_w, Go.Proofs.YtbagphegelbgcaaW.PrintLast.i32_w]
          rfl
        refine seq_take (v := ?_) (a' := ?_) rfl rfl (by rfl) (fun w' hw' => ?_) ?_ ?_
        rotate_left 2
        · go_simp
          with_reducible rfl
        · simp only [Act.put, List.setIfInBounds_toArray, List.set_cons_zero, List.set_cons_succ, Go.Proofs.YtbagphegelbgcaaW.PrintLast.i64_w, Go.Proofs.YtbagphegelbgcaaW.PrintLast.i32_w]
          rfl
        refine seq_take (v := ?_) (a' := ?_) rfl rfl (by rfl) (fun w' hw' => ?_) ?_ ?_
        rotate_left 2
        · go_simp
          with_reducible rfl
        · simp only [Act.put, List.setIfInBounds_toArray, List.set_cons_zero, List.set_cons_succ, Go.Proofs.YtbagphegelbgcaaW.PrintLast.i64_w, Go.Proofs.YtbagphegelbgcaaW.PrintLast.i32_w]
          rfl
        refine seq_take (v := ?_) (a' := ?_) rfl rfl (by rfl) (fun w' hw' => ?_) ?_ ?_
        rotate_left 2
        · have hx : w'.cell? ⟨gb, ob + 3, none⟩ = some (.int .u8 (rd y 3)) := rd_at (Kd.C_below HR.out hw') 3 (by omega); go_simp
          with_reducible rfl
        · simp only [Act.put, List.setIfInBounds_toArray, List.set_cons_zero, List.set_cons_succ, Go.Proofs.YtbagphegelbgcaaW.PrintLast.i64_w, Go.Proofs.YtbagphegelbgcaaW.PrintLast.i32_w]
          rfl
        refine seq_take (v := ?_) (a' := ?_) rfl rfl (by rfl) (fun w' hw' => ?_) ?_ ?_
        rotate_left 2
        · go_simp
          with_reducible rfl
        · simp only [Act.put, List.setIfInBounds_toArray, List.set_cons_zero, List.set_cons_succ, Go.Proofs.YtbagphegelbgcaaW.PrintLast.i64_w, Go.Proofs.YtbagphegelbgcaaW.PrintLast.i32_w]
          rfl
        refine seq_take (v := ?_) (a' := ?_) rfl rfl (by rfl) (fun w' hw' => ?_) ?_ ?_
        rotate_left 2
        · go_simp
          with_reducible rfl
        · simp only [Act.put, List.setIfInBounds_toArray, List.set_cons_zero, List.set_cons_succ, Go.Proofs.YtbagphegelbgcaaW.PrintLast.i64_w, Go.Proofs.YtbagphegelbgcaaW.PrintLast.i32_w]
          rfl
        refine seq_take (v := ?_) (a' := ?_) rfl rfl (by rfl) (fun w' hw' => ?_) ?_ ?_
        rotate_left 2
        · go_simp
          with_reducible rfl
        · simp only [Act.put, List.setIfInBounds_toArray, List.set_cons_zero, List.set_cons_succ, Go.Proofs.YtbagphegelbgcaaW.PrintLast.i64_w, Go.Proofs.YtbagphegelbgcaaW.PrintLast.i32_w]
          rfl
        refine seq_take (v := ?_) (a' := ?_) rfl rfl (by rfl) (fun w' hw' => ?_) ?_ ?_
        rotate_left 2
        · go_simp
          with_reducible rfl
        · simp only [Act.put, List.setIfInBounds_toArray, List.set_cons_zero, List.set_cons_succ, Go.Proofs.YtbagphegelbgcaaW.PrintLast.i64_w, Go.Proofs.YtbagphegelbgcaaW.PrintLast.i32_w]
          rfl
        refine seq_take (v := ?_) (a' := ?_) rfl rfl (by rfl) (fun w' hw' => ?_) ?_ ?_
        rotate_left 2
        · go_simp
          with_reducible rfl
        · simp only [Act.put, List.setIfInBounds_toArray, List.set_cons_zero, List.set_cons_succ, Go.Proofs.YtbagphegelbgcaaW.PrintLast.i64_w, Go.Proofs.YtbagphegelbgcaaW.PrintLast.i32_w]
          rfl
        refine seq_take (v := ?_) (a' := ?_) rfl rfl (by rfl) (fun w' hw' => ?_) ?_ ?_
        rotate_left 2
        · have hx : w'.cell? ⟨gb, ob + 4, none⟩ = some (.int .u8 (rd y 4)) := rd_at (Kd.C_below HR.out hw') 4 (by omega); go_simp
          with_reducible rfl
        · simp only [Act.put, List.setIfInBounds_toArray, List.set_cons_zero, List.set_cons_succ, Go.Proofs.YtbagphegelbgcaaW.PrintLast.i64_w, Go.Proofs.YtbagphegelbgcaaW.PrintLast.i32_w]
          rfl
        refine seq_take (v := ?_) (a' := ?_) rfl rfl (by rfl) (fun w' hw' => ?_) ?_ ?_
        rotate_left 2
        · go_simp
          with_reducible rfl
        · simp only [Act.put, List.setIfInBounds_toArray, List.set_cons_zero, List.set_cons_succ, Go.Proofs.YtbagphegelbgcaaW.PrintLast.i64_w, Go.Proofs.YtbagphegelbgcaaW.PrintLast.i32_w]
          rfl
        refine seq_take (v := ?_) (a' := ?_) rfl rfl (by rfl) (fun w' hw' => ?_) ?_ ?_
        rotate_left 2
        · go_simp
          with_reducible rfl
        · simp only [Act.put, List.setIfInBounds_toArray, List.set_cons_zero, List.set_cons_succ, Go.Proofs.YtbagphegelbgcaaW.PrintLast.i64_w, Go.Proofs.YtbagphegelbgcaaW.PrintLast.i32_w]
          rfl
        refine seq_take (v := ?_) (a' := ?_) rfl rfl (by rfl) (fun w' hw' => ?_) ?_ ?_
        rotate_left 2
        · go_simp
          with_reducible rfl
        · simp only [Act.put, List.setIfInBounds_toArray, List.set_cons_zero, List.set_cons_succ, Go.Proofs.YtbagphegelbgcaaW.PrintLast.i64_w, Go.Proofs.YtbagphegelbgcaaW.PrintLast.i32_w]
          rfl
        refine seq_take (v := ?_) (a' := ?_) rfl rfl (by rfl) (fun w' hw' => ?_) ?_ ?_
        rotate_left 2
        · go_simp
          with_reducible rfl
        · simp only [Act.put, List.setIfInBounds_toArray, List.set_cons_zero, List.set_cons_succ, Go.Proofs.YtbagphegelbgcaaW.PrintLast.i64_w, Go.Proofs.YtbagphegelbgcaaW.PrintLast.i32_w]
          rfl
        refine seq_take (v := ?_) (a' := ?_) rfl rfl (by rfl) (fun w' hw' => ?_) ?_ ?_
        rotate_left 2
        · go_simp
          with_reducible rfl
        · simp only [Act.put, List.setIfInBounds_toArray, List.set_cons_zero, List.set_cons_succ, Go.Proofs.YtbagphegelbgcaaW.PrintLast.i64_w, Go.Proofs.YtbagphegelbgcaaW.PrintLast.i32_w]
          rfl
        refine seq_take (v := ?_) (a' := ?_) rfl rfl (by rfl) (fun w' hw' => ?_) ?_ ?_
        rotate_left 2
        · go_simp
          with_reducible rfl
        · simp only [Act.put, List.setIfInBounds_toArray, List.set_cons_zero, List.set_cons_succ, Go.Proofs.YtbagphegelbgcaaW.PrintLast.i64_w, Go.Proofs.YtbagphegelbgcaaW.PrintLast.i32_w]
          rfl
        refine seq_take (v := ?_) (a' := ?_) rfl rfl (by rfl) (fun w' hw' => ?_) ?_ ?_
        rotate_left 2
        · go_simp
          with_reducible rfl
        · simp only [Act.put, List.setIfInBounds_toArray, List.set_cons_zero, List.set_cons_succ, Go.Proofs.YtbagphegelbgcaaW.PrintLast.i64_w, Go.Proofs.YtbagphegelbgcaaW.PrintLast.i32_w]
          rfl
        refine seq_take (v := _) (a' := ?_) rfl rfl (by rfl) (fun w' hw' => conv_run _ _ _ rfl rfl (conv_str (Kd.C_below HR37.out hw') (d - 37))) ?_ ?_
        rotate_left
        · simp only [Act.put, List.setIfInBounds_toArray, List.set_cons_zero, List.set_cons_succ, Go.Proofs.YtbagphegelbgcaaW.PrintLast.i64_w, Go.Proofs.YtbagphegelbgcaaW.PrintLast.i32_w]
          rfl
        refine seq_fork ?_ ?_
        · refine do_call rfl rfl (by rfl) rfl Try.func33 (by kernel_rfl) rfl #[.slice B5 32 (d - 5)] (by simp only [List.map_toArray, List.map_cons, List.map_nil]; rfl) ?_
          with_reducible refine (of32_calls nm B5 (d - 5) _ (Kd.C_drew HR5.out)).mono ?_
          rintro e w2 ⟨rfl, hC2⟩
          refine ⟨_, ?_, rfl, ?_, fun _ => hC2, ?_⟩
          rotate_left
          · simp only [Act.put, List.setIfInBounds_toArray, List.set_cons_zero, List.set_cons_succ, Go.Proofs.YtbagphegelbgcaaW.PrintLast.i64_w, Go.Proofs.YtbagphegelbgcaaW.PrintLast.i32_w]
            rfl
          have Q2 := Q1.drew.call hC2
          refine seq_take (v := _) (a' := ?_) rfl rfl (by rfl) (fun w' hw' => build_run _ _ rfl (built_m4 (rd y 0) (rd y 1 + 256 * rd y 2 + 65536 * rd y 3 + 16777216 * rd y 4) nm (strOfNums bd) HNL.out)) ?_ ?_
          rotate_left
          · simp only [Act.put, List.setIfInBounds_toArray, List.set_cons_zero, List.set_cons_succ, Go.Proofs.YtbagphegelbgcaaW.PrintLast.i64_w, Go.Proofs.YtbagphegelbgcaaW.PrintLast.i32_w]
            rfl
          refine seq_run ?_
          refine do_val (v := ?_) (a' := ?_) (w1 := ?_) rfl rfl (by rfl) ?_ ?_ ?_
          rotate_left 3
          · go_simp
            constructor <;> rfl
          · simp only [Act.put, List.setIfInBounds_toArray, List.set_cons_zero, List.set_cons_succ, Go.Proofs.YtbagphegelbgcaaW.PrintLast.i64_w, Go.Proofs.YtbagphegelbgcaaW.PrintLast.i32_w]
            rfl
          refine ⟨fun _ => below_alloc (Below.refl _ _) _, ?_⟩
          refine seq_run ?_
          refine do_blk rfl rfl (by rfl) 25 (.tmp 6) (.tmp 53) rfl rfl rfl (blk_new w2 _) (by rw [Mc_len HNL.out]; rfl) (size_m HNL.out) (Mc_one rfl) ?_
          rintro w3 HS
          refine ⟨fun h => absurd (by simp) h, ?_⟩
          refine seq_end ?_
          have Q3 := (Q2.box _ _).set 1 rfl HS
          go_wp2_with (first
            | ((with_reducible refine at_ld (w := w3) 25 (.tmp 6) ?_); have hq := Q3.at 1 rfl; refine load_arm rfl 25 (.tmp 6) rfl rfl (ld_m hq HNL.out) ?_; clear hq; simp only [Act.put, List.setIfInBounds_toArray, List.set_cons_zero, List.set_cons_succ])
            | (go_at_call 12; refine (rmay_calls (rd y 0) (rd y 1 + 256 * rd y 2 + 65536 * rd y 3 + 16777216 * rd y 4) nm (strOfNums bd) _ w3 rfl HNL.out HSB.out).mono ?_; rw [HM2.out]; rintro e w4 ⟨rfl, hC4⟩; have Q4 := Q3.call hC4)
            | ((with_reducible refine at_bd 25 ?_); refine build_arm rfl 25 _ rfl built_mz ?_; simp only [Act.put, List.setIfInBounds_toArray, List.set_cons_zero, List.set_cons_succ])
            | ((with_reducible refine at_st 25 (.tmp 2) (.tmp 58) ?_); have hq := Q4.at 0 rfl; refine store_blk rfl 25 (.tmp 2) (.tmp 58) rfl rfl rfl hq (by rw [Mc_len Z32_len]; rfl) (size_m Z32_len) (Mc_one rfl) ?_; clear hq; rintro w7 HS7))
          have Q7 := Q4.set 0 rfl HS7
          (try simp only [Exit.inBlock, Exit.then])
          refine bodyPost_ret (v := .tuple #[.agg _, _]) (results_cell_tmp rfl _ _ w.heap.size _ _ _ _ rfl HS7.at_ Try.underlying25 rfl ?_) rfl (show RPost xs w _ _ from ⟨0, 0, Z32, [], 2, Z32_len, rfl, ⟨HW.out.symm⟩, Q7.below⟩)
          · rw [size_m Z32_len, List.size_toArray]
        · refine do_val (v := ?_) (a' := ?_) (w1 := ?_) rfl rfl (by rfl) ?_ ?_ ?_
          rotate_left 3
          · go_simp
            constructor <;> rfl
          · simp only [Act.put, List.setIfInBounds_toArray, List.set_cons_zero, List.set_cons_succ, Go.Proofs.YtbagphegelbgcaaW.PrintLast.i64_w, Go.Proofs.YtbagphegelbgcaaW.PrintLast.i32_w]
            rfl
          refine ⟨fun _ => below_alloc (Below.refl _ _) _, ?_⟩
          refine seq_run ?_
          refine do_call rfl rfl (by rfl) rfl Try.func33 (by kernel_rfl) rfl #[.slice B5 32 (d - 5)] (by simp only [List.map_toArray, List.map_cons, List.map_nil]; rfl) ?_
          with_reducible refine (of32_calls nm B5 (d - 5) _ (Kd.C_drew (Kd.C_alloc HR5.out _))).mono ?_
          rintro e w2 ⟨rfl, hC2⟩
          refine ⟨_, ?_, rfl, ?_, fun _ => hC2, ?_⟩
          rotate_left
          · simp only [Act.put, List.setIfInBounds_toArray, List.set_cons_zero, List.set_cons_succ, Go.Proofs.YtbagphegelbgcaaW.PrintLast.i64_w, Go.Proofs.YtbagphegelbgcaaW.PrintLast.i32_w]
            rfl
          have Q2 := (Q1.box _ 25).drew.call hC2
          refine seq_take (v := _) (a' := ?_) rfl rfl (by rfl) (fun w' hw' => build_run _ _ rfl (built_m4 (rd y 0) (rd y 1 + 256 * rd y 2 + 65536 * rd y 3 + 16777216 * rd y 4) nm (strOfNums bd) HNL.out)) ?_ ?_
          rotate_left
          · simp only [Act.put, List.setIfInBounds_toArray, List.set_cons_zero, List.set_cons_succ, Go.Proofs.YtbagphegelbgcaaW.PrintLast.i64_w, Go.Proofs.YtbagphegelbgcaaW.PrintLast.i32_w]
            rfl
          refine seq_run ?_
          refine do_blk rfl rfl (by rfl) 25 (.tmp 6) (.tmp 53) rfl rfl rfl (Q2.at 1 rfl) (by rw [Mc_len HNL.out]; rfl) (size_m HNL.out) (Mc_one rfl) ?_
          rintro w3 HS
          refine ⟨fun h => absurd (by simp) h, ?_⟩
          refine seq_end ?_
          have Q3 := Q2.set 1 rfl HS
          go_wp2_with (first
            | ((with_reducible refine at_ld (w := w3) 25 (.tmp 6) ?_); have hq := Q3.at 1 rfl; refine load_arm rfl 25 (.tmp 6) rfl rfl (ld_m hq HNL.out) ?_; clear hq; simp only [Act.put, List.setIfInBounds_toArray, List.set_cons_zero, List.set_cons_succ])
            | (go_at_call 12; refine (rmay_calls (rd y 0) (rd y 1 + 256 * rd y 2 + 65536 * rd y 3 + 16777216 * rd y 4) nm (strOfNums bd) _ w3 rfl HNL.out HSB.out).mono ?_; rw [HM2.out]; rintro e w4 ⟨rfl, hC4⟩; have Q4 := Q3.call hC4)
            | ((with_reducible refine at_bd 25 ?_); refine build_arm rfl 25 _ rfl built_mz ?_; simp only [Act.put, List.setIfInBounds_toArray, List.set_cons_zero, List.set_cons_succ])
            | ((with_reducible refine at_st 25 (.tmp 2) (.tmp 58) ?_); have hq := Q4.at 0 rfl; refine store_blk rfl 25 (.tmp 2) (.tmp 58) rfl rfl rfl hq (by rw [Mc_len Z32_len]; rfl) (size_m Z32_len) (Mc_one rfl) ?_; clear hq; rintro w7 HS7))
          have Q7 := Q4.set 0 rfl HS7
          (try simp only [Exit.inBlock, Exit.then])
          refine bodyPost_ret (v := .tuple #[.agg _, _]) (results_cell_tmp rfl _ _ w.heap.size _ _ _ _ rfl HS7.at_ Try.underlying25 rfl ?_) rfl (show RPost xs w _ _ from ⟨0, 0, Z32, [], 2, Z32_len, rfl, ⟨HW.out.symm⟩, Q7.below⟩)
          · rw [size_m Z32_len, List.size_toArray]
      · have HW := Aside0.mk (WR_ok HT.out her hl hm)
        have HM := Aside0.mk hm
        have HSQ : Aside0 (wseq y = rd y 1 + 256 * rd y 2 + 65536 * rd y 3 + 16777216 * rd y 4) := ⟨rfl⟩
        clear hm hl
        subst er
        go_enter Try.func24, Try.ntmps24
        go_wp2_with (go_at_call 32; refine (rtake_calls A xs.length c xs _ (Kd.C_below HX.out (Q0.out _).below) hc HXB.out hn).mono ?_; rw [HT.out]; rintro e w1 ⟨B, m, d, rfl, hR, hd, hB1⟩; have Q1 := (Q0.out _).call hB1; obtain rfl : y.length = m := hR.1; obtain ⟨ad, hBad⟩ : ∃ ad, B = some ad := (by obtain ⟨ad, e, _⟩ := Kd.at_int hR 0 (by omega) (by omega); exact ⟨ad, e⟩); subst hBad; obtain ⟨gb, ob, sb⟩ := ad; have HRw := Aside0.mk (Kd.C_below hR hB1); have HR := Aside0.mk (Kd.C_drew HRw.out); clear hR hB1)
        clear h37
        obtain ⟨h37, hd37⟩ : 37 ≤ y.length ∧ 37 ≤ d := by have := HR.out.1; omega
        obtain ⟨i0, i1, i2, i3, i4⟩ : 0 < y.length ∧ (1 : Int) < (y.length : Int) ∧ (2 : Int) < (y.length : Int) ∧ (3 : Int) < (y.length : Int) ∧ (4 : Int) < (y.length : Int) := by omega
        obtain ⟨B5, hs1, HR5⟩ : ∃ B, (∀ W : World, (Instr.slice 27 (.slice (some ⟨gb, ob, sb⟩) y.length d) (some (.int .i64 5)) (some (.int .i64 37)) none).run Try.prog W = .ok (.slice B 32 (d - 5)) W) ∧ Aside0 (RdB w1 B 32 ((y.drop 5).take 32)) := ⟨_, (cutMid HR.out hd 5 37 (by omega) (by omega)).1, ⟨(cutMid HRw.out hd 5 37 (by omega) (by omega)).2⟩⟩
        obtain ⟨B37, hs2, HR37⟩ : ∃ B, (∀ W : World, (Instr.slice 27 (.slice (some ⟨gb, ob, sb⟩) y.length d) (some (.int .i64 37)) none none).run Try.prog W = .ok (.slice B (y.length - 37) (d - 37)) W) ∧ Aside0 (RdB w1.drew B (y.length - 37) (y.drop 37)) := ⟨_, (cutFrom HR.out hd 37 (by omega) (by omega)).1, ⟨(cutFrom HR.out hd 37 (by omega) (by omega)).2⟩⟩
        obtain ⟨nm, HNM⟩ : ∃ nm, Aside0 (nm = (y.drop 5).take 32) := ⟨_, ⟨rfl⟩⟩
        obtain ⟨bd, HBD⟩ : ∃ bd, Aside0 (bd = y.drop 37) := ⟨_, ⟨rfl⟩⟩
        rw [← HNM.out] at HR5 HNL
        rw [← HBD.out] at HR37
        obtain ⟨f0, f1, f2, f3, f4⟩ : IntKind.i64.wrap (rd y 0) = rd y 0 ∧ IntKind.i64.wrap (rd y 1) = rd y 1 ∧ IntKind.i64.wrap (rd y 2) = rd y 2 ∧ IntKind.i64.wrap (rd y 3) = rd y 3 ∧ IntKind.i64.wrap (rd y 4) = rd y 4 := by simp only [IntKind.wrap_i64]; omega
        have e1 : IntKind.i64.wrap (256 * rd y 2) = 256 * rd y 2 := by rw [IntKind.wrap_i64]; omega
        have e2 : IntKind.i64.wrap (65536 * rd y 3) = 65536 * rd y 3 := by rw [IntKind.wrap_i64]; omega
        have e3 : IntKind.i64.wrap (16777216 * rd y 4) = 16777216 * rd y 4 := by rw [IntKind.wrap_i64]; omega
        have e4 : IntKind.i64.wrap (rd y 1 + 256 * rd y 2) = rd y 1 + 256 * rd y 2 := by rw [IntKind.wrap_i64]; omega
        have e5 : IntKind.i64.wrap (rd y 1 + 256 * rd y 2 + 65536 * rd y 3) = rd y 1 + 256 * rd y 2 + 65536 * rd y 3 := by rw [IntKind.wrap_i64]; omega
        have e6 : IntKind.i64.wrap (rd y 1 + 256 * rd y 2 + 65536 * rd y 3 + 16777216 * rd y 4) = rd y 1 + 256 * rd y 2 + 65536 * rd y 3 + 16777216 * rd y 4 := by rw [IntKind.wrap_i64]; omega
        have HSB : Aside0 ((strOfNums bd).size ≤ 9223372036854775807) := ⟨by rw [size_str, HBD.out, List.length_drop]; have := HR.out.2.1; omega⟩
        have HM2 : Aside0 (mayB (rd y 0) (rd y 1 + 256 * rd y 2 + 65536 * rd y 3 + 16777216 * rd y 4) (strOfNums bd).size = true) := ⟨by rw [size_str, HBD.out, List.length_drop, ← HSQ.out]; exact HM.out⟩
        refine seq_start [34] (.take 0 (.take 1 (.take 2 (.take 3 (.take 4 (.take 5 (.take 6 (.take 7 (.take 8 (.take 9 (.take 10 (.take 11 (.take 12 (.take 13 (.take 14 (.take 15 (.take 16 (.take 17 (.take 18 (.take 19 (.take 20 (.take 21 (.take 22 (.take 23 (.take 24 (.take 25 (.take 26 (.take 27 (.take 29 (.take 30 (.take 31 (.fork 28 33 (.take 32 (.run 33 (.run 34 .done))) (.run 28 (.take 32 (.run 34 .done))))))))))))))))))))))))))))))))))) (by kernel_rfl) (by kernel_rfl) (fun _ _ d _ _ h => by cases d <;> exact h) ?_
        refine seq_take (v := ?_) (a' := ?_) rfl rfl (by rfl) (fun w' hw' => ?_) ?_ ?_
        rotate_left 2
        · go_simp
          with_reducible rfl
        · simp only [Act.put, List.setIfInBounds_toArray, List.set_cons_zero, List.set_cons_succ, Go.Proofs.YtbagphegelbgcaaW.PrintLast.i64_w, Go.Proofs.YtbagphegelbgcaaW.PrintLast.i32_w]
          rfl
        refine seq_take (v := ?_) (a' := ?_) rfl rfl (by rfl) (fun w' hw' => ?_) ?_ ?_
        rotate_left 2
        · go_simp
          with_reducible rfl
        · simp only [Act.put, List.setIfInBounds_toArray, List.set_cons_zero, List.set_cons_succ, Go.Proofs.YtbagphegelbgcaaW.PrintLast.i64_w, Go.Proofs.YtbagphegelbgcaaW.PrintLast.i32_w]
          rfl
        refine seq_take (v := ?_) (a' := ?_) rfl rfl (by rfl) (fun w' hw' => ?_) ?_ ?_
        rotate_left 2
        · have hx : w'.cell? ⟨gb, ob, sb⟩ = some (.int .u8 (rd y 0)) := rd_at (Kd.C_below HR.out hw') 0 (by omega); go_simp
          with_reducible rfl
        · simp only [Act.put, List.setIfInBounds_toArray, List.set_cons_zero, List.set_cons_succ, Go.Proofs.YtbagphegelbgcaaW.PrintLast.i64_w, Go.Proofs.YtbagphegelbgcaaW.PrintLast.i32_w]
          rfl
        refine seq_take (v := ?_) (a' := ?_) rfl rfl (by rfl) (fun w' hw' => ?_) ?_ ?_
        rotate_left 2
        · go_simp
          with_reducible rfl
        · simp only [Act.put, List.setIfInBounds_toArray, List.set_cons_zero, List.set_cons_succ, Go.Proofs.YtbagphegelbgcaaW.PrintLast.i64_w, Go.Proofs.YtbagphegelbgcaaW.PrintLast.i32_w]
          rfl
        refine seq_take (v := ?_) (a' := ?_) rfl rfl (by rfl) (fun w' hw' => ?_) ?_ ?_
        rotate_left 2
        · go_simp
          with_reducible rfl
        · simp only [Act.put, List.setIfInBounds_toArray, List.set_cons_zero, List.set_cons_succ, Go.Proofs.YtbagphegelbgcaaW.PrintLast.i64_w, Go.Proofs.YtbagphegelbgcaaW.PrintLast.i32_w]
          rfl
        refine seq_take (v := ?_) (a' := ?_) rfl rfl (by rfl) (fun w' hw' => ?_) ?_ ?_
        rotate_left 2
        · go_simp
          with_reducible rfl
        · simp only [Act.put, List.setIfInBounds_toArray, List.set_cons_zero, List.set_cons_succ, Go.Proofs.YtbagphegelbgcaaW.PrintLast.i64_w, Go.Proofs.YtbagphegelbgcaaW.PrintLast.i32_w]
          rfl
        refine seq_take (v := ?_) (a' := ?_) rfl rfl (by rfl) (fun w' hw' => ?_) ?_ ?_
        rotate_left 2
        · have hx : w'.cell? ⟨gb, ob + 1, none⟩ = some (.int .u8 (rd y 1)) := rd_at (Kd.C_below HR.out hw') 1 (by omega); go_simp
          with_reducible rfl
        · simp only [Act.put, List.setIfInBounds_toArray, List.set_cons_zero, List.set_cons_succ, Go.Proofs.YtbagphegelbgcaaW.PrintLast.i64_w, Go.Proofs.YtbagphegelbgcaaW.PrintLast.i32_w]
          rfl
        refine seq_take (v := ?_) (a' := ?_) rfl rfl (by rfl) (fun w' hw' => ?_) ?_ ?_
        rotate_left 2
        · go_simp
          with_reducible rfl
        · simp only [Act.put, List.setIfInBounds_toArray, List.set_cons_zero, List.set_cons_succ, Go.Proofs.YtbagphegelbgcaaW.PrintLast.i64_w, Go.Proofs.YtbagphegelbgcaaW.PrintLast.i32_w]
          rfl
        refine seq_take (v := ?_) (a' := ?_) rfl rfl (by rfl) (fun w' hw' => ?_) ?_ ?_
        rotate_left 2
        · go_simp
          with_reducible rfl
        · simp only [Act.put, List.setIfInBounds_toArray, List.set_cons_zero, List.set_cons_succ, Go.Proofs.YtbagphegelbgcaaW.PrintLast.i64_w, Go.Proofs.YtbagphegelbgcaaW.PrintLast.i32_w]
          rfl
        refine seq_take (v := ?_) (a' := ?_) rfl rfl (by rfl) (fun w' hw' => ?_) ?_ ?_
        rotate_left 2
        · go_simp
          with_reducible rfl
        · simp only [Act.put, List.setIfInBounds_toArray, List.set_cons_zero, List.set_cons_succ, Go.Proofs.YtbagphegelbgcaaW.PrintLast.i64_w, Go.Proofs.YtbagphegelbgcaaW.PrintLast.i32_w]
          rfl
        refine seq_take (v := ?_) (a' := ?_) rfl rfl (by rfl) (fun w' hw' => ?_) ?_ ?_
        rotate_left 2
        · have hx : w'.cell? ⟨gb, ob + 2, none⟩ = some (.int .u8 (rd y 2)) := rd_at (Kd.C_below HR.out hw') 2 (by omega); go_simp
          with_reducible rfl
        · simp only [Act.put, List.setIfInBounds_toArray, List.set_cons_zero, List.set_cons_succ, Go.Proofs.YtbagphegelbgcaaW.PrintLast.i64_w, Go.Proofs.YtbagphegelbgcaaW.PrintLast.i32_w]
          rfl
        refine seq_take (v := ?_) (a' := ?_) rfl rfl (by rfl) (fun w' hw' => ?_) ?_ ?_
        rotate_left 2
        · go_simp
          with_reducible rfl
        · simp only [Act.put, List.setIfInBounds_toArray, List.set_cons_zero, List.set_cons_succ, Go.Proofs.YtbagphegelbgcaaW.PrintLast.i64_w, Go.Proofs.YtbagphegelbgcaaW.PrintLast.i32_w]
          rfl
        refine seq_take (v := ?_) (a' := ?_) rfl rfl (by rfl) (fun w' hw' => ?_) ?_ ?_
        rotate_left 2
        · go_simp
          with_reducible rfl
        · simp only [Act.put, List.setIfInBounds_toArray, List.set_cons_zero, List.set_cons_succ, Go.Proofs.YtbagphegelbgcaaW.PrintLast.i64_w, Go.Proofs.YtbagphegelbgcaaW.PrintLast.i32_w]
          rfl
        refine seq_take (v := ?_) (a' := ?_) rfl rfl (by rfl) (fun w' hw' => ?_) ?_ ?_
        rotate_left 2
        · go_simp
          with_reducible rfl
        · simp only [Act.put, List.setIfInBounds_toArray, List.set_cons_zero, List.set_cons_succ, Go.Proofs.YtbagphegelbgcaaW.PrintLast.i64_w, Go.Proofs.YtbagphegelbgcaaW.PrintLast.i32_w]
          rfl
        refine seq_take (v := ?_) (a' := ?_) rfl rfl (by rfl) (fun w' hw' => ?_) ?_ ?_
        rotate_left 2
        · go_simp
          with_reducible rfl
        · simp only [Act.put, List.setIfInBounds_toArray, List.set_cons_zero, List.set_cons_succ, Go.Proofs.YtbagphegelbgcaaW.PrintLast.i64_w, Go.Proofs.YtbagphegelbgcaaW.PrintLast.i32_w]
          rfl
        refine seq_take (v := ?_) (a' := ?_) rfl rfl (by rfl) (fun w' hw' => ?_) ?_ ?_
        rotate_left 2
        · go_simp
          with_reducible rfl
        · simp only [Act.put, List.setIfInBounds_toArray, List.set_cons_zero, List.set_cons_succ, Go.Proofs.YtbagphegelbgcaaW.PrintLast.i64_w, Go.Proofs.YtbagphegelbgcaaW.PrintLast.i32_w]
          rfl
        refine seq_take (v := ?_) (a' := ?_) rfl rfl (by rfl) (fun w' hw' => ?_) ?_ ?_
        rotate_left 2
        · have hx : w'.cell? ⟨gb, ob + 3, none⟩ = some (.int .u8 (rd y 3)) := rd_at (Kd.C_below HR.out hw') 3 (by omega); go_simp
          with_reducible rfl
        · simp only [Act.put, List.setIfInBounds_toArray, List.set_cons_zero, List.set_cons_succ, Go.Proofs.YtbagphegelbgcaaW.PrintLast.i64_w, Go.Proofs.YtbagphegelbgcaaW.PrintLast.i32_w]
          rfl
        refine seq_take (v := ?_) (a' := ?_) rfl rfl (by rfl) (fun w' hw' => ?_) ?_ ?_
        rotate_left 2
        · go_simp
          with_reducible rfl
        · simp only [Act.put, List.setIfInBounds_toArray, List.set_cons_zero, List.set_cons_succ, Go.Proofs.YtbagphegelbgcaaW.PrintLast.i64_w, Go.Proofs.YtbagphegelbgcaaW.PrintLast.i32_w]
          rfl
        refine seq_take (v := ?_) (a' := ?_) rfl rfl (by rfl) (fun w' hw' => ?_) ?_ ?_
        rotate_left 2
        · go_simp
          with_reducible rfl
        · simp only [Act.put, List.setIfInBounds_toArray, List.set_cons_zero, List.set_cons_succ, Go.Proofs.YtbagphegelbgcaaW.PrintLast.i64_w, Go.Proofs.YtbagphegelbgcaaW.PrintLast.i32_w]
          rfl
        refine seq_take (v := ?_) (a' := ?_) rfl rfl (by rfl) (fun w' hw' => ?_) ?_ ?_
        rotate_left 2
        · go_simp
          with_reducible rfl
        · simp only [Act.put, List.setIfInBounds_toArray, List.set_cons_zero, List.set_cons_succ, Go.Proofs.YtbagphegelbgcaaW.PrintLast.i64_w, Go.Proofs.YtbagphegelbgcaaW.PrintLast.i32_w]
          rfl
        refine seq_take (v := ?_) (a' := ?_) rfl rfl (by rfl) (fun w' hw' => ?_) ?_ ?_
        rotate_left 2
        · go_simp
          with_reducible rfl
        · simp only [Act.put, List.setIfInBounds_toArray, List.set_cons_zero, List.set_cons_succ, Go.Proofs.YtbagphegelbgcaaW.PrintLast.i64_w, Go.Proofs.YtbagphegelbgcaaW.PrintLast.i32_w]
          rfl
        refine seq_take (v := ?_) (a' := ?_) rfl rfl (by rfl) (fun w' hw' => ?_) ?_ ?_
        rotate_left 2
        · go_simp
          with_reducible rfl
        · simp only [Act.put, List.setIfInBounds_toArray, List.set_cons_zero, List.set_cons_succ, Go.Proofs.YtbagphegelbgcaaW.PrintLast.i64_w, Go.Proofs.YtbagphegelbgcaaW.PrintLast.i32_w]
          rfl
        refine seq_take (v := ?_) (a' := ?_) rfl rfl (by rfl) (fun w' hw' => ?_) ?_ ?_
        rotate_left 2
        · have hx : w'.cell? ⟨gb, ob + 4, none⟩ = some (.int .u8 (rd y 4)) := rd_at (Kd.C_below HR.out hw') 4 (by omega); go_simp
          with_reducible rfl
        · simp only [Act.put, List.setIfInBounds_toArray, List.set_cons_zero, List.set_cons_succ, Go.Proofs.YtbagphegelbgcaaW.PrintLast.i64_w, Go.Proofs.YtbagphegelbgcaaW.PrintLast.i32_w]
          rfl
        refine seq_take (v := ?_) (a' := ?_) rfl rfl (by rfl) (fun w' hw' => ?_) ?_ ?_
        rotate_left 2
        · go_simp
          with_reducible rfl
        · simp only [Act.put, List.setIfInBounds_toArray, List.set_cons_zero, List.set_cons_succ, Go.Proofs.YtbagphegelbgcaaW.PrintLast.i64_w, Go.Proofs.YtbagphegelbgcaaW.PrintLast.i32_w]
          rfl
        refine seq_take (v := ?_) (a' := ?_) rfl rfl (by rfl) (fun w' hw' => ?_) ?_ ?_
        rotate_left 2
        · go_simp
          with_reducible rfl
        · simp only [Act.put, List.setIfInBounds_toArray, List.set_cons_zero, List.set_cons_succ, Go.Proofs.YtbagphegelbgcaaW.PrintLast.i64_w, Go.Proofs.YtbagphegelbgcaaW.PrintLast.i32_w]
          rfl
        refine seq_take (v := ?_) (a' := ?_) rfl rfl (by rfl) (fun w' hw' => ?_) ?_ ?_
        rotate_left 2
        · go_simp
          with_reducible rfl
        · simp only [Act.put, List.setIfInBounds_toArray, List.set_cons_zero, List.set_cons_succ, Go.Proofs.YtbagphegelbgcaaW.PrintLast.i64_w, Go.Proofs.YtbagphegelbgcaaW.PrintLast.i32_w]
          rfl
        refine seq_take (v := ?_) (a' := ?_) rfl rfl (by rfl) (fun w' hw' => ?_) ?_ ?_
        rotate_left 2
        · go_simp
          with_reducible rfl
        · simp only [Act.put, List.setIfInBounds_toArray, List.set_cons_zero, List.set_cons_succ, Go.Proofs.YtbagphegelbgcaaW.PrintLast.i64_w, Go.Proofs.YtbagphegelbgcaaW.PrintLast.i32_w]
          rfl
        refine seq_take (v := ?_) (a' := ?_) rfl rfl (by rfl) (fun w' hw' => ?_) ?_ ?_
        rotate_left 2
        · go_simp
          with_reducible rfl
        · simp only [Act.put, List.setIfInBounds_toArray, List.set_cons_zero, List.set_cons_succ, Go.Proofs.YtbagphegelbgcaaW.PrintLast.i64_w, Go.Proofs.YtbagphegelbgcaaW.PrintLast.i32_w]
          rfl
        refine seq_take (v := ?_) (a' := ?_) rfl rfl (by rfl) (fun w' hw' => ?_) ?_ ?_
        rotate_left 2
        · go_simp
          with_reducible rfl
        · simp only [Act.put, List.setIfInBounds_toArray, List.set_cons_zero, List.set_cons_succ, Go.Proofs.YtbagphegelbgcaaW.PrintLast.i64_w, Go.Proofs.YtbagphegelbgcaaW.PrintLast.i32_w]
          rfl
        refine seq_take (v := ?_) (a' := ?_) rfl rfl (by rfl) (fun w' hw' => ?_) ?_ ?_
        rotate_left 2
        · go_simp
          with_reducible rfl
        · simp only [Act.put, List.setIfInBounds_toArray, List.set_cons_zero, List.set_cons_succ, Go.Proofs.YtbagphegelbgcaaW.PrintLast.i64_w, Go.Proofs.YtbagphegelbgcaaW.PrintLast.i32_w]
          rfl
        refine seq_take (v := _) (a' := ?_) rfl rfl (by rfl) (fun w' hw' => conv_run _ _ _ rfl rfl (conv_str (Kd.C_below HR37.out hw') (d - 37))) ?_ ?_
        rotate_left
        · simp only [Act.put, List.setIfInBounds_toArray, List.set_cons_zero, List.set_cons_succ, Go.Proofs.YtbagphegelbgcaaW.PrintLast.i64_w, Go.Proofs.YtbagphegelbgcaaW.PrintLast.i32_w]
          rfl
        refine seq_fork ?_ ?_
        · refine do_call rfl rfl (by rfl) rfl Try.func33 (by kernel_rfl) rfl #[.slice B5 32 (d - 5)] (by simp only [List.map_toArray, List.map_cons, List.map_nil]; rfl) ?_
          with_reducible refine (of32_calls nm B5 (d - 5) _ (Kd.C_drew HR5.out)).mono ?_
          rintro e w2 ⟨rfl, hC2⟩
          refine ⟨_, ?_, rfl, ?_, fun _ => hC2, ?_⟩
          rotate_left
          · simp only [Act.put, List.setIfInBounds_toArray, List.set_cons_zero, List.set_cons_succ, Go.Proofs.YtbagphegelbgcaaW.PrintLast.i64_w, Go.Proofs.YtbagphegelbgcaaW.PrintLast.i32_w]
            rfl
          have Q2 := Q1.drew.call hC2
          refine seq_take (v := _) (a' := ?_) rfl rfl (by rfl) (fun w' hw' => build_run _ _ rfl (built_m4 (rd y 0) (rd y 1 + 256 * rd y 2 + 65536 * rd y 3 + 16777216 * rd y 4) nm (strOfNums bd) HNL.out)) ?_ ?_
          rotate_left
          · simp only [Act.put, List.setIfInBounds_toArray, List.set_cons_zero, List.set_cons_succ, Go.Proofs.YtbagphegelbgcaaW.PrintLast.i64_w, Go.Proofs.YtbagphegelbgcaaW.PrintLast.i32_w]
            rfl
          refine seq_run ?_
          refine do_val (v := ?_) (a' := ?_) (w1 := ?_) rfl rfl (by rfl) ?_ ?_ ?_
          rotate_left 3
          · go_simp
            constructor <;> rfl
          · simp only [Act.put, List.setIfInBounds_toArray, List.set_cons_zero, List.set_cons_succ, Go.Proofs.YtbagphegelbgcaaW.PrintLast.i64_w, Go.Proofs.YtbagphegelbgcaaW.PrintLast.i32_w]
            rfl
          refine ⟨fun _ => below_alloc (Below.refl _ _) _, ?_⟩
          refine seq_run ?_
          refine do_blk rfl rfl (by rfl) 25 (.tmp 6) (.tmp 53) rfl rfl rfl (blk_new w2 _) (by rw [Mc_len HNL.out]; rfl) (size_m HNL.out) (Mc_one rfl) ?_
          rintro w3 HS
          refine ⟨fun h => absurd (by simp) h, ?_⟩
          refine seq_end ?_
          have Q3 := (Q2.box _ _).set 1 rfl HS
          go_wp2_with (first
            | ((with_reducible refine at_ld (w := w3) 25 (.tmp 6) ?_); have hq := Q3.at 1 rfl; refine load_arm rfl 25 (.tmp 6) rfl rfl (ld_m hq HNL.out) ?_; clear hq; simp only [Act.put, List.setIfInBounds_toArray, List.set_cons_zero, List.set_cons_succ])
            | (go_at_call 12; refine (rmay_calls (rd y 0) (rd y 1 + 256 * rd y 2 + 65536 * rd y 3 + 16777216 * rd y 4) nm (strOfNums bd) _ w3 rfl HNL.out HSB.out).mono ?_; rw [HM2.out]; rintro e w4 ⟨rfl, hC4⟩; have Q4 := Q3.call hC4)
            | ((with_reducible refine at_ld (w := w4) 25 (.tmp 6) ?_); have hq := Q4.at 1 rfl; refine load_arm rfl 25 (.tmp 6) rfl rfl (ld_m hq HNL.out) ?_; clear hq; simp only [Act.put, List.setIfInBounds_toArray, List.set_cons_zero, List.set_cons_succ])
            | ((with_reducible refine at_st 25 (.tmp 2) (.tmp 59) ?_); have hq := Q4.at 0 rfl; refine store_blk rfl 25 (.tmp 2) (.tmp 59) rfl rfl rfl hq (by rw [Mc_len HNL.out]; rfl) (size_m HNL.out) (Mc_one rfl) ?_; clear hq; rintro w7 HS7))
          have Q7 := Q4.set 0 rfl HS7
          (try simp only [Exit.inBlock, Exit.then])
          refine bodyPost_ret (v := .tuple #[.agg _, _]) (results_cell_tmp rfl _ _ w.heap.size _ _ _ _ rfl HS7.at_ Try.underlying25 rfl ?_) rfl (show RPost xs w _ _ from ⟨rd y 0, rd y 1 + 256 * rd y 2 + 65536 * rd y 3 + 16777216 * rd y 4, nm, bd, 0, HNL.out, rfl, ⟨by rw [HW.out, HSQ.out, HNM.out, HBD.out]⟩, Q7.below⟩)
          · rw [size_m HNL.out, List.size_toArray]
        · refine do_val (v := ?_) (a' := ?_) (w1 := ?_) rfl rfl (by rfl) ?_ ?_ ?_
          rotate_left 3
          · go_simp
            constructor <;> rfl
          · simp only [Act.put, List.setIfInBounds_toArray, List.set_cons_zero, List.set_cons_succ, Go.Proofs.YtbagphegelbgcaaW.PrintLast.i64_w, Go.Proofs.YtbagphegelbgcaaW.PrintLast.i32_w]
            rfl
          refine ⟨fun _ => below_alloc (Below.refl _ _) _, ?_⟩
          refine seq_run ?_
          refine do_call rfl rfl (by rfl) rfl Try.func33 (by kernel_rfl) rfl #[.slice B5 32 (d - 5)] (by simp only [List.map_toArray, List.map_cons, List.map_nil]; rfl) ?_
          with_reducible refine (of32_calls nm B5 (d - 5) _ (Kd.C_drew (Kd.C_alloc HR5.out _))).mono ?_
          rintro e w2 ⟨rfl, hC2⟩
          refine ⟨_, ?_, rfl, ?_, fun _ => hC2, ?_⟩
          rotate_left
          · simp only [Act.put, List.setIfInBounds_toArray, List.set_cons_zero, List.set_cons_succ, Go.Proofs.YtbagphegelbgcaaW.PrintLast.i64_w, Go.Proofs.YtbagphegelbgcaaW.PrintLast.i32_w]
            rfl
          have Q2 := (Q1.box _ 25).drew.call hC2
          refine seq_take (v := _) (a' := ?_) rfl rfl (by rfl) (fun w' hw' => build_run _ _ rfl (built_m4 (rd y 0) (rd y 1 + 256 * rd y 2 + 65536 * rd y 3 + 16777216 * rd y 4) nm (strOfNums bd) HNL.out)) ?_ ?_
          rotate_left
          · simp only [Act.put, List.setIfInBounds_toArray, List.set_cons_zero, List.set_cons_succ, Go.Proofs.YtbagphegelbgcaaW.PrintLast.i64_w, Go.Proofs.YtbagphegelbgcaaW.PrintLast.i32_w]
            rfl
          refine seq_run ?_
          refine do_blk rfl rfl (by rfl) 25 (.tmp 6) (.tmp 53) rfl rfl rfl (Q2.at 1 rfl) (by rw [Mc_len HNL.out]; rfl) (size_m HNL.out) (Mc_one rfl) ?_
          rintro w3 HS
          refine ⟨fun h => absurd (by simp) h, ?_⟩
          refine seq_end ?_
          have Q3 := Q2.set 1 rfl HS
          go_wp2_with (first
            | ((with_reducible refine at_ld (w := w3) 25 (.tmp 6) ?_); have hq := Q3.at 1 rfl; refine load_arm rfl 25 (.tmp 6) rfl rfl (ld_m hq HNL.out) ?_; clear hq; simp only [Act.put, List.setIfInBounds_toArray, List.set_cons_zero, List.set_cons_succ])
            | (go_at_call 12; refine (rmay_calls (rd y 0) (rd y 1 + 256 * rd y 2 + 65536 * rd y 3 + 16777216 * rd y 4) nm (strOfNums bd) _ w3 rfl HNL.out HSB.out).mono ?_; rw [HM2.out]; rintro e w4 ⟨rfl, hC4⟩; have Q4 := Q3.call hC4)
            | ((with_reducible refine at_ld (w := w4) 25 (.tmp 6) ?_); have hq := Q4.at 1 rfl; refine load_arm rfl 25 (.tmp 6) rfl rfl (ld_m hq HNL.out) ?_; clear hq; simp only [Act.put, List.setIfInBounds_toArray, List.set_cons_zero, List.set_cons_succ])
            | ((with_reducible refine at_st 25 (.tmp 2) (.tmp 59) ?_); have hq := Q4.at 0 rfl; refine store_blk rfl 25 (.tmp 2) (.tmp 59) rfl rfl rfl hq (by rw [Mc_len HNL.out]; rfl) (size_m HNL.out) (Mc_one rfl) ?_; clear hq; rintro w7 HS7))
          have Q7 := Q4.set 0 rfl HS7
          (try simp only [Exit.inBlock, Exit.then])
          refine bodyPost_ret (v := .tuple #[.agg _, _]) (results_cell_tmp rfl _ _ w.heap.size _ _ _ _ rfl HS7.at_ Try.underlying25 rfl ?_) rfl (show RPost xs w _ _ from ⟨rd y 0, rd y 1 + 256 * rd y 2 + 65536 * rd y 3 + 16777216 * rd y 4, nm, bd, 0, HNL.out, rfl, ⟨by rw [HW.out, HSQ.out, HNM.out, HBD.out]⟩, Q7.below⟩)
          · rw [size_m HNL.out, List.size_toArray]
  · have HW := Aside0.mk (WR_err HT.out her)
    have her' : (er != 0) = true := by simpa using her
    go_enter Try.func24, Try.ntmps24
    go_wp2_with (first
      | (go_at_call 32; refine (rtake_calls A xs.length c xs _ (Kd.C_below HX.out (Q0.out _).below) hc HXB.out hn).mono ?_; rw [HT.out]; rintro e w1 ⟨B, m, d, rfl, hR, hd, hB1⟩; have Q1 := (Q0.out _).call hB1; clear hR)
      | ((with_reducible refine at_bd 25 ?_); refine build_arm rfl 25 _ rfl built_mz ?_; simp only [Act.put, List.setIfInBounds_toArray, List.set_cons_zero, List.set_cons_succ])
      | ((with_reducible refine at_st 25 (.tmp 2) (.tmp 15) ?_); have hq := Q1.at 0 rfl; refine store_blk rfl 25 (.tmp 2) (.tmp 15) rfl rfl rfl hq (by rw [Mc_len Z32_len]; rfl) (size_m Z32_len) (Mc_one rfl) ?_; clear hq; rintro w7 HS))
    have Q7 := Q1.set 0 rfl HS
    (try simp only [Exit.inBlock, Exit.then])
    refine bodyPost_ret (v := .tuple #[.agg _, _]) (results_cell_tmp rfl _ _ w.heap.size _ _ _ _ rfl HS.at_ Try.underlying25 rfl ?_) rfl (show RPost xs w _ _ from ⟨0, 0, Z32, [], er, Z32_len, rfl, ⟨HW.out.symm⟩, Q7.below⟩)
    · rw [size_m Z32_len, List.size_toArray]
end Go.Proofs.Ytbagphegelbgcaa
