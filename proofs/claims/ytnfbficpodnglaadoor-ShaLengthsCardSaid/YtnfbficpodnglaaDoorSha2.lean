/- Contract: sha.words. Conditions: its own. -/
import Derived.Test.YtnfbficpodnglaaDoorSha1
import Derived.Test.YtnfbficpodnglaaDoorShaRef2
namespace Go.Proofs.YtnfbficpodnglaaDoor
open Go.RowKit Go.Proofs.YtnfbficpodnglaaDoorW.PrintWords Go.Proofs.YtnfbficpodnglaaDoorW.PrintMore
set_option linter.unusedVariables false
set_option linter.unusedSimpArgs false
def Us (xs : List Int) : List Value := xs.map (Value.int .u32)
theorem Us_len (xs : List Int) : (Us xs).length = xs.length := by simp [Us]
theorem Us_one (xs : List Int) : ∀ v ∈ Us xs, v.oneCell' = true := by
  intro v hv
  obtain ⟨x, _, rfl⟩ := List.mem_map.1 hv
  rfl
theorem Us_at {xs : List Int} {k : Nat} (h : k < xs.length) : (Us xs).toArray[k]? = some (.int .u32 (rd xs k)) := by
  simp [Us, rd, List.getD_eq_getElem?_getD, List.getElem?_eq_getElem h]
theorem Us_set (xs : List Int) (k : Nat) (x : Int) : (Us xs).toArray.setIfInBounds k (.int .u32 x) = (Us (xs.set k x)).toArray := by
  simp [Us, List.map_set]
theorem us_cell {w : World} {g T : Nat} {xs : List Int} (hg : w.heap[g]? = some (.cells (Us xs).toArray T (0, 0))) (k : Nat) (hk : k < xs.length) : w.cell? ⟨g, k, none⟩ = some (.int .u32 (rd xs k)) := by
  rw [blk_cell hg, Us_at hk]
theorem us_set {w : World} {g T : Nat} {xs : List Int} (hg : w.heap[g]? = some (.cells (Us xs).toArray T (0, 0))) (k : Nat) (x : Int) : SetBlk w (w.setCell ⟨g, k, none⟩ (.int .u32 x)) g (.cells (Us (xs.set k x)).toArray T (0, 0)) := by
  have := setBlk_cell hg (.int .u32 x) (i := k)
  rwa [Us_set] at this
/-- The words so far, noughts behind them. -/
def fillS (b : List Int) (j : Nat) : List Int := sched b j ++ List.replicate (64 - j) 0
theorem fillS_len (b : List Int) (j : Nat) (h : j ≤ 64) : (fillS b j).length = 64 := by rw [fillS, List.length_append, sched_len, List.length_replicate]; omega
theorem fillS_rd (b : List Int) (j i : Nat) (h : i < j) : rd (fillS b j) i = rd (sched b j) i := by
  have hl := sched_len b j
  simp [rd, List.getD_eq_getElem?_getD, fillS, List.getElem?_append_left (show i < (sched b j).length by omega)]
theorem fillS_zero (b : List Int) (j : Nat) (h : j < 64) : rd (fillS b j) j = 0 := by
  have hl := sched_len b j
  simp [rd, List.getD_eq_getElem?_getD, fillS, List.getElem?_append_right (show (sched b j).length ≤ j by omega), hl, List.getElem?_replicate]
  split <;> rfl
theorem fillS_set (b : List Int) (j : Nat) (h : j < 64) : (fillS b j).set j (wstep b (sched b j) j) = fillS b (j + 1) := by
  have hl := sched_len b j
  unfold fillS
  rw [List.set_append_right _ _ (by omega), hl, Nat.sub_self, show 64 - j = (64 - (j + 1)) + 1 by omega, List.replicate_succ, List.set_cons_zero, sched]
  simp
/-- A word's first m bytes. -/
def wp (b : List Int) (i : Int) : Nat → Int
  | 0 => 0
  | m + 1 => wp b i m * 256 + rd b (i + m)
theorem wp4 (b : List Int) (i : Int) : wp b i 4 = word b i := by
  simp only [wp, word]
  simp
  omega
theorem wp_range {b : List Int} (hb : Bytes b) (i : Int) : ∀ m, m < 4 → 0 ≤ wp b i m ∧ wp b i m < 16777216 := by
  intro m hm
  have b0 := hb.at_ i
  have b1 := hb.at_ (i + 1)
  have b2 := hb.at_ (i + 2)
  have e1 : wp b i 1 = rd b i := by simp [wp]
  have e2 : wp b i 2 = rd b i * 256 + rd b (i + 1) := by simp [wp]
  have e3 : wp b i 3 = (rd b i * 256 + rd b (i + 1)) * 256 + rd b (i + 2) := by simp [wp]
  obtain rfl | rfl | rfl | rfl : m = 0 ∨ m = 1 ∨ m = 2 ∨ m = 3 := by omega
  · simp [wp]
  · rw [e1]; omega
  · rw [e2]; omega
  · rw [e3]; omega
theorem u32_join8 (s x : Int) (h0 : 0 ≤ s) (h1 : s < 16777216) (h2 : 0 ≤ x) (h3 : x < 256) : Go.bits .or .u32 (s * 256) x = s * 256 + x := by
  obtain ⟨a, rfl⟩ := Int.eq_ofNat_of_zero_le h0
  obtain ⟨b, rfl⟩ := Int.eq_ofNat_of_zero_le h2
  have := u32_or_nat (a * 256) b (by omega) (by omega)
  rw [show ((a : Int) * 256) = ((a * 256 : Nat) : Int) by omega, this, nat_join 8 (a * 256) b (by omega) (by omega)]
  omega
theorem cut4 {w : World} {g o n c : Nat} {xs : List Int} (h : RdB w (some ⟨g, o, none⟩) n xs) (hc : n ≤ c) (i : Nat) (hi : i + 4 ≤ n) :
    ∃ B, (∀ W : World, (Instr.slice 22 (.slice (some ⟨g, o, none⟩) n c) (some (.int .i64 i)) (some (.int .i64 ((i : Int) + 4))) none).run Tryd.prog W = .ok (.slice (some B) 4 (c - i)) W) ∧ RdB w (some B) 4 ((xs.drop i).take 4) := by
  obtain ⟨i0, hinf, _, hsz, _⟩ := info_parts infoB
  refine ⟨(Addr.add ⟨g, o, none⟩ i), ?_, ?_⟩
  · intro W
    have hel : Tryd.prog.elem 22 = 5 := by simp [Program.elem, Tryd.underlying22]
    have hu : Tryd.prog.underlying 22 = some (.slice (Tryd.prog.elem 22)) := by rw [hel]; exact Tryd.underlying22
    rw [run_slice_lh W 22 (some ⟨g, o, none⟩) n c hu .i64 .i64 i (i + 4) (by omega) (by omega) (by omega), hel]
    have hne : ¬ c = i := by omega
    have e2 : ((i : Int) + 4).toNat = i + 4 := by omega
    simp [sizeOf, typeInfo, hinf, hsz, sliced, Result.andThen, hne, e2]
  · have h1 := (Kd.reads_of_C (d := (0 : Int)) h).drop_ i (by omega) hc
    rw [if_neg (by omega)] at h1
    exact Kd.C_of_reads (h1.take_ 4 (by omega))
theorem rd_cut (xs : List Int) (i m : Nat) (hm : m < 4) : rd ((xs.drop i).take 4) m = rd xs ((i : Int) + m) := by
  have e : ((i : Int) + m).toNat = i + m := by omega
  simp only [rd, e, Int.toNat_natCast, List.getD_eq_getElem?_getD, List.getElem?_take, if_pos hm, List.getElem?_drop]
theorem set_rd (l : List Int) (k : Nat) (h : k < l.length) : l.set k (rd l k) = l := by
  have e : rd l k = l[k] := by simp [rd, List.getD_eq_getElem?_getD, List.getElem?_eq_getElem h]
  rw [e, List.set_getElem_self]
theorem rd_set (l : List Int) (k : Nat) (x : Int) (h : k < l.length) : rd (l.set k x) k = x := by
  simp [rd, List.getD_eq_getElem?_getD, List.getElem?_set, h]
set_option maxHeartbeats 3200000 in
set_option maxRecDepth 20000 in
theorem words_calls (g o c : Nat) (b : List Int) (w : World) (hb : RdB w (some ⟨g, o, none⟩) 64 b) (hc : 64 ≤ c) (hbb : Bytes b) :
    Calls Tryd.prog 29 #[.slice (some ⟨g, o, none⟩) 64 c] w fun e w' => e = .returned (.agg (Us (sched b 64)).toArray) ∧ Below w.heap.size w w' := by
  have HB := Aside0.mk hb
  have HBB := Aside0.mk hbb
  clear hb hbb
  have Q0 : Aside0 (Bag w ((w.alloc (.cells (Us (List.replicate 64 0)).toArray 56)).alloc (.cells (Us (fillS b 0)).toArray 56)) [(w.heap.size, .cells (Us (List.replicate 64 0)).toArray 56 (0, 0)), (w.heap.size + 1, .cells (Us (fillS b 0)).toArray 56 (0, 0))]) := ⟨by
    have h := ((Bag.nil w).box (Us (List.replicate 64 0)).toArray 56).box (Us (fillS b 0)).toArray 56
    rwa [show (w.alloc (.cells (Us (List.replicate 64 0)).toArray 56)).heap.size = w.heap.size + 1 by simp] at h⟩
  go_enter Tryd.func29, Tryd.ntmps29
  go_wp2
  go_loopw [9] (fun i wr => ∃ j : Nat, j ≤ 64 ∧ i = .int .i64 j ∧ Bag w wr [(w.heap.size, .cells (Us (List.replicate 64 0)).toArray 56 (0, 0)), (w.heap.size + 1, .cells (Us (fillS b j)).toArray 56 (0, 0))]) (fun i _ => 64 - (intOf i).toNat)
  case atStart => exact ⟨0, by omega, rfl, Q0.out⟩
  case round =>
    clear Q0
    obtain ⟨j, hj, rfl, hQ⟩ := hrel
    have HQ := Aside0.mk hQ
    clear hQ
    by_cases hlt : j < 64
    · have HFL := Aside0.mk (fillS_len b j (by omega))
      by_cases h16 : j < 16
      · have HZ := Aside0.mk (fillS_zero b j hlt)
        have HFS := Aside0.mk (fillS_set b j hlt)
        have HWS : Aside0 (wstep b (sched b j) j = word b (4 * (j : Int))) := ⟨by rw [wstep, if_pos h16]⟩
        rw [HWS.out] at HFS
        obtain ⟨B, hs1, hR1⟩ := cut4 HB.out hc (4 * j) (by omega)
        have HR1 := Aside0.mk hR1
        have e1 : IntKind.i64.wrap (4 * (j : Int)) = 4 * (j : Int) := by rw [IntKind.wrap_i64]; omega
        have e2 : IntKind.i64.wrap (4 * (j : Int) + 4) = 4 * (j : Int) + 4 := by rw [IntKind.wrap_i64]; omega
        have hs2 : ∀ W : World, (Instr.slice 22 (.slice (some ⟨g, o, none⟩) 64 c) (some (.int .i64 (4 * (j : Int)))) (some (.int .i64 (4 * (j : Int) + 4))) none).run Tryd.prog W = .ok (.slice (some B) 4 (c - 4 * j)) W := hs1
        clear hs1 hR1
        have HQ0 : Aside0 (Bag w wr [(w.heap.size, .cells (Us (List.replicate 64 0)).toArray 56 (0, 0)), (w.heap.size + 1, .cells (Us ((fillS b j).set j (wp b (4 * (j : Int)) 0))).toArray 56 (0, 0))]) := ⟨by
          have e := set_rd (fillS b j) j (by rw [HFL.out]; omega)
          rw [HZ.out] at e
          rw [show wp b (4 * (j : Int)) 0 = 0 from rfl, e]
          exact HQ.out⟩
        go_wp2
        go_loopw [22] (fun i wr2 => ∃ m : Nat, m ≤ 4 ∧ i = .int .i64 m ∧ Bag w wr2 [(w.heap.size, .cells (Us (List.replicate 64 0)).toArray 56 (0, 0)), (w.heap.size + 1, .cells (Us ((fillS b j).set j (wp b (4 * (j : Int)) m))).toArray 56 (0, 0))]) (fun i _ => 4 - (intOf i).toNat)
        case atStart => exact ⟨0, by omega, rfl, HQ0.out⟩
        case round =>
          clear HQ0 HQ
          obtain ⟨m, hm, rfl, hQ⟩ := hrel
          have HQ := Aside0.mk hQ
          clear hQ
          by_cases hm4 : m < 4
          · obtain ⟨r0, r1⟩ := wp_range HBB.out (4 * (j : Int)) m hm4
            have bc := HBB.out.at_ (4 * (j : Int) + m)
            have hx : wr.cell? (B.add m) = some (.int .u8 (rd b (4 * (j : Int) + m))) := by
              have := rdB_at (Kd.C_below HR1.out HQ.out.below) m hm4
              rw [rd_cut b (4 * j) m hm4] at this
              exact this
            have HL : Aside0 (((fillS b j).set j (wp b (4 * (j : Int)) m)).length = 64) := ⟨by rw [List.length_set, HFL.out]⟩
            have hcell := us_cell (HQ.out.at 1 rfl) j (by rw [HL.out]; omega)
            rw [rd_set _ _ _ (by rw [HFL.out]; omega)] at hcell
            have hfz : wr.frozen? ⟨w.heap.size + 1, j, none⟩ = false := blk_frozen (HQ.out.at 1 rfl) _
            have HST : Aside0 (SetBlk wr (wr.setCell ⟨w.heap.size + 1, j, none⟩ (.int .u32 (wp b (4 * (j : Int)) (m + 1)))) (w.heap.size + 1) (.cells (Us ((fillS b j).set j (wp b (4 * (j : Int)) (m + 1)))).toArray 56 (0, 0))) := ⟨by
              have := us_set (HQ.out.at 1 rfl) j (wp b (4 * (j : Int)) (m + 1))
              rwa [List.set_set] at this⟩
            have HW : Aside0 (wp b (4 * (j : Int)) (m + 1) = wp b (4 * (j : Int)) m * 256 + rd b (4 * (j : Int) + m)) := ⟨rfl⟩
            have hjn := u32_join8 (wp b (4 * (j : Int)) m) (rd b (4 * (j : Int) + m)) r0 r1 bc.1 bc.2
            rw [HW.out] at HST
            generalize wp b (4 * (j : Int)) m = x at *
            generalize rd b (4 * (j : Int) + m) = cm at *
            have f1 : (x * 256) % 4294967296 = x * 256 := by omega
            have f2 : IntKind.u32.wrap cm = cm := by rw [IntKind.wrap_u32]; omega
            have HQS := Aside0.mk (HQ.out.set 1 rfl HST.out)
            clear HST
            go_wp2
            go_roundw
            case rel => exact ⟨m + 1, by omega, by go_num, by rw [HW.out]; exact HQS.out⟩
            case measure => simp [intOf]; omega
          · obtain rfl : m = 4 := by omega
            rw [wp4, HFS.out] at HQ
            go_wp2
            go_roundw
            case rel => exact ⟨j + 1, by omega, by go_num, HQ.out⟩
            case measure => simp [intOf]; omega
      · have HWS : Aside0 (wstep b (sched b j) j = wnext (sched b j) j) := ⟨by rw [wstep, if_neg h16]⟩
        have HFS := Aside0.mk (fillS_set b j hlt)
        rw [HWS.out] at HFS
        have HSW := Aside0.mk (sched_ws HBB.out j)
        have HXI : Aside0 (∀ i : Nat, i < j → ∀ W, Below wr.heap.size wr W → W.cell? ⟨w.heap.size + 1, i, none⟩ = some (.int .u32 (rd (sched b j) i))) := ⟨fun i hi W hW => by
          rw [us_cell (blk_below hW (HQ.out.at 1 rfl)) i (by rw [HFL.out]; omega), fillS_rd b j i hi]⟩
        have hfz : wr.frozen? ⟨w.heap.size + 1, j, none⟩ = false := blk_frozen (HQ.out.at 1 rfl) _
        have hcell := us_cell (HQ.out.at 1 rfl) j (by rw [HFL.out]; omega)
        have HST : Aside0 (SetBlk wr (wr.setCell ⟨w.heap.size + 1, j, none⟩ (.int .u32 (wnext (sched b j) j))) (w.heap.size + 1) (.cells (Us (fillS b (j + 1))).toArray 56 (0, 0))) := ⟨by
          have := us_set (HQ.out.at 1 rfl) j (wnext (sched b j) j)
          rwa [HFS.out] at this⟩
        have HQS := Aside0.mk (HQ.out.set 1 rfl HST.out)
        clear HST
        have HWN : Aside0 (wnext (sched b j) j = ad (ad (ad (rd (sched b j) ((j : Int) - 16)) (sg0 (rd (sched b j) ((j : Int) - 15)))) (rd (sched b j) ((j : Int) - 7))) (sg1 (rd (sched b j) ((j : Int) - 2)))) := ⟨rfl⟩
        rw [HWN.out] at HQS
        have w15 := HSW.out.at_ ((j : Int) - 15)
        have w2' := HSW.out.at_ ((j : Int) - 2)
        have HX15 : Aside0 (∀ W, Below wr.heap.size wr W → W.cell? ⟨w.heap.size + 1, j - 15, none⟩ = some (.int .u32 (rd (sched b j) ((j : Int) - 15)))) := ⟨fun W hW => by rw [HXI.out (j - 15) (by omega) W hW, show ((j - 15 : Nat) : Int) = (j : Int) - 15 by omega]⟩
        have HX2 : Aside0 (∀ W, Below wr.heap.size wr W → W.cell? ⟨w.heap.size + 1, j - 2, none⟩ = some (.int .u32 (rd (sched b j) ((j : Int) - 2)))) := ⟨fun W hW => by rw [HXI.out (j - 2) (by omega) W hW, show ((j - 2 : Nat) : Int) = (j : Int) - 2 by omega]⟩
        have HX16 : Aside0 (∀ W, Below wr.heap.size wr W → W.cell? ⟨w.heap.size + 1, j - 16, none⟩ = some (.int .u32 (rd (sched b j) ((j : Int) - 16)))) := ⟨fun W hW => by rw [HXI.out (j - 16) (by omega) W hW, show ((j - 16 : Nat) : Int) = (j : Int) - 16 by omega]⟩
        have HX7 : Aside0 (∀ W, Below wr.heap.size wr W → W.cell? ⟨w.heap.size + 1, j - 7, none⟩ = some (.int .u32 (rd (sched b j) ((j : Int) - 7)))) := ⟨fun W hW => by rw [HXI.out (j - 7) (by omega) W hW, show ((j - 7 : Nat) : Int) = (j : Int) - 7 by omega]⟩
        clear HWN HXI HSW HWS HFS
        generalize sched b j = ss at *
        generalize rd ss ((j : Int) - 15) = x15 at *
        generalize rd ss ((j : Int) - 2) = x2 at *
        generalize rd ss ((j : Int) - 16) = x16 at *
        generalize rd ss ((j : Int) - 7) = x7 at *
        generalize rd (fillS b j) j = old at *
        obtain ⟨t15, t2, t16, t7⟩ : ((j : Int) - 15).toNat = j - 15 ∧ ((j : Int) - 2).toNat = j - 2 ∧ ((j : Int) - 16).toNat = j - 16 ∧ ((j : Int) - 7).toNat = j - 7 := by omega
        obtain ⟨q15, q2, q16, q7⟩ : (15 : Int) ≤ (j : Int) ∧ (2 : Int) ≤ (j : Int) ∧ (16 : Int) ≤ (j : Int) ∧ (7 : Int) ≤ (j : Int) := by omega
        obtain ⟨u15, u2, u16, u7⟩ : (j : Int) - 15 < 64 ∧ (j : Int) - 2 < 64 ∧ (j : Int) - 16 < 64 ∧ (j : Int) - 7 < 64 := by omega
        obtain ⟨z15, z2, z16, z7⟩ : IntKind.i64.wrap ((j : Int) - 15) = (j : Int) - 15 ∧ IntKind.i64.wrap ((j : Int) - 2) = (j : Int) - 2 ∧ IntKind.i64.wrap ((j : Int) - 16) = (j : Int) - 16 ∧ IntKind.i64.wrap ((j : Int) - 7) = (j : Int) - 7 := by simp only [IntKind.wrap_i64]; omega
        have hnj : ¬ (j : Int) < 16 := by omega
        have hjI : (j : Int) < 64 := by omega
        have D1 : Aside0 (Below wr.heap.size wr wr.drew) := ⟨Below.drew (Below.refl _ _)⟩
        have D2 : Aside0 (Below wr.heap.size wr wr.drew.drew) := ⟨Below.drew D1.out⟩
        go_wp2
        refine seq_start [] (.take 0 (.take 1 (.take 2 (.take 3 (.take 4 (.take 5 (.take 6 (.take 7 (.take 8 (.take 9 .done)))))))))) (by kernel_rfl) (by kernel_rfl) (fun _ _ d _ _ h => by cases d <;> exact h) ?_
        refine seq_take (v := ?_) (a' := ?_) rfl rfl (by rfl) (fun w' hw' => ?_) ?_ ?_
        rotate_left 2
        · go_simp
          with_reducible rfl
        · simp only [Act.put, List.setIfInBounds_toArray, List.set_cons_zero, List.set_cons_succ, Go.Proofs.YtnfbficpodnglaaDoorW.PrintLast.i64_w, Go.Proofs.YtnfbficpodnglaaDoorW.PrintLast.i32_w]
          rfl
        refine seq_take (v := ?_) (a' := ?_) rfl rfl (by rfl) (fun w' hw' => ?_) ?_ ?_
        rotate_left 2
        · go_simp
          with_reducible rfl
        · simp only [Act.put, List.setIfInBounds_toArray, List.set_cons_zero, List.set_cons_succ, Go.Proofs.YtnfbficpodnglaaDoorW.PrintLast.i64_w, Go.Proofs.YtnfbficpodnglaaDoorW.PrintLast.i32_w]
          rfl
        refine seq_take (v := ?_) (a' := ?_) rfl rfl (by rfl) (fun w' hw' => ?_) ?_ ?_
        rotate_left 2
        · go_simp
          with_reducible rfl
        · simp only [Act.put, List.setIfInBounds_toArray, List.set_cons_zero, List.set_cons_succ, Go.Proofs.YtnfbficpodnglaaDoorW.PrintLast.i64_w, Go.Proofs.YtnfbficpodnglaaDoorW.PrintLast.i32_w]
          rfl
        refine seq_take (v := ?_) (a' := ?_) rfl rfl (by rfl) (fun w' hw' => ?_) ?_ ?_
        rotate_left 2
        · have hx := HX15.out w' (D1.out.trans hw'); go_simp
          with_reducible rfl
        · simp only [Act.put, List.setIfInBounds_toArray, List.set_cons_zero, List.set_cons_succ, Go.Proofs.YtnfbficpodnglaaDoorW.PrintLast.i64_w, Go.Proofs.YtnfbficpodnglaaDoorW.PrintLast.i32_w]
          rfl
        refine seq_take (v := ?_) (a' := ?_) rfl rfl (by rfl) (fun w' hw' => ?_) ?_ ?_
        rotate_left 2
        · go_simp
          with_reducible rfl
        · simp only [Act.put, List.setIfInBounds_toArray, List.set_cons_zero, List.set_cons_succ, Go.Proofs.YtnfbficpodnglaaDoorW.PrintLast.i64_w, Go.Proofs.YtnfbficpodnglaaDoorW.PrintLast.i32_w]
          rfl
        refine seq_take (v := ?_) (a' := ?_) rfl rfl (by rfl) (fun w' hw' => ?_) ?_ ?_
        rotate_left 2
        · go_simp
          with_reducible rfl
        · simp only [Act.put, List.setIfInBounds_toArray, List.set_cons_zero, List.set_cons_succ, Go.Proofs.YtnfbficpodnglaaDoorW.PrintLast.i64_w, Go.Proofs.YtnfbficpodnglaaDoorW.PrintLast.i32_w]
          rfl
        refine seq_take (v := ?_) (a' := ?_) rfl rfl (by rfl) (fun w' hw' => ?_) ?_ ?_
        rotate_left 2
        · go_simp
          with_reducible rfl
        · simp only [Act.put, List.setIfInBounds_toArray, List.set_cons_zero, List.set_cons_succ, Go.Proofs.YtnfbficpodnglaaDoorW.PrintLast.i64_w, Go.Proofs.YtnfbficpodnglaaDoorW.PrintLast.i32_w]
          rfl
        refine seq_take (v := ?_) (a' := ?_) rfl rfl (by rfl) (fun w' hw' => ?_) ?_ ?_
        rotate_left 2
        · have hx := HX2.out w' (D1.out.trans hw'); go_simp
          with_reducible rfl
        · simp only [Act.put, List.setIfInBounds_toArray, List.set_cons_zero, List.set_cons_succ, Go.Proofs.YtnfbficpodnglaaDoorW.PrintLast.i64_w, Go.Proofs.YtnfbficpodnglaaDoorW.PrintLast.i32_w]
          rfl
        refine seq_take (v := ?_) (a' := ?_) rfl rfl (by rfl) (fun w' hw' => ?_) ?_ ?_
        rotate_left 2
        · go_simp
          with_reducible rfl
        · simp only [Act.put, List.setIfInBounds_toArray, List.set_cons_zero, List.set_cons_succ, Go.Proofs.YtnfbficpodnglaaDoorW.PrintLast.i64_w, Go.Proofs.YtnfbficpodnglaaDoorW.PrintLast.i32_w]
          rfl
        refine seq_take (v := ?_) (a' := ?_) rfl rfl (by rfl) (fun w' hw' => ?_) ?_ ?_
        rotate_left 2
        · go_simp
          with_reducible rfl
        · simp only [Act.put, List.setIfInBounds_toArray, List.set_cons_zero, List.set_cons_succ, Go.Proofs.YtnfbficpodnglaaDoorW.PrintLast.i64_w, Go.Proofs.YtnfbficpodnglaaDoorW.PrintLast.i32_w]
          rfl
        refine seq_end ?_
        go_wp2
        refine seq_start [29] (.take 0 (.take 1 (.take 2 (.take 3 (.take 4 (.take 5 (.take 6 (.take 7 (.take 8 (.take 9 (.take 10 (.take 11 (.take 12 (.take 13 (.take 14 (.take 15 (.take 16 (.take 17 (.take 18 (.take 19 (.take 20 (.take 21 (.take 22 (.take 23 (.take 24 (.take 25 (.take 26 (.take 27 (.take 28 (.run 29 .done)))))))))))))))))))))))))))))) (by kernel_rfl) (by kernel_rfl) (fun _ _ d _ _ h => by cases d <;> exact h) ?_
        refine seq_take (v := ?_) (a' := ?_) rfl rfl (by rfl) (fun w' hw' => ?_) ?_ ?_
        rotate_left 2
        · go_simp
          with_reducible rfl
        · simp only [Act.put, List.setIfInBounds_toArray, List.set_cons_zero, List.set_cons_succ, Go.Proofs.YtnfbficpodnglaaDoorW.PrintLast.i64_w, Go.Proofs.YtnfbficpodnglaaDoorW.PrintLast.i32_w]
          rfl
        refine seq_take (v := ?_) (a' := ?_) rfl rfl (by rfl) (fun w' hw' => ?_) ?_ ?_
        rotate_left 2
        · go_simp
          with_reducible rfl
        · simp only [Act.put, List.setIfInBounds_toArray, List.set_cons_zero, List.set_cons_succ, Go.Proofs.YtnfbficpodnglaaDoorW.PrintLast.i64_w, Go.Proofs.YtnfbficpodnglaaDoorW.PrintLast.i32_w]
          rfl
        refine seq_take (v := ?_) (a' := ?_) rfl rfl (by rfl) (fun w' hw' => ?_) ?_ ?_
        rotate_left 2
        · go_simp
          with_reducible rfl
        · simp only [Act.put, List.setIfInBounds_toArray, List.set_cons_zero, List.set_cons_succ, Go.Proofs.YtnfbficpodnglaaDoorW.PrintLast.i64_w, Go.Proofs.YtnfbficpodnglaaDoorW.PrintLast.i32_w]
          rfl
        refine seq_take (v := ?_) (a' := ?_) rfl rfl (by rfl) (fun w' hw' => ?_) ?_ ?_
        rotate_left 2
        · go_simp
          with_reducible rfl
        · simp only [Act.put, List.setIfInBounds_toArray, List.set_cons_zero, List.set_cons_succ, Go.Proofs.YtnfbficpodnglaaDoorW.PrintLast.i64_w, Go.Proofs.YtnfbficpodnglaaDoorW.PrintLast.i32_w]
          rfl
        refine seq_take (v := ?_) (a' := ?_) rfl rfl (by rfl) (fun w' hw' => ?_) ?_ ?_
        rotate_left 2
        · have hx := HX16.out w' (D2.out.trans hw'); go_simp
          with_reducible rfl
        · simp only [Act.put, List.setIfInBounds_toArray, List.set_cons_zero, List.set_cons_succ, Go.Proofs.YtnfbficpodnglaaDoorW.PrintLast.i64_w, Go.Proofs.YtnfbficpodnglaaDoorW.PrintLast.i32_w]
          rfl
        refine seq_take (v := ?_) (a' := ?_) rfl rfl (by rfl) (fun w' hw' => ?_) ?_ ?_
        rotate_left 2
        · go_simp
          with_reducible rfl
        · simp only [Act.put, List.setIfInBounds_toArray, List.set_cons_zero, List.set_cons_succ, Go.Proofs.YtnfbficpodnglaaDoorW.PrintLast.i64_w, Go.Proofs.YtnfbficpodnglaaDoorW.PrintLast.i32_w]
          rfl
        refine seq_quiet (v := ?_) (a' := ?_) rfl rfl (by rfl) rfl Tryd.func31 (by kernel_rfl) rfl #[.int .u32 x15, .int .i64 (-7)] (by simp only [List.map_toArray, List.map_cons, List.map_nil]; rfl) (fun w' hw' => ?_) ?_ ?_
        rotate_left 2
        · with_reducible exact rotl_7 x15 w' w15.1 w15.2
        · simp only [Act.put, List.setIfInBounds_toArray, List.set_cons_zero, List.set_cons_succ, Go.Proofs.YtnfbficpodnglaaDoorW.PrintLast.i64_w, Go.Proofs.YtnfbficpodnglaaDoorW.PrintLast.i32_w]
          rfl
        refine seq_take (v := ?_) (a' := ?_) rfl rfl (by rfl) (fun w' hw' => ?_) ?_ ?_
        rotate_left 2
        · go_simp
          with_reducible rfl
        · simp only [Act.put, List.setIfInBounds_toArray, List.set_cons_zero, List.set_cons_succ, Go.Proofs.YtnfbficpodnglaaDoorW.PrintLast.i64_w, Go.Proofs.YtnfbficpodnglaaDoorW.PrintLast.i32_w]
          rfl
        refine seq_quiet (v := ?_) (a' := ?_) rfl rfl (by rfl) rfl Tryd.func31 (by kernel_rfl) rfl #[.int .u32 x15, .int .i64 (-18)] (by simp only [List.map_toArray, List.map_cons, List.map_nil]; rfl) (fun w' hw' => ?_) ?_ ?_
        rotate_left 2
        · with_reducible exact rotl_18 x15 w' w15.1 w15.2
        · simp only [Act.put, List.setIfInBounds_toArray, List.set_cons_zero, List.set_cons_succ, Go.Proofs.YtnfbficpodnglaaDoorW.PrintLast.i64_w, Go.Proofs.YtnfbficpodnglaaDoorW.PrintLast.i32_w]
          rfl
        refine seq_take (v := ?_) (a' := ?_) rfl rfl (by rfl) (fun w' hw' => ?_) ?_ ?_
        rotate_left 2
        · go_simp
          with_reducible rfl
        · simp only [Act.put, List.setIfInBounds_toArray, List.set_cons_zero, List.set_cons_succ, Go.Proofs.YtnfbficpodnglaaDoorW.PrintLast.i64_w, Go.Proofs.YtnfbficpodnglaaDoorW.PrintLast.i32_w]
          rfl
        refine seq_take (v := ?_) (a' := ?_) rfl rfl (by rfl) (fun w' hw' => ?_) ?_ ?_
        rotate_left 2
        · go_simp
          with_reducible rfl
        · simp only [Act.put, List.setIfInBounds_toArray, List.set_cons_zero, List.set_cons_succ, Go.Proofs.YtnfbficpodnglaaDoorW.PrintLast.i64_w, Go.Proofs.YtnfbficpodnglaaDoorW.PrintLast.i32_w]
          rfl
        refine seq_take (v := ?_) (a' := ?_) rfl rfl (by rfl) (fun w' hw' => ?_) ?_ ?_
        rotate_left 2
        · go_simp
          with_reducible rfl
        · simp only [Act.put, List.setIfInBounds_toArray, List.set_cons_zero, List.set_cons_succ, Go.Proofs.YtnfbficpodnglaaDoorW.PrintLast.i64_w, Go.Proofs.YtnfbficpodnglaaDoorW.PrintLast.i32_w]
          rfl
        refine seq_take (v := ?_) (a' := ?_) rfl rfl (by rfl) (fun w' hw' => ?_) ?_ ?_
        rotate_left 2
        · go_simp
          with_reducible rfl
        · simp only [Act.put, List.setIfInBounds_toArray, List.set_cons_zero, List.set_cons_succ, Go.Proofs.YtnfbficpodnglaaDoorW.PrintLast.i64_w, Go.Proofs.YtnfbficpodnglaaDoorW.PrintLast.i32_w]
          rfl
        refine seq_take (v := ?_) (a' := ?_) rfl rfl (by rfl) (fun w' hw' => ?_) ?_ ?_
        rotate_left 2
        · go_simp
          with_reducible rfl
        · simp only [Act.put, List.setIfInBounds_toArray, List.set_cons_zero, List.set_cons_succ, Go.Proofs.YtnfbficpodnglaaDoorW.PrintLast.i64_w, Go.Proofs.YtnfbficpodnglaaDoorW.PrintLast.i32_w]
          rfl
        refine seq_take (v := ?_) (a' := ?_) rfl rfl (by rfl) (fun w' hw' => ?_) ?_ ?_
        rotate_left 2
        · go_simp
          with_reducible rfl
        · simp only [Act.put, List.setIfInBounds_toArray, List.set_cons_zero, List.set_cons_succ, Go.Proofs.YtnfbficpodnglaaDoorW.PrintLast.i64_w, Go.Proofs.YtnfbficpodnglaaDoorW.PrintLast.i32_w]
          rfl
        refine seq_take (v := ?_) (a' := ?_) rfl rfl (by rfl) (fun w' hw' => ?_) ?_ ?_
        rotate_left 2
        · go_simp
          with_reducible rfl
        · simp only [Act.put, List.setIfInBounds_toArray, List.set_cons_zero, List.set_cons_succ, Go.Proofs.YtnfbficpodnglaaDoorW.PrintLast.i64_w, Go.Proofs.YtnfbficpodnglaaDoorW.PrintLast.i32_w]
          rfl
        refine seq_take (v := ?_) (a' := ?_) rfl rfl (by rfl) (fun w' hw' => ?_) ?_ ?_
        rotate_left 2
        · go_simp
          with_reducible rfl
        · simp only [Act.put, List.setIfInBounds_toArray, List.set_cons_zero, List.set_cons_succ, Go.Proofs.YtnfbficpodnglaaDoorW.PrintLast.i64_w, Go.Proofs.YtnfbficpodnglaaDoorW.PrintLast.i32_w]
          rfl
        refine seq_take (v := ?_) (a' := ?_) rfl rfl (by rfl) (fun w' hw' => ?_) ?_ ?_
        rotate_left 2
        · have hx := HX7.out w' (D2.out.trans hw'); go_simp
          with_reducible rfl
        · simp only [Act.put, List.setIfInBounds_toArray, List.set_cons_zero, List.set_cons_succ, Go.Proofs.YtnfbficpodnglaaDoorW.PrintLast.i64_w, Go.Proofs.YtnfbficpodnglaaDoorW.PrintLast.i32_w]
          rfl
        refine seq_take (v := ?_) (a' := ?_) rfl rfl (by rfl) (fun w' hw' => ?_) ?_ ?_
        rotate_left 2
        · go_simp
          with_reducible rfl
        · simp only [Act.put, List.setIfInBounds_toArray, List.set_cons_zero, List.set_cons_succ, Go.Proofs.YtnfbficpodnglaaDoorW.PrintLast.i64_w, Go.Proofs.YtnfbficpodnglaaDoorW.PrintLast.i32_w]
          rfl
        refine seq_take (v := ?_) (a' := ?_) rfl rfl (by rfl) (fun w' hw' => ?_) ?_ ?_
        rotate_left 2
        · go_simp
          with_reducible rfl
        · simp only [Act.put, List.setIfInBounds_toArray, List.set_cons_zero, List.set_cons_succ, Go.Proofs.YtnfbficpodnglaaDoorW.PrintLast.i64_w, Go.Proofs.YtnfbficpodnglaaDoorW.PrintLast.i32_w]
          rfl
        refine seq_quiet (v := ?_) (a' := ?_) rfl rfl (by rfl) rfl Tryd.func31 (by kernel_rfl) rfl #[.int .u32 x2, .int .i64 (-17)] (by simp only [List.map_toArray, List.map_cons, List.map_nil]; rfl) (fun w' hw' => ?_) ?_ ?_
        rotate_left 2
        · with_reducible exact rotl_17 x2 w' w2'.1 w2'.2
        · simp only [Act.put, List.setIfInBounds_toArray, List.set_cons_zero, List.set_cons_succ, Go.Proofs.YtnfbficpodnglaaDoorW.PrintLast.i64_w, Go.Proofs.YtnfbficpodnglaaDoorW.PrintLast.i32_w]
          rfl
        refine seq_take (v := ?_) (a' := ?_) rfl rfl (by rfl) (fun w' hw' => ?_) ?_ ?_
        rotate_left 2
        · go_simp
          with_reducible rfl
        · simp only [Act.put, List.setIfInBounds_toArray, List.set_cons_zero, List.set_cons_succ, Go.Proofs.YtnfbficpodnglaaDoorW.PrintLast.i64_w, Go.Proofs.YtnfbficpodnglaaDoorW.PrintLast.i32_w]
          rfl
        refine seq_quiet (v := ?_) (a' := ?_) rfl rfl (by rfl) rfl Tryd.func31 (by kernel_rfl) rfl #[.int .u32 x2, .int .i64 (-19)] (by simp only [List.map_toArray, List.map_cons, List.map_nil]; rfl) (fun w' hw' => ?_) ?_ ?_
        rotate_left 2
        · with_reducible exact rotl_19 x2 w' w2'.1 w2'.2
        · simp only [Act.put, List.setIfInBounds_toArray, List.set_cons_zero, List.set_cons_succ, Go.Proofs.YtnfbficpodnglaaDoorW.PrintLast.i64_w, Go.Proofs.YtnfbficpodnglaaDoorW.PrintLast.i32_w]
          rfl
        refine seq_take (v := ?_) (a' := ?_) rfl rfl (by rfl) (fun w' hw' => ?_) ?_ ?_
        rotate_left 2
        · go_simp
          with_reducible rfl
        · simp only [Act.put, List.setIfInBounds_toArray, List.set_cons_zero, List.set_cons_succ, Go.Proofs.YtnfbficpodnglaaDoorW.PrintLast.i64_w, Go.Proofs.YtnfbficpodnglaaDoorW.PrintLast.i32_w]
          rfl
        refine seq_take (v := ?_) (a' := ?_) rfl rfl (by rfl) (fun w' hw' => ?_) ?_ ?_
        rotate_left 2
        · go_simp
          with_reducible rfl
        · simp only [Act.put, List.setIfInBounds_toArray, List.set_cons_zero, List.set_cons_succ, Go.Proofs.YtnfbficpodnglaaDoorW.PrintLast.i64_w, Go.Proofs.YtnfbficpodnglaaDoorW.PrintLast.i32_w]
          rfl
        refine seq_take (v := ?_) (a' := ?_) rfl rfl (by rfl) (fun w' hw' => ?_) ?_ ?_
        rotate_left 2
        · go_simp
          with_reducible rfl
        · simp only [Act.put, List.setIfInBounds_toArray, List.set_cons_zero, List.set_cons_succ, Go.Proofs.YtnfbficpodnglaaDoorW.PrintLast.i64_w, Go.Proofs.YtnfbficpodnglaaDoorW.PrintLast.i32_w]
          rfl
        refine seq_take (v := ?_) (a' := ?_) rfl rfl (by rfl) (fun w' hw' => ?_) ?_ ?_
        rotate_left 2
        · go_simp
          with_reducible rfl
        · simp only [Act.put, List.setIfInBounds_toArray, List.set_cons_zero, List.set_cons_succ, Go.Proofs.YtnfbficpodnglaaDoorW.PrintLast.i64_w, Go.Proofs.YtnfbficpodnglaaDoorW.PrintLast.i32_w]
          rfl
        refine seq_take (v := ?_) (a' := ?_) rfl rfl (by rfl) (fun w' hw' => ?_) ?_ ?_
        rotate_left 2
        · go_simp
          with_reducible rfl
        · simp only [Act.put, List.setIfInBounds_toArray, List.set_cons_zero, List.set_cons_succ, Go.Proofs.YtnfbficpodnglaaDoorW.PrintLast.i64_w, Go.Proofs.YtnfbficpodnglaaDoorW.PrintLast.i32_w]
          rfl
        refine seq_take (v := ?_) (a' := ?_) rfl rfl (by rfl) (fun w' hw' => ?_) ?_ ?_
        rotate_left 2
        · go_simp
          with_reducible rfl
        · simp only [Act.put, List.setIfInBounds_toArray, List.set_cons_zero, List.set_cons_succ, Go.Proofs.YtnfbficpodnglaaDoorW.PrintLast.i64_w, Go.Proofs.YtnfbficpodnglaaDoorW.PrintLast.i32_w]
          rfl
        refine seq_run ?_
        refine do_store (w1 := ?_) rfl rfl (by rfl) ?_ ?_
        rotate_left
        · go_simp
          rfl
        refine ⟨fun h => absurd (by simp) h, ?_⟩
        refine seq_end ?_
        go_wp2
        go_roundw
        case rel => exact ⟨j + 1, by omega, by go_num, HQS.out.drew.drew⟩
        case measure => simp [intOf]; omega
    · obtain rfl : j = 64 := by omega
      have eF : fillS b 64 = sched b 64 := by simp [fillS]
      rw [eF] at HQ
      have hn64 := sched_len b 64
      obtain ⟨S, HSS⟩ : ∃ S, Aside0 (S = sched b 64) := ⟨_, ⟨rfl⟩⟩
      rw [← HSS.out] at HQ hn64
      have hsz : (Tryd.prog.info? 56).map (·.size) = some (Us S).length := by rw [Us_len, hn64]; kernel_rfl
      have hst := st_row (P := Tryd.prog) (HQ.out.at 0 rfl) 56 (Us S) (by rw [List.size_toArray, Us_len, Us_len, hn64, List.length_replicate]) hsz (Us_one _)
      have hld := ld_row (P := Tryd.prog) (HQ.out.at 1 rfl) 56 _ Tryd.underlying56 rfl (by rw [List.size_toArray]; exact hsz)
      have hset := setBlk_cells (HQ.out.at 0 rfl) (Us S) (by rw [List.size_toArray, Us_len, Us_len, hn64, List.length_replicate])
      generalize wr.setCells w.heap.size 0 (Us S) = w2 at *
      have Q9 := HQ.out.set 0 rfl hset
      have HST := Aside0.mk hst
      have HLD := Aside0.mk hld
      have H2 := Aside0.mk hset
      clear hst hld hset
      go_wp2_with (first | (refine load_arm rfl 56 (.tmp 3) rfl rfl HLD.out ?_) | (refine store_arm rfl 56 (.tmp 2) (.tmp 74) rfl rfl rfl HST.out ?_))
      (try simp only [Exit.inBlock, Exit.then])
      refine bodyPost_ret (v := .agg (Us S).toArray) (results_cell_row rfl _ _ w.heap.size _ _ _ _ rfl H2.out.at_ Tryd.underlying56 rfl ?_) rfl ⟨by rw [HSS.out], Q9.below⟩
      rw [hsz, List.size_toArray]
end Go.Proofs.YtnfbficpodnglaaDoor
