/- lighterageref11.May. Conditions: its own. -/
import Derived.Test.YtdfahblgnbdndaaDoorIdx2
namespace Go.Proofs.YtdfahblgnbdndaaDoor
open Go.RowKit Go.Proofs.YtdfahblgnbdndaaDoorW.PrintWords Go.Proofs.YtdfahblgnbdndaaDoorW.PrintMore
set_option linter.unusedVariables false
set_option linter.unusedSimpArgs false
theorem tot_bound {a c : Int} {its : List Itm} (hc : c ≤ 4096) (k : Nat) (hk : k ≤ its.length) (h : allOk a c its k) : 0 ≤ tot (its.take k) ∧ tot (its.take k) ≤ k * 4096 := by
  induction k with
  | zero => simp [tot_nil]
  | succ k ih =>
    have h1 := ih (by omega) (fun j hj => h j (by omega))
    have h2 := h k (by omega)
    rw [tot_take (by omega)]
    unfold okI sz at h2
    rw [Int.natCast_add, Int.add_mul]
    omega
set_option maxRecDepth 20000 in
set_option maxHeartbeats 3200000 in
theorem rimay_calls (a b c : Int) (im : List Int) (A : Option Addr) (n cp : Nat) (its : List Itm) (C : Array Value) (w : World) (hC : C = (Xc a b c im (.slice A n cp)).toArray) (hn : im.length = 32) (h : RdI w A n its) (hl : n ≤ 1099511627776) :
    Calls Tryd.prog 16 #[.agg C] w fun e w' => e = .returned (.bool (mayX a b c its)) ∧ Below w.heap.size w w' := by
  obtain rfl : its.length = n := h.1
  have HX := Aside0.mk h
  have HCE := Aside0.mk hC
  have HBX : Aside0 ((w.alloc (.cells C 38)).heap[w.heap.size]? = some (.cells (Xc a b c im (.slice A its.length cp)).toArray 38 (0, 0))) := ⟨by rw [← hC]; exact blk_new w _⟩
  clear hC h
  obtain ⟨w1, hw1⟩ : ∃ w1, w1 = w.alloc (.cells C 38) := ⟨_, rfl⟩
  have L1 : Aside0 (Below w.heap.size w w1) := ⟨by rw [hw1]; exact below_alloc (Below.refl _ _) _⟩
  rw [← hw1] at HBX
  have HL : Aside0 (∀ W, Below w1.heap.size w1 W → W.cell? ⟨w.heap.size, 0, none⟩ = some (.int .i64 a) ∧ W.cell? ⟨w.heap.size, 1, none⟩ = some (.int .i64 b) ∧ W.cell? ⟨w.heap.size, 2, none⟩ = some (.int .i64 c) ∧ W.cell? ⟨w.heap.size, 35, none⟩ = some (.slice A its.length cp)) := ⟨fun W hW => by
    obtain ⟨q0, q1, q2, q3, _⟩ := x_cells (Later.heap hW HBX.out) hn
    exact ⟨q0, q1, q2, q3⟩⟩
  have HP := Aside0.mk (x_params HBX.out)
  obtain ⟨q0, q1, q2, q3⟩ := HL.out w1 (Below.refl _ _)
  by_cases hm : mayB a b c = true
  · have HM := Aside0.mk hm
    obtain ⟨a0, b0, c0, rfl, rfl, rfl, m1, m2, m3, m4⟩ := mayB_nat hm
    clear hm
    by_cases hbig : its.length ≤ 4096
    · have hbigI : ¬ (4096 : Int) < (its.length : Int) := by omega
      go_enter Tryd.func16, Tryd.ntmps16
      go_upto_region 1 with fail
      rw [← hw1]
      clear hw1
      go_wp2_with (first
        | ((with_reducible refine at_ld (w := w1) 24 (.tmp 7) ?_); refine load_arm rfl 24 (.tmp 7) rfl rfl HP.out ?_; simp only [Act.put, List.setIfInBounds_toArray, List.set_cons_zero, List.set_cons_succ])
        | (go_at_call 28; refine (pmay_calls a0 b0 c0 w1).mono ?_; rw [HM.out]; rintro e w2 ⟨rfl, hB⟩; have HB2 := Aside0.mk hB; obtain ⟨p0, p1, p2, p3⟩ := HL.out w2 hB; clear hB q0 q1 q2 q3)
        | fail)
      go_loopw [4, 5, 6] (fun s i _ wr => ∃ k : Nat, k ≤ its.length ∧ i = .int .i64 k ∧ s = .int .i64 (tot (its.take k)) ∧ allOk a0 c0 its k ∧ w2 = wr) (fun _ i _ _ => its.length - (intOf i).toNat)
      case atStart => exact ⟨0, Nat.zero_le _, rfl, rfl, fun j hj => absurd hj (by omega), rfl⟩
      case round =>
        obtain ⟨k, hk, rfl, rfl, hok, rfl⟩ := hrel
        have HOK := Aside0.mk hok
        have hT := tot_bound (its := its) (show (c0 : Int) ≤ 4096 by omega) k hk hok
        have hT2 : (k : Int) * 4096 ≤ 16777216 := by omega
        clear hok
        by_cases hlt : k < its.length
        · obtain ⟨ad, rfl, hx32, hxc⟩ := kf_at (Kd.C_below HX.out (below_tr L1.out HB2.out L1.out.size)) ([], 0) k hlt
          have HNO : Aside0 (¬ okI a0 c0 its k → mayX a0 b0 c0 its = false) := ⟨mayX_not hlt⟩
          have HYES : Aside0 (okI a0 c0 its k → allOk a0 c0 its (k + 1)) := ⟨allOk_succ HOK.out⟩
          have HTT := Aside0.mk (tot_take hlt)
          have hes := elem_size hx32 hxc
          unfold okI sz at HNO HYES
          generalize its.getD k ([], 0) = X at *
          obtain ⟨nm, s⟩ := X
          generalize tot (its.take k) = T at *
          clear hxc hx32
          dsimp only at HNO HYES hes
          by_cases h1 : s < 1
          · have HF : Aside0 (mayX (a0 : Int) b0 c0 its = false) := ⟨HNO.out (fun h => by omega)⟩
            go_wp2
            go_ret
            exact ⟨by rw [HF.out]; rfl, below_tr L1.out HB2.out L1.out.size⟩
          · by_cases h2 : (c0 : Int) < s
            · have HF : Aside0 (mayX (a0 : Int) b0 c0 its = false) := ⟨HNO.out (fun h => by omega)⟩
              go_wp2
              go_ret
              exact ⟨by rw [HF.out]; rfl, below_tr L1.out HB2.out L1.out.size⟩
            · by_cases h3 : s < (a0 : Int)
              · by_cases h4 : k + 1 < its.length
                · have h4I : (k : Int) + 1 < (its.length : Int) := by omega
                  have HF : Aside0 (mayX (a0 : Int) b0 c0 its = false) := ⟨HNO.out (fun h => by omega)⟩
                  go_wp2
                  go_ret
                  exact ⟨by rw [HF.out]; rfl, below_tr L1.out HB2.out L1.out.size⟩
                · have h4I : ¬ (k : Int) + 1 < (its.length : Int) := by omega
                  have HO2 := Aside0.mk (HYES.out (by omega))
                  go_wp2
                  go_roundw
                  case rel => exact ⟨k + 1, by omega, by go_num, by rw [HTT.out], HO2.out, trivial⟩
                  case measure => simp [intOf]; omega
              · have HO2 := Aside0.mk (HYES.out (by omega))
                go_wp2
                go_roundw
                case rel => exact ⟨k + 1, by omega, by go_num, by rw [HTT.out], HO2.out, trivial⟩
                case measure => simp [intOf]; omega
        · obtain rfl : k = its.length := by omega
          have HE := Aside0.mk (mayX_end (b := (b0 : Int)) HM.out hbig HOK.out)
          rw [List.take_length] at hT ⊢
          go_wp2
          go_ret
          exact ⟨by rw [HE.out]; rfl, below_tr L1.out HB2.out L1.out.size⟩
    · have hbigI : (4096 : Int) < (its.length : Int) := by omega
      have HF : Aside0 (mayX (a0 : Int) b0 c0 its = false) := ⟨by unfold mayX; rw [decide_eq_false hbig]; simp⟩
      clear hbig
      go_enter Tryd.func16, Tryd.ntmps16
      go_upto_region 1 with fail
      rw [← hw1]
      clear hw1
      go_wp2_with (first
        | ((with_reducible refine at_ld (w := w1) 24 (.tmp 7) ?_); refine load_arm rfl 24 (.tmp 7) rfl rfl HP.out ?_; simp only [Act.put, List.setIfInBounds_toArray, List.set_cons_zero, List.set_cons_succ])
        | (go_at_call 28; refine (pmay_calls a0 b0 c0 w1).mono ?_; rw [HM.out]; rintro e w2 ⟨rfl, hB⟩; have HB2 := Aside0.mk hB; obtain ⟨p0, p1, p2, p3⟩ := HL.out w2 hB; clear hB q0 q1 q2 q3)
        | fail)
      go_ret
      exact ⟨by rw [HF.out]; rfl, below_tr L1.out HB2.out L1.out.size⟩
  · have HM : Aside0 (mayB a b c = false) := ⟨by simpa using hm⟩
    have HF : Aside0 (mayX a b c its = false) := ⟨by unfold mayX; rw [HM.out]; rfl⟩
    clear hm
    go_enter Tryd.func16, Tryd.ntmps16
    go_upto_region 1 with fail
    rw [← hw1]
    clear hw1
    go_wp2_with (first
      | ((with_reducible refine at_ld (w := w1) 24 (.tmp 7) ?_); refine load_arm rfl 24 (.tmp 7) rfl rfl HP.out ?_; simp only [Act.put, List.setIfInBounds_toArray, List.set_cons_zero, List.set_cons_succ])
      | (go_at_call 28; refine (pmay_calls a b c w1).mono ?_; rw [HM.out]; rintro e w2 ⟨rfl, hB⟩; have HB2 := Aside0.mk hB; clear hB q0 q1 q2 q3)
      | fail)
    go_ret
    exact ⟨by rw [HF.out]; rfl, below_tr L1.out HB2.out L1.out.size⟩
end Go.Proofs.YtdfahblgnbdndaaDoor
