/- index.May, lighterageref11.May. Conditions: their own. -/
import Derived.Test.YtdfahblgnbdndaaDoorIdx1
import Derived.Deep.CutBlock
namespace Go.Proofs.YtdfahblgnbdndaaDoor
open Go.RowKit Go.Proofs.YtdfahblgnbdndaaDoorW.PrintWords Go.Proofs.YtdfahblgnbdndaaDoorW.PrintMore
set_option linter.unusedVariables false
set_option linter.unusedSimpArgs false
def sz (its : List Itm) (k : Nat) : Int := (its.getD k ([], 0)).2
/-- An item's size may be. -/
def okI (a c : Int) (its : List Itm) (k : Nat) : Prop := 1 ≤ sz its k ∧ sz its k ≤ c ∧ (k + 1 < its.length → a ≤ sz its k)
instance (a c : Int) (its : List Itm) (k : Nat) : Decidable (okI a c its k) := by unfold okI; infer_instance
def allOk (a c : Int) (its : List Itm) (m : Nat) : Prop := ∀ k, k < m → okI a c its k
instance (a c : Int) (its : List Itm) (m : Nat) : Decidable (allOk a c its m) := by unfold allOk; infer_instance
/-- Which indexes may be. -/
def mayX (a b c : Int) (its : List Itm) : Bool := mayB a b c && (decide (its.length ≤ 4096) && (decide (allOk a c its its.length) && decide (tot its ≤ 65536)))
theorem allOk_succ {a c : Int} {its : List Itm} {k : Nat} (h : allOk a c its k) (h2 : okI a c its k) : allOk a c its (k + 1) := fun j hj => by
  rcases Nat.lt_or_ge j k with hl | hl
  · exact h j hl
  · obtain rfl : j = k := by omega
    exact h2
theorem mayX_not {a b c : Int} {its : List Itm} {k : Nat} (hk : k < its.length) (h : ¬ okI a c its k) : mayX a b c its = false := by
  unfold mayX
  rw [decide_eq_false (p := allOk a c its its.length) (fun h2 => h (h2 k hk))]
  simp
theorem mayX_end {a b c : Int} {its : List Itm} (h0 : mayB a b c = true) (h1 : its.length ≤ 4096) (h : allOk a c its its.length) : mayX a b c its = decide (tot its ≤ 65536) := by
  unfold mayX
  rw [h0, decide_eq_true h1, decide_eq_true h]
  simp
theorem szs_of {a b c : Int} {its : List Itm} (h0 : mayB a b c = true) (h : allOk a c its its.length) (m : Int) (hm : 4096 ≤ m) : szs its m := fun k hk => by
  have h1 := h k hk
  unfold okI sz at h1
  unfold mayB at h0
  simp at h0
  omega
/-- What may be. -/
theorem mayX_spec {a b c : Int} {its : List Itm} (h : mayX a b c its = true) : mayB a b c = true ∧ its.length ≤ 4096 ∧ allOk a c its its.length ∧ tot its ≤ 65536 := by
  unfold mayX at h
  simp only [Bool.and_eq_true, decide_eq_true_eq] at h
  exact ⟨h.1, h.2.1, h.2.2.1, h.2.2.2⟩
set_option maxRecDepth 20000 in
set_option maxHeartbeats 3200000 in
theorem imay_calls (a b c : Int) (im : List Int) (A : Option Addr) (n cp : Nat) (its : List Itm) (C : Array Value) (w : World) (hC : C = (Xc a b c im (.slice A n cp)).toArray) (hn : im.length = 32) (h : RdI w A n its) (hl : n ≤ 1099511627776) :
    Calls Tryd.prog 19 #[.agg C] w fun e w' => e = .returned (.bool (mayX a b c its)) ∧ Below w.heap.size w w' := by
  obtain rfl : its.length = n := h.1
  have HX := Aside0.mk h
  have HCE := Aside0.mk hC
  have HBK : Aside0 ((w.alloc (.cells C 29)).heap[w.heap.size]? = some (.cells C 29 (0, 0))) := ⟨blk_new w _⟩
  have HBX : Aside0 ((w.alloc (.cells C 29)).heap[w.heap.size]? = some (.cells (Xc a b c im (.slice A its.length cp)).toArray 29 (0, 0))) := ⟨by rw [← hC]; exact blk_new w _⟩
  clear hC h
  obtain ⟨w1, hw1⟩ : ∃ w1, w1 = w.alloc (.cells C 29) := ⟨_, rfl⟩
  have L1 : Aside0 (Below w.heap.size w w1) := ⟨by rw [hw1]; exact below_alloc (Below.refl _ _) _⟩
  rw [← hw1] at HBK HBX
  have HL : Aside0 (∀ W, Below w1.heap.size w1 W → W.cell? ⟨w.heap.size, 0, none⟩ = some (.int .i64 a) ∧ W.cell? ⟨w.heap.size, 1, none⟩ = some (.int .i64 b) ∧ W.cell? ⟨w.heap.size, 2, none⟩ = some (.int .i64 c) ∧ W.cell? ⟨w.heap.size, 35, none⟩ = some (.slice A its.length cp)) := ⟨fun W hW => by
    obtain ⟨q0, q1, q2, q3, _⟩ := x_cells (Later.heap hW HBX.out) hn
    exact ⟨q0, q1, q2, q3⟩⟩
  have HP := Aside0.mk (x_params HBX.out)
  by_cases hm : mayB a b c = true
  · have HM := Aside0.mk hm
    obtain ⟨a0, b0, c0, rfl, rfl, rfl, m1, m2, m3, m4⟩ := mayB_nat hm
    clear hm
    by_cases hbig : its.length ≤ 4096
    · have hbigI : ¬ (4096 : Int) < (its.length : Int) := by omega
      obtain ⟨q0, q1, q2, q3⟩ := HL.out w1 (Below.refl _ _)
      go_enter Tryd.func19, Tryd.ntmps19
      go_upto_region 1 with fail
      rw [← hw1]
      clear hw1
      go_wp2_with (first
        | ((with_reducible refine at_ld (w := w1) 24 (.tmp 6) ?_); refine load_arm rfl 24 (.tmp 6) rfl rfl HP.out ?_; simp only [Act.put, List.setIfInBounds_toArray, List.set_cons_zero, List.set_cons_succ])
        | (go_at_call 40; refine (may_calls a0 b0 c0 w1).mono ?_; rw [HM.out]; rintro e w2 ⟨rfl, hB⟩; have HB2 := Aside0.mk hB; obtain ⟨p0, p1, p2, p3⟩ := HL.out w2 hB; clear hB q0 q1 q2 q3)
        | fail)
      clear p0 p1 p2 p3
      go_loopw [3, 4, 5, 19] (fun _ _ _ i wr => ∃ k : Nat, k ≤ its.length ∧ i = .int .i64 k ∧ allOk a0 c0 its k ∧ Below w1.heap.size w1 wr) (fun _ _ _ i _ => its.length - (intOf i).toNat)
      case atStart => exact ⟨0, Nat.zero_le _, rfl, fun j hj => absurd hj (by omega), HB2.out⟩
      case round =>
        obtain ⟨k, hk, rfl, hok, hB⟩ := hrel
        have HB := Aside0.mk hB
        have HOK := Aside0.mk hok
        clear hB hok
        by_cases hlt : k < its.length
        · obtain ⟨ad, rfl, hx32, hxc⟩ := kf_at (Kd.C_below HX.out (below_tr L1.out HB.out L1.out.size)) ([], 0) k hlt
          have HXC := Aside0.mk hxc
          have HX32 := Aside0.mk hx32
          have HNO : Aside0 (¬ okI a0 c0 its k → mayX a0 b0 c0 its = false) := ⟨mayX_not hlt⟩
          have HYES : Aside0 (okI a0 c0 its k → allOk a0 c0 its (k + 1)) := ⟨allOk_succ HOK.out⟩
          unfold okI sz at HNO HYES
          generalize its.getD k ([], 0) = X at *
          obtain ⟨nm, s⟩ := X
          clear hxc hx32
          dsimp only at HNO HYES
          obtain ⟨low, hlow⟩ : ∃ low : Int, low = if k + 1 = its.length then 1 else (a0 : Int) := ⟨_, rfl⟩
          go_upto_if 32 with (first
            | ((with_reducible refine at_ld 41 (.tmp 22) ?_); refine load_arm rfl 41 (.tmp 22) rfl rfl (ld_elem HXC.out 41 _ Tryd.underlying41 rfl (size_it HX32.out)) ?_; simp only [Act.put, List.setIfInBounds_toArray, List.set_cons_zero, List.set_cons_succ])
            | ((with_reducible refine at_st 41 (.tmp 4) (.tmp 23) ?_); refine store_blk rfl 41 (.tmp 4) (.tmp 23) rfl rfl rfl (blk_new _ _) (by rw [icells_len HX32.out]; rfl) (size_it HX32.out) (icells_one _) ?_; rintro w3 HS3); have hc3 := (it_cells HS3.at_ HX32.out).1; have HB3 : Aside0 (Below w1.heap.size w1 w3) := ⟨(below_alloc HB.out _).trans (HS3.below HB.out.size)⟩; obtain ⟨p0, p1, p2, p3⟩ := HL.out w3 HB3.out; clear HS3; dsimp only at hc3)
          go_cut [5] from 20 to 45 (fun v w' => v = .int .i64 low ∧ w3 = w')
          case first =>
            by_cases hlast : k + 1 = its.length
            · have hB1 : ((k : Int) + 1 == (its.length : Int)) = true := by rw [beq_iff_eq]; omega
              rw [if_pos hlast] at hlow
              subst hlow
              clear hlast
              go_wp2
              go_meet
              case rel => exact ⟨rfl, rfl⟩
            · have hB1 : ((k : Int) + 1 == (its.length : Int)) = false := by rw [beq_eq_false_iff_ne]; omega
              rw [if_neg hlast] at hlow
              subst hlow
              clear hlast
              go_wp2
              go_meet
              case rel => exact ⟨rfl, rfl⟩
          case rest =>
            obtain ⟨rfl, rfl⟩ := hcut
            by_cases h1 : s < low
            · have HF : Aside0 (mayX (a0 : Int) b0 c0 its = false) := ⟨HNO.out (fun h => by split at hlow <;> omega)⟩
              clear hlow
              go_wp2
              go_ret
              exact ⟨by rw [HF.out]; rfl, below_tr L1.out HB3.out L1.out.size⟩
            · by_cases h2 : (c0 : Int) < s
              · have HF : Aside0 (mayX (a0 : Int) b0 c0 its = false) := ⟨HNO.out (fun h => by omega)⟩
                clear hlow
                go_wp2
                go_ret
                exact ⟨by rw [HF.out]; rfl, below_tr L1.out HB3.out L1.out.size⟩
              · have HO2 := Aside0.mk (HYES.out (by split at hlow <;> omega))
                clear hlow
                go_wp2
                go_roundw
                case rel => exact ⟨k + 1, by omega, by go_num, HO2.out, HB3.out⟩
                case measure => simp [intOf]; omega
        · obtain rfl : k = its.length := by omega
          have HE := Aside0.mk (mayX_end (b := (b0 : Int)) HM.out hbig HOK.out)
          have HSZ := Aside0.mk (szs_of (b := (b0 : Int)) HM.out HOK.out 1048576 (by omega))
          have HBR := Aside0.mk (Later.heap HB.out HBK.out)
          have HXR : Aside0 (RdI wr A its.length its) := ⟨Kd.C_below HX.out (below_tr L1.out HB.out L1.out.size)⟩
          go_wp2_with (first
            | ((with_reducible refine at_ld (w := wr) 29 (.tmp 1) ?_); refine load_arm rfl 29 (.tmp 1) rfl rfl (ld_row HBR.out 29 _ Tryd.underlying29 rfl (by rw [HCE.out, List.size_toArray]; exact size_X hn)) ?_; simp only [Act.put, List.setIfInBounds_toArray, List.set_cons_zero, List.set_cons_succ])
            | (go_at_call 12; refine (itotal_calls a0 b0 c0 im A its.length cp its C wr HCE.out hn HXR.out HSZ.out (by omega)).mono ?_; rintro e w4 ⟨rfl, hB⟩; have HB4 := Aside0.mk (below_tr HB.out hB HB.out.size); clear hB))
          go_ret
          exact ⟨by rw [HE.out]; rfl, below_tr L1.out HB4.out L1.out.size⟩
    · have hbigI : (4096 : Int) < (its.length : Int) := by omega
      have HF : Aside0 (mayX (a0 : Int) b0 c0 its = false) := ⟨by unfold mayX; rw [decide_eq_false hbig]; simp⟩
      clear hbig
      obtain ⟨q0, q1, q2, q3⟩ := HL.out w1 (Below.refl _ _)
      go_enter Tryd.func19, Tryd.ntmps19
      go_upto_region 1 with fail
      rw [← hw1]
      clear hw1
      go_wp2_with (first
        | ((with_reducible refine at_ld (w := w1) 24 (.tmp 6) ?_); refine load_arm rfl 24 (.tmp 6) rfl rfl HP.out ?_; simp only [Act.put, List.setIfInBounds_toArray, List.set_cons_zero, List.set_cons_succ])
        | (go_at_call 40; refine (may_calls a0 b0 c0 w1).mono ?_; rw [HM.out]; rintro e w2 ⟨rfl, hB⟩; have HB2 := Aside0.mk hB; obtain ⟨p0, p1, p2, p3⟩ := HL.out w2 hB; clear hB q0 q1 q2 q3)
        | fail)
      go_ret
      exact ⟨by rw [HF.out]; rfl, below_tr L1.out HB2.out L1.out.size⟩
  · have HM : Aside0 (mayB a b c = false) := ⟨by simpa using hm⟩
    have HF : Aside0 (mayX a b c its = false) := ⟨by unfold mayX; rw [HM.out]; rfl⟩
    clear hm
    obtain ⟨q0, q1, q2, q3⟩ := HL.out w1 (Below.refl _ _)
    go_enter Tryd.func19, Tryd.ntmps19
    go_upto_region 1 with fail
    rw [← hw1]
    clear hw1
    go_wp2_with (first
      | ((with_reducible refine at_ld (w := w1) 24 (.tmp 6) ?_); refine load_arm rfl 24 (.tmp 6) rfl rfl HP.out ?_; simp only [Act.put, List.setIfInBounds_toArray, List.set_cons_zero, List.set_cons_succ])
      | (go_at_call 40; refine (may_calls a b c w1).mono ?_; rw [HM.out]; rintro e w2 ⟨rfl, hB⟩; have HB2 := Aside0.mk hB; clear hB q0 q1 q2 q3)
      | fail)
    go_ret
    exact ⟨by rw [HF.out]; rfl, below_tr L1.out HB2.out L1.out.size⟩
end Go.Proofs.YtdfahblgnbdndaaDoor
