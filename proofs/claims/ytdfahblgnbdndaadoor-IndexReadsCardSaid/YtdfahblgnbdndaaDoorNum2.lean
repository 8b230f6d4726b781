/- Contracts of lighterageref01's Number, Of. Conditions: each contract's own. -/
import Derived.Test.YtdfahblgnbdndaaDoorG2
import Derived.Test.YtdfahblgnbdndaaDoorG1
import Derived.Deep.MidRow
namespace Go.Proofs.YtdfahblgnbdndaaDoor
open Go.RowKit Go.Proofs.YtdfahblgnbdndaaDoorW.PrintWords Go.Proofs.YtdfahblgnbdndaaDoorW.PrintMore
set_option linter.unusedVariables false
set_option linter.unusedSimpArgs false
/-- Number: four bytes. -/
theorem number_calls (n : Int) (w : World) (h0 : 0 ≤ n) (h1 : n < 4294967296) :
    Calls Tryd.prog 41 #[.int .i64 n] w fun e w' => ∃ B d, e = .returned (.slice B 4 d) ∧ OwB w' w.heap.size (.slice B 4 d) (le32 n.toNat) ∧ Below w.heap.size w w' := by
  obtain ⟨m, rfl⟩ := Int.eq_ofNat_of_zero_le h0
  rw [Int.toNat_natCast]
  go_enter Tryd.func41, Tryd.ntmps41
  go_wp2
  go_ret
  refine ⟨_, _, rfl, own_litB w _ (le32 m) _ 4 ?_ rfl (Nat.le_refl _) (by simp [le32]), (Below.refl _ _).alloc (Nat.le_refl _) _⟩
  simp [le32]
  omega

/-- Of: the digest of 32 bytes. -/
theorem of32_calls (xs : List Int) (A : Option Addr) (c : Nat) (w : World) (h : RdB w A 32 xs) :
    Calls Tryd.prog 54 #[.slice A 32 c] w fun e w' => e = .returned (.agg (Nm xs).toArray) ∧ Below w.heap.size w w' := by
  have HN := Aside0.mk h.1
  have HR := Aside0.mk h
  clear h
  go_enter Tryd.func54, Tryd.ntmps54
  go_wp2
  go_loopw [4] (fun i wr => ∃ k : Nat, k ≤ 32 ∧ i = .int .i64 k ∧ wr.heap[w.heap.size + 1]? = some (.cells (Nm (fillN xs 32 k)).toArray 26 (0, 0)) ∧ wr.heap[w.heap.size]? = some (.cells (Nm (List.replicate 32 0)).toArray 26 (0, 0)) ∧ Below w.heap.size w wr) (fun i _ => 32 - (intOf i).toNat)
  case atStart =>
    refine ⟨0, by omega, rfl, ?_, ?_, ?_⟩
    · exact heap_alloc2_new w _ _
    · exact heap_alloc2_old w _ _
    · exact ((Below.refl _ _).alloc (Nat.le_refl _) _).alloc (by simp) _
  case round =>
    obtain ⟨k, hk, rfl, hb1, hb0, hB⟩ := hrel
    by_cases hlt : k < 32
    · obtain ⟨ad, e, hx⟩ := Kd.at_int (Kd.C_below HR.out hB) (k : Int) (by omega) (by omega)
      subst e
      rw [Int.toNat_natCast] at hx
      have hlen : (Nm (fillN xs 32 k)).toArray.size = 32 := by rw [List.size_toArray, Nm_len, fillN_len (by omega) (by rw [HN.out]; exact Nat.le_refl _)]
      have hc : wr.cell? ⟨w.heap.size + 1, k, none⟩ = some ((Nm (fillN xs 32 k)).toArray[k]'(by omega)) := by rw [blk_cell hb1, Array.getElem?_eq_getElem (by omega)]
      have hf : wr.frozen? ⟨w.heap.size + 1, k, none⟩ = false := blk_frozen hb1 _
      have HS : Aside0 (∀ v, v = Value.int .u8 (rd xs k) → (wr.setCell ⟨w.heap.size + 1, k, none⟩ v).heap[w.heap.size + 1]? = some (.cells (Nm (fillN xs 32 (k + 1))).toArray 26 (0, 0))) := ⟨by
        rintro v rfl
        rw [blk_set hb1 k, Nm_set, fillN_set hlt (by rw [HN.out]; exact Nat.le_refl _)]⟩
      have HZ : Aside0 (∀ v, (wr.setCell ⟨w.heap.size + 1, k, none⟩ v).heap[w.heap.size]? = some (.cells (Nm (List.replicate 32 0)).toArray 26 (0, 0)) ∧ Below w.heap.size w (wr.setCell ⟨w.heap.size + 1, k, none⟩ v)) := ⟨fun v =>
        ⟨blk_far hb0 (by simp) v, hB.setCell (show w.heap.size ≤ w.heap.size + 1 by omega) v⟩⟩
      generalize (Nm (fillN xs 32 k)).toArray[k]'(by omega) = old at *
      generalize hrk : rd xs k = x at *
      clear hb1 hb0 hB hlen
      go_wp2
      go_roundw
      case rel => exact ⟨k + 1, by omega, by go_num, HS.out _ rfl, (HZ.out _).1, (HZ.out _).2⟩
      case measure => simp [intOf]; omega
    · obtain rfl : k = 32 := by omega
      have eF : fillN xs 32 32 = xs := by
        unfold fillN
        rw [List.take_of_length_le (by rw [HN.out]; exact Nat.le_refl _)]
        simp
      rw [eF] at hb1
      have hi : (Tryd.prog.info? 26).map (·.size) = some 32 := by kernel_rfl
      have hu : Tryd.prog.underlying 26 = some (.array 32 5) := Tryd.underlying26
      have hld := ld_row (P := Tryd.prog) hb1 26 _ hu rfl (by rw [hi, List.size_toArray, Nm_len, HN.out])
      have hst := st_row (P := Tryd.prog) hb0 26 (Nm xs) (by rw [List.size_toArray, Nm_len, Nm_len, HN.out]; rfl) (by rw [hi, Nm_len, HN.out]) (Nm_one xs)
      have hset := setBlk_cells hb0 (Nm xs) (by rw [List.size_toArray, Nm_len, Nm_len, HN.out]; rfl)
      generalize wr.setCells w.heap.size 0 (Nm xs) = w2 at *
      have H2 := Aside0.mk hset
      have HB := Aside0.mk hB
      clear hset hb1 hb0 hi hu hB
      have HLD := Aside0.mk hld
      have HST := Aside0.mk hst
      clear hld hst
      go_wp2_with (first | ((with_reducible refine at_ld 26 (.tmp 3) ?_); refine load_arm rfl 26 (.tmp 3) rfl rfl HLD.out ?_; simp only [Act.put, List.setIfInBounds_toArray, List.set_cons_zero, List.set_cons_succ]) | ((with_reducible refine at_st 26 (.tmp 2) (.tmp 15) ?_); refine store_arm rfl 26 (.tmp 2) (.tmp 15) rfl rfl rfl HST.out ?_))
      (try simp only [Exit.inBlock, Exit.then])
      refine bodyPost_ret (v := .agg (Nm xs).toArray) (results_cell_row rfl _ _ w.heap.size _ _ _ _ rfl H2.out.at_ Tryd.underlying26 rfl ?_) rfl ⟨rfl, HB.out.trans (H2.out.below (Nat.le_refl _))⟩
      rw [show (Tryd.prog.info? 26).map (·.size) = some 32 from by kernel_rfl, List.size_toArray, Nm_len, HN.out]
end Go.Proofs.YtdfahblgnbdndaaDoor
