/- Contracts of lighterageref01's Number, Bytes, Of. Conditions: each contract's own. -/
import Derived.Test.YtbagphegelbgcaaWireBase
import Derived.Test.YtbagphegelbgcaaMem
namespace Go.Proofs.Ytbagphegelbgcaa
open Go.RowKit Go.Proofs.YtbagphegelbgcaaW.PrintWords Go.Proofs.YtbagphegelbgcaaW.PrintMore
set_option linter.unusedVariables false
set_option linter.unusedSimpArgs false

/-- Number: four bytes. -/
theorem number_calls (n : Int) (w : World) (h0 : 0 ≤ n) (h1 : n < 4294967296) :
    Calls Try.prog 26 #[.int .i64 n] w fun e w' => ∃ B d, e = .returned (.slice B 4 d) ∧ OwB w' w.heap.size (.slice B 4 d) (le32 n.toNat) ∧ Below w.heap.size w w' := by
  obtain ⟨m, rfl⟩ := Int.eq_ofNat_of_zero_le h0
  rw [Int.toNat_natCast]
  go_enter Try.func26, Try.ntmps26
  go_wp2
  go_ret
  refine ⟨_, _, rfl, own_litB w _ (le32 m) _ 4 ?_ rfl (Nat.le_refl _) (by simp [le32]), (Below.refl _ _).alloc (Nat.le_refl _) _⟩
  simp [le32]
  omega

theorem Nm_take_rd {nm : List Int} {k : Nat} (h : k < nm.length) : (Nm nm).toArray[k]? = some (.int .u8 (rd nm k)) := by
  simp [Nm, rd, List.getD_eq_getElem?_getD, List.getElem?_eq_getElem h]

/-- Bytes: a digest's bytes. -/
theorem bytes32_calls (nm : List Int) (C : Array Value) (w : World) (hC : C = (Nm nm).toArray) (hn : nm.length = 32) (hb : Bytes nm) :
    Calls Try.prog 27 #[.agg C] w fun e w' => ∃ v, e = .returned v ∧ OwB w' w.heap.size v nm ∧ Below w.heap.size w w' := by
  have hblk := blk_new w (.cells C 23)
  have hcell : Aside0 (∀ k : Nat, k < 32 → (w.alloc (.cells C 23)).cell? ⟨w.heap.size, k, none⟩ = some (.int .u8 (rd nm k))) := ⟨fun k hk => by
    rw [blk_cell hblk, hC]
    exact Nm_take_rd (by omega)⟩
  have hsz : (w.alloc (.cells C 23)).heap.size = w.heap.size + 1 := by simp
  have HN := Aside0.mk hn
  clear hC hn hblk
  go_enter Try.func27, Try.ntmps27
  go_wp2
  obtain ⟨w1, hw1⟩ : ∃ w1, w1 = w.alloc (.cells C 23) := ⟨_, rfl⟩
  rw [← hw1] at hcell hsz ⊢
  have hB1 : Below w.heap.size w w1 := by rw [hw1]; exact (Below.refl _ _).alloc (Nat.le_refl _) _
  clear hw1
  go_loopw [3, 4] (fun v i wr => ∃ k : Nat, k ≤ 32 ∧ i = .int .i64 k ∧ OwB wr w1.heap.size v (nm.take k) ∧ Below w1.heap.size w1 wr) (fun _ i _ => 32 - (intOf i).toNat)
  case atStart => exact ⟨0, by omega, rfl, Kd.R_nil _ _ _ _ _, Below.refl _ _⟩
  case round =>
    obtain ⟨k, hk, rfl, hO, hB⟩ := hrel
    by_cases hlt : k < 32
    · have hc := pw_cell_below hB (hcell.out k hlt)
      have HT : Aside0 (nm.take (k + 1) = nm.take k ++ [rd nm k]) := ⟨take_snoc (by have := HN.out; omega)⟩
      have hl : (nm.take k).length < 140737488355328 := by rw [List.length_take]; omega
      have HO := Aside0.mk hO
      have HL := Aside0.mk hl
      clear hl hO
      generalize rd nm k = x at *
      go_wp2_with (at_builtin; refine appB (w0 := w1) w1.heap.size rfl (.tmp 9) (.tmp 13) rfl _ _ x rfl rfl HO.out hB hB.size HL.out ?_; intro v2 w2 hO2 hB2 _ _)
      go_roundw
      case rel => exact ⟨k + 1, by omega, by go_num, by rw [HT.out]; exact hO2, hB2⟩
      case measure => simp [intOf]; omega
    · obtain rfl : k = 32 := by omega
      go_wp2
      go_ret
      exact ⟨_, rfl, by rw [List.take_of_length_le (by have := HN.out; omega)] at hO; exact Kd.R_lower hO hB1.size, below_tr' hB1 hB⟩

def fillN (xs : List Int) (n k : Nat) : List Int := xs.take k ++ List.replicate (n - k) 0
theorem fillN_len {xs : List Int} {n k : Nat} (h : k ≤ n) (hx : n ≤ xs.length) : (fillN xs n k).length = n := by
  rw [fillN, List.length_append, List.length_take, List.length_replicate]
  omega
theorem fillN_set {xs : List Int} {n k : Nat} (h : k < n) (hx : n ≤ xs.length) : (fillN xs n k).set k (rd xs k) = fillN xs n (k + 1) := by
  unfold fillN
  rw [take_snoc (by omega), List.set_append_right _ _ (by rw [List.length_take]; omega), List.length_take, show k - min k xs.length = 0 by omega, show n - k = (n - (k + 1)) + 1 by omega, List.replicate_succ, List.set_cons_zero, List.append_assoc]
  rfl
theorem Nm_set (xs : List Int) (k : Nat) (x : Int) : (Nm xs).toArray.setIfInBounds k (.int .u8 x) = (Nm (xs.set k x)).toArray := by
  simp [Nm, List.map_set]

/-- Of: the digest of 32 bytes. -/
theorem of32_calls (xs : List Int) (A : Option Addr) (c : Nat) (w : World) (h : RdB w A 32 xs) :
    Calls Try.prog 33 #[.slice A 32 c] w fun e w' => e = .returned (.agg (Nm xs).toArray) ∧ Below w.heap.size w w' := by
  have HN := Aside0.mk h.1
  have HR := Aside0.mk h
  clear h
  go_enter Try.func33, Try.ntmps33
  go_wp2
  go_loopw [4] (fun i wr => ∃ k : Nat, k ≤ 32 ∧ i = .int .i64 k ∧ wr.heap[w.heap.size + 1]? = some (.cells (Nm (fillN xs 32 k)).toArray 23 (0, 0)) ∧ wr.heap[w.heap.size]? = some (.cells (Nm (List.replicate 32 0)).toArray 23 (0, 0)) ∧ Below w.heap.size w wr) (fun i _ => 32 - (intOf i).toNat)
  case atStart =>
    refine ⟨0, by omega, rfl, ?_, ?_, ?_⟩
    · exact heap_alloc2_new w _ _
    · exact heap_alloc2_old w _ _
    · exact ((Below.refl _ _).alloc (Nat.le_refl _) _).alloc (by simp) _
  case round =>
    obtain ⟨k, hk, rfl, hb1, hb0, hB⟩ := hrel
    by_cases hlt : k < 32
    · obtain ⟨ad, e, hx⟩ := Kd.at_int (Kd.C_below HR.out hB) (k : Int) (by omega) (by omega)
      subst e
      rw [Int.toNat_natCast] at hx
      have hlen : (Nm (fillN xs 32 k)).toArray.size = 32 := by rw [List.size_toArray, Nm_len, fillN_len (by omega) (by rw [HN.out]; exact Nat.le_refl _)]
      have hc : wr.cell? ⟨w.heap.size + 1, k, none⟩ = some ((Nm (fillN xs 32 k)).toArray[k]'(by omega)) := by rw [blk_cell hb1, Array.getElem?_eq_getElem (by omega)]
      have hf : wr.frozen? ⟨w.heap.size + 1, k, none⟩ = false := blk_frozen hb1 _
      have HS : Aside0 (∀ v, v = Value.int .u8 (rd xs k) → (wr.setCell ⟨w.heap.size + 1, k, none⟩ v).heap[w.heap.size + 1]? = some (.cells (Nm (fillN xs 32 (k + 1))).toArray 23 (0, 0))) := ⟨by
        rintro v rfl
        rw [blk_set hb1 k, Nm_set, fillN_set hlt (by rw [HN.out]; exact Nat.le_refl _)]⟩
      have HZ : Aside0 (∀ v, (wr.setCell ⟨w.heap.size + 1, k, none⟩ v).heap[w.heap.size]? = some (.cells (Nm (List.replicate 32 0)).toArray 23 (0, 0)) ∧ Below w.heap.size w (wr.setCell ⟨w.heap.size + 1, k, none⟩ v)) := ⟨fun v =>
        ⟨blk_far hb0 (by simp) v, hB.setCell (show w.heap.size ≤ w.heap.size + 1 by omega) v⟩⟩
      generalize (Nm (fillN xs 32 k)).toArray[k]'(by omega) = old at *
      generalize hrk : rd xs k = x at *
      clear hb1 hb0 hB hlen
      go_wp2
      go_roundw
      case rel => exact ⟨k + 1, by omega, by go_num, HS.out _ rfl, (HZ.out _).1, (HZ.out _).2⟩
      case measure => simp [intOf]; omega
    · obtain rfl : k = 32 := by omega
      have eF : fillN xs 32 32 = xs := by
        unfold fillN
        rw [List.take_of_length_le (by rw [HN.out]; exact Nat.le_refl _)]
        simp
      rw [eF] at hb1
      have hi : (Try.prog.info? 23).map (·.size) = some 32 := by kernel_rfl
      have hu : Try.prog.underlying 23 = some (.array 32 5) := Try.underlying23
      have hld := ld_row (P := Try.prog) hb1 23 _ hu rfl (by rw [hi, List.size_toArray, Nm_len, HN.out])
      have hst := st_row (P := Try.prog) hb0 23 (Nm xs) (by rw [List.size_toArray, Nm_len, Nm_len, HN.out]; rfl) (by rw [hi, Nm_len, HN.out]) (Nm_one xs)
      have hset := setBlk_cells hb0 (Nm xs) (by rw [List.size_toArray, Nm_len, Nm_len, HN.out]; rfl)
      generalize wr.setCells w.heap.size 0 (Nm xs) = w2 at *
      have H2 := Aside0.mk hset
      have HB := Aside0.mk hB
      clear hset hb1 hb0 hi hu hB
      have HLD := Aside0.mk hld
      have HST := Aside0.mk hst
      clear hld hst
      go_wp2_with (first | (refine load_arm rfl 23 (.tmp 3) rfl rfl HLD.out ?_) | (refine store_arm rfl 23 (.tmp 2) (.tmp 15) rfl rfl rfl HST.out ?_))
      (try simp only [Exit.inBlock, Exit.then])
      refine bodyPost_ret (v := .agg (Nm xs).toArray) (results_cell_row rfl _ _ w.heap.size _ _ _ _ rfl H2.out.at_ Try.underlying23 rfl ?_) rfl ⟨rfl, HB.out.trans (H2.out.below (Nat.le_refl _))⟩
      rw [show (Try.prog.info? 23).map (·.size) = some 32 from by kernel_rfl, List.size_toArray, Nm_len, HN.out]
end Go.Proofs.Ytbagphegelbgcaa
