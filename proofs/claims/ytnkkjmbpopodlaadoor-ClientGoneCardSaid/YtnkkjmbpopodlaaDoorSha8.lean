/- Contracts: sha.Sum; lighterageref01's Fill, Text, Name. Conditions: each contract's own, and what sha's table of roots holds. -/
import Derived.Test.YtnkkjmbpopodlaaDoorSha7
namespace Go.Proofs.YtnkkjmbpopodlaaDoor
open Go.RowKit Go.Proofs.YtnkkjmbpopodlaaDoorW.PrintWords Go.Proofs.YtnkkjmbpopodlaaDoorW.PrintMore
set_option linter.unusedVariables false
set_option linter.unusedSimpArgs false
set_option maxHeartbeats 800000 in
theorem psum_calls (A : Option Addr) (n c : Nat) (xs : List Int) (w : World) (h : RdB w A n xs) (hb : Bytes xs) (hk : Roots w) (hn : n ≤ 549755813888) :
    Calls Tryd.prog 44 #[.slice A n c] w fun e w' => e = .returned (.agg (Nm (shaL xs)).toArray) ∧ Below w.heap.size w w' := by
  have HX := Aside0.mk h
  have HB := Aside0.mk hb
  have HK := Aside0.mk hk
  have HLT := Aside0.mk hk.lt
  have HFAR : Aside0 (∀ g, w.heap.size ≤ g → ∀ ad, A = some ad → 0 < n → ad.block ≠ g) := ⟨fun g hg => Kd.far_C (0 : Int) h hg⟩
  obtain rfl : xs.length = n := h.1
  have hD := shaL_len xs
  have HW0 : Aside0 (∀ o : Obj, Below w.heap.size w (w.alloc o) ∧ (w.alloc o).heap.size = w.heap.size + 1 ∧ (w.alloc o).heap[w.heap.size]? = some o) := ⟨fun o => ⟨(Below.refl _ _).alloc (Nat.le_refl _) _, by simp, blk_new w o⟩⟩
  clear h hb hk
  go_enter Tryd.func44, Tryd.ntmps44
  go_wp2_with (first
    | (go_at_call 76; refine (new_calls _).mono ?_; rintro e w1 hN; obtain ⟨g, v, rfl, hg1, hg2, hS, hB1⟩ := hN; have HR1 := Aside0.mk (blk_below hB1 (HW0.out _).2.2); rw [(HW0.out _).2.1] at hg1 hS; have HS := Aside0.mk hS; have HBL := Aside0.mk (below_tr (HW0.out _).1 hB1 (HW0.out _).1.size); have HG := Aside0.mk (And.intro hg1 hg2); clear hS hB1 hg1 hg2)
    | (go_at_call 77; refine (write_calls g v [] xs A xs.length c w1 (w.heap.size + 1) HS.out (Kd.C_below HX.out HBL.out) Bytes.nil HB.out (HK.out.below HBL.out) (by have := HG.out; omega) (by simp; omega) (by omega) HG.out.1 (HFAR.out g (by have := HG.out.1; omega))).mono ?_; rintro e w2 hW; obtain ⟨v2, rfl, hS2, _, hF2⟩ := hW; have HS2 := Aside0.mk hS2; have HF2 := Aside0.mk hF2; clear hS2 hF2))
  have HQS : Aside0 (Sta w2 (w.heap.size + 1) g v2 xs) := ⟨by have := HS2.out; rwa [List.nil_append] at this⟩
  have HNS : Aside0 (¬ (w.heap.size = g ∨ some w.heap.size = v.ownBlock)) := ⟨by
    rintro (e | e)
    · have := HG.out.1
      omega
    · have := HS.out.2.ge _ e.symm
      omega⟩
  have HR2 := Aside0.mk ((HF2.out.block _ (blk_lt HR1.out) HNS.out).trans HR1.out)
  have HBL2 : Aside0 (Below w.heap.size w w2) := ⟨HBL.out.trans (HF2.out.below (fun k hk => by
    rcases hk with rfl | e
    · have := HG.out.1
      omega
    · have := HS.out.2.ge _ e.symm
      omega) HBL.out.size)⟩
  refine (sumS_calls g v2 xs (w.heap.size + 1) w2 HQS.out HB.out (HK.out.below HBL2.out) hn).mono ?_
  rintro e w3 ⟨rfl, hB3⟩
  have HR3 := Aside0.mk (blk_below hB3 HR2.out)
  have HB3 := Aside0.mk (below_tr HBL2.out hB3 HBL2.out.size)
  clear hB3
  go_wp2_with (first | ((with_reducible refine at_st 40 (.tmp 2) (.tmp 9) ?_); refine store_blk rfl 40 (.tmp 2) (.tmp 9) rfl rfl rfl HR3.out (by rw [Nm_len, hD]; rfl) (size_d _ hD) (Nm_one _) ?_; rintro w4 HS4))
  (try simp only [Exit.inBlock, Exit.then])
  refine bodyPost_ret (v := .agg (Nm (shaL xs)).toArray) (results_cell_row rfl _ _ w.heap.size _ _ _ _ rfl HS4.at_ Tryd.underlying40 rfl ?_) rfl ⟨rfl, HB3.out.trans (HS4.below (Nat.le_refl _))⟩
  rw [size_d _ hD, List.size_toArray]
def FillInv (m : Nat) (w : World) (v i : Value) (wr : World) : Prop := ∃ (k : Nat) (ys : List Int), k ≤ m ∧ i = .int .i64 k ∧ OwB wr w.heap.size v ys ∧ Bytes ys ∧ ys.length = k ∧ Below w.heap.size w wr
end Go.Proofs.YtnkkjmbpopodlaaDoor
