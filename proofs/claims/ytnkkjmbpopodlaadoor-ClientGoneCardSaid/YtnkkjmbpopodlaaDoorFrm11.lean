/- Contract: lighterageref06.Seal. Conditions: its own. -/
import Derived.Test.YtnkkjmbpopodlaaDoorG10
import Derived.Test.YtnkkjmbpopodlaaDoorG11
import Derived.Test.YtnkkjmbpopodlaaDoorLz12
namespace Go.Proofs.YtnkkjmbpopodlaaDoor
open Go.RowKit Go.Shelf Go.Proofs.YtnkkjmbpopodlaaDoorW.PrintWords Go.Proofs.YtnkkjmbpopodlaaDoorW.PrintMore
set_option linter.unusedVariables false
set_option linter.unusedSimpArgs false
set_option maxRecDepth 20000 in
set_option maxHeartbeats 1600000 in
theorem rseal_calls (A : Option Addr) (N c : Nat) (b : List Int) (w : World) (h : RdB w A N b) (hb : Bytes b) (hcN : N ≤ c) (hN : N ≤ 1073741824) :
    Calls Tryd.prog 13 #[.slice A N c] w fun e w' => ∃ v, e = .returned v ∧ OwB w' w.heap.size v (sealL b) ∧ Below w.heap.size w w' := by
  obtain rfl : b.length = N := h.1
  have HX := Aside0.mk h
  clear h
  have HPL := Aside0.mk (pack_len b)
  have H6 : ∀ n : Nat, ([76, 0] ++ le32 n : List Int).length = 6 := fun n => by simp [le32]
  have H6 := Aside0.mk H6
  by_cases hs : (packL b).length < b.length
  · have hsI : ((packL b).length : Int) < (b.length : Int) := by omega
    go_enter Tryd.func13, Tryd.ntmps13
    go_wp2_with (first
      | (go_at_call 35; (with_reducible refine at_cw w ?_); refine (rpack_calls A b.length c b w HX.out hb hcN (by omega)).mono ?_; rintro e w1 ⟨v, rfl, hm⟩; obtain ⟨AP, cP, rfl, hcP, hrP⟩ := hm.own.reads; have L1 : Aside0 (Later w w1) := ⟨hm.below⟩; have R_P := Aside0.mk hrP; clear hm hrP)
      | (go_at_call 36; (with_reducible refine (rnumber_calls b.length (by omega) _).mono ?_); rintro e w2 ⟨rfl, rfl⟩)
      | (at_builtin; refine appBs (w0 := w1) w1.heap.size rfl (.tmp 8) (.tmp 11) rfl (.slice (some ⟨w1.heap.size, 0, none⟩) 2 2) [76, 0] (le32 b.length) (some ⟨w1.heap.size + 1, 0, none⟩) 4 4 rfl rfl (OwB.below (own_litB w1 w1.heap.size [76, 0] _ 2 rfl rfl (Nat.le_refl _) (by simp)) (below_alloc (Later.refl _) _)) (rd_lit2 (by simp) (le32 b.length) _ _ 4 rfl rfl (by simp [le32])) (below_alloc (below_alloc (Later.refl w1) _) _) (by simp; omega) (by simp) ?_; intro v3 w3 hO3 hB3 _ _; obtain ⟨g, cap, rfl, hg, _⟩ := hO3.place (by rw [H6.out]; omega); rw [H6.out] at hO3; rw [H6.out]; have hc1 := hO3.cell 1 (by omega) (by rw [H6.out]; omega); rw [show (1 : Int).toNat = 1 from rfl] at hc1; obtain ⟨hc1, hf1⟩ := hc1; have hO4 : OwB (w3.setCell ⟨g, 1, none⟩ (.int .u8 1)) w1.heap.size (.slice (some ⟨g, 0, none⟩) 6 cap) ([76, 1] ++ le32 b.length) := hO3.store 1 1; have hB4 := hB3.setCell (p := ⟨g, 1, none⟩) hg (.int .u8 1); have HO3 := Aside0.mk hO4; have HB3 := Aside0.mk hB4; have R_P3 := Aside0.mk (Kd.C_below R_P.out hB4); clear hO3 hB3 hO4 hB4)
      | (at_builtin; refine appBs (w0 := w1) w1.heap.size rfl (.tmp 20) (.tmp 21) rfl (.slice (some ⟨g, 0, none⟩) 6 cap) ([76, 1] ++ le32 b.length) (packL b) AP _ cP rfl rfl HO3.out R_P3.out HB3.out HB3.out.size (by have := HPL.out; simp [le32]; omega) ?_; intro v4 w4 hO4 hB4 _ _; have HO4 := Aside0.mk hO4; have HB4 := Aside0.mk hB4; have L4 : Aside0 (Later w w4) := ⟨below_tr' L1.out hB4⟩; clear hO4 hB4)
      | (go_at_call 37; (with_reducible refine at_cw w4 ?_); refine (rsum6_calls A b.length c b w4 (Kd.C_below HX.out L4.out) hb (by omega)).mono ?_; rintro e w5 ⟨B5, d5, rfl, hr5, hB⟩; have L5 : Aside0 (Later w4 w5) := ⟨hB⟩; have R_5 := Aside0.mk hr5; clear hB hr5)
      | (at_builtin; refine appBs (w0 := w1) w1.heap.size rfl (.tmp 26) (.tmp 28) rfl v4 ([76, 1] ++ le32 b.length ++ (packL b)) (le32 (crc 0 b)) B5 4 d5 rfl rfl (OwB.below HO4.out L5.out) R_5.out (below_tr HB4.out L5.out HB4.out.size) (Nat.le_trans HB4.out.size (Later.size L5.out)) (by have := HPL.out; simp [le32]; omega) ?_; intro v6 w6 hO6 hB6 _ _; have HO6 := Aside0.mk hO6; have HB6 := Aside0.mk hB6; clear hO6 hB6))
    (try simp only [Exit.inBlock, Exit.then])
    refine bodyPost_ret (results_tmp rfl _ _ _) rfl ⟨v6, rfl, ?_, below_tr' L1.out HB6.out⟩
    have : sealL b = [76, 1] ++ le32 b.length ++ (packL b) ++ le32 (crc 0 b) := by unfold sealL sealM sealB isP; simp [hs]
    rw [this]
    exact Kd.R_lower HO6.out (Later.size L1.out)
  · have hsI : ¬ ((packL b).length : Int) < (b.length : Int) := by omega
    go_enter Tryd.func13, Tryd.ntmps13
    go_wp2_with (first
      | (go_at_call 35; (with_reducible refine at_cw w ?_); refine (rpack_calls A b.length c b w HX.out hb hcN (by omega)).mono ?_; rintro e w1 ⟨v, rfl, hm⟩; obtain ⟨AP, cP, rfl, hcP, hrP⟩ := hm.own.reads; have L1 : Aside0 (Later w w1) := ⟨hm.below⟩; have R_P := Aside0.mk hrP; clear hm hrP)
      | (go_at_call 36; (with_reducible refine (rnumber_calls b.length (by omega) _).mono ?_); rintro e w2 ⟨rfl, rfl⟩)
      | (at_builtin; refine appBs (w0 := w1) w1.heap.size rfl (.tmp 8) (.tmp 11) rfl (.slice (some ⟨w1.heap.size, 0, none⟩) 2 2) [76, 0] (le32 b.length) (some ⟨w1.heap.size + 1, 0, none⟩) 4 4 rfl rfl (OwB.below (own_litB w1 w1.heap.size [76, 0] _ 2 rfl rfl (Nat.le_refl _) (by simp)) (below_alloc (Later.refl _) _)) (rd_lit2 (by simp) (le32 b.length) _ _ 4 rfl rfl (by simp [le32])) (below_alloc (below_alloc (Later.refl w1) _) _) (by simp; omega) (by simp) ?_; intro v3 w3 hO3 hB3 _ _; obtain ⟨g, cap, rfl, hg, _⟩ := hO3.place (by rw [H6.out]; omega); rw [H6.out] at hO3; rw [H6.out]; have hO4 := hO3; have hB4 := hB3; have HO3 := Aside0.mk hO4; have HB3 := Aside0.mk hB4; have R_P3 := Aside0.mk (Kd.C_below HX.out (below_tr' L1.out hB4)); clear hO3 hB3 hO4 hB4)
      | (at_builtin; refine appBs (w0 := w1) w1.heap.size rfl (.tmp 23) (.tmp 24) rfl (.slice (some ⟨g, 0, none⟩) 6 cap) ([76, 0] ++ le32 b.length) (b) A _ c rfl rfl HO3.out R_P3.out HB3.out HB3.out.size (by have := HPL.out; simp [le32]; omega) ?_; intro v4 w4 hO4 hB4 _ _; have HO4 := Aside0.mk hO4; have HB4 := Aside0.mk hB4; have L4 : Aside0 (Later w w4) := ⟨below_tr' L1.out hB4⟩; clear hO4 hB4)
      | (go_at_call 37; (with_reducible refine at_cw w4 ?_); refine (rsum6_calls A b.length c b w4 (Kd.C_below HX.out L4.out) hb (by omega)).mono ?_; rintro e w5 ⟨B5, d5, rfl, hr5, hB⟩; have L5 : Aside0 (Later w4 w5) := ⟨hB⟩; have R_5 := Aside0.mk hr5; clear hB hr5)
      | (at_builtin; refine appBs (w0 := w1) w1.heap.size rfl (.tmp 26) (.tmp 28) rfl v4 ([76, 0] ++ le32 b.length ++ (b)) (le32 (crc 0 b)) B5 4 d5 rfl rfl (OwB.below HO4.out L5.out) R_5.out (below_tr HB4.out L5.out HB4.out.size) (Nat.le_trans HB4.out.size (Later.size L5.out)) (by have := HPL.out; simp [le32]; omega) ?_; intro v6 w6 hO6 hB6 _ _; have HO6 := Aside0.mk hO6; have HB6 := Aside0.mk hB6; clear hO6 hB6))
    (try simp only [Exit.inBlock, Exit.then])
    refine bodyPost_ret (results_tmp rfl _ _ _) rfl ⟨v6, rfl, ?_, below_tr' L1.out HB6.out⟩
    have : sealL b = [76, 0] ++ le32 b.length ++ (b) ++ le32 (crc 0 b) := by unfold sealL sealM sealB isP; simp [hs]
    rw [this]
    exact Kd.R_lower HO6.out (Later.size L1.out)
end Go.Proofs.YtnkkjmbpopodlaaDoor
