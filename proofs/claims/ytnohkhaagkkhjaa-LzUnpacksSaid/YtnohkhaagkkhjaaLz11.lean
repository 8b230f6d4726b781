/- The law LzMost: its walk. Conditions: what each argument reads. -/
import Derived.Test.YtnohkhaagkkhjaaLz10
import Derived.Test.YtnohkhaagkkhjaaLzUn3
namespace Go.Proofs.Ytnohkhaagkkhjaa
open Go.RowKit Go.Shelf Go.Proofs.YtnohkhaagkkhjaaW.PrintWords Go.Proofs.YtnohkhaagkkhjaaW.PrintMore
set_option linter.unusedVariables false
set_option linter.unusedSimpArgs false
theorem UnPost.get {w w' : World} {X : List Int} {E : Int} {e : Ending} (h : UnPost w ⟨X, E⟩ e w') : ∃ A d, e = .returned (.tuple #[.slice A X.length d, .int .i64 E]) ∧ OwB w' w.heap.size (.slice A X.length d) X ∧ RdB w' A X.length X ∧ Bytes X ∧ X.length ≤ d ∧ Below w.heap.size w w' := by
  obtain ⟨⟨v, he, hO, hb⟩, hB⟩ := h
  obtain ⟨A, d, rfl, hd, hr⟩ := hO.reads
  exact ⟨A, d, he, hO, hr, hb, hd, hB⟩
theorem most_cases (M : List Int) (m : Nat) : ((m : Int) < (M.length : Int) ∧ unp (m : Int) (packL M) = ⟨[], 3⟩) ∨ (¬ (m : Int) < (M.length : Int) ∧ unp (m : Int) (packL M) = ⟨M, 0⟩) := by
  rw [unp_pack _ (by omega)]
  by_cases h : (m : Int) < (M.length : Int)
  · exact .inl ⟨h, by rw [if_neg (by omega)]⟩
  · exact .inr ⟨h, by rw [if_pos (by omega)]⟩
set_option maxRecDepth 20000 in
set_option maxHeartbeats 1600000 in
theorem lzMost_walk (A2 : Option Addr) (n2 c2 : Nat) (xl : List Int) (most : Int) (w : World) (h2 : RdN w A2 n2 xl) (hm0 : -9223372036854775808 ≤ most) (hm1 : most ≤ 9223372036854775807) :
    Calls Try.prog 5 #[.slice A2 n2 c2, .int .i64 most] w fun e w' => e = .returned (.bool true) ∧ Below w.heap.size w w' := by
  have H2 := Aside0.mk h2
  have hac := fun (w : World) => around_calls most 321 w hm0 hm1 (by omega) (by omega)
  obtain ⟨hr0, hr1⟩ := around_range most 321 (by omega)
  obtain ⟨m, hm⟩ := Int.eq_ofNat_of_zero_le hr0
  rw [hm] at hr1
  simp only [hm] at hac
  have HAC := Aside0.mk hac
  clear h2 hac hr0 hm hm0 hm1
  go_enter Try.func5, Try.ntmps5
  go_wp2_with (first
    | (go_at_call 10; (with_reducible refine at_cw w ?_); refine (made_calls A2 n2 c2 xl w H2.out).mono ?_; rintro e w1 ⟨BM, dM, M, rfl, hby, O_M, hdM, hlM, R_M, hB⟩; have L1 : Aside0 (Later w w1) := ⟨hB⟩; have Y_M := Aside0.mk hby; clear hB hby; rcases most_cases M m with ⟨hlt, hu⟩ | ⟨hlt, hu⟩ <;> have HU := Aside0.mk hu <;> clear hu)
    | (go_at_call 17; (with_reducible refine at_cw w1 ?_); refine (HAC.out w1).mono ?_; rintro e u0 ⟨rfl, rfl⟩)
    | (go_at_call 14; (with_reducible refine at_cw w1 ?_); refine (pack_calls BM M.length dM M w1 R_M.out (OwB.gv O_M.out Y_M.out hlM).at_ Y_M.out hdM (by omega)).mono ?_; rintro e w2 ⟨v, rfl, hQ, hB⟩; obtain ⟨AP, cP, rfl, hcP, hrP⟩ := hQ.reads; have L2 : Aside0 (Later w1 w2) := ⟨hB⟩; have R_P := Aside0.mk hrP; clear hQ hB hrP)
    | (go_at_call 15; (with_reducible refine at_cw w2 ?_); refine (unpack_calls AP (packL M).length cP (packL M) (m : Int) w2 R_P.out (packL_bytes Y_M.out) hcP (by have := pack_len M; omega)).mono ?_; rw [HU.out]; rintro e w3 hp; obtain ⟨AX, dX, rfl, _, hrX, hbX, hdX, hB⟩ := hp.get; have L3 : Aside0 (Later w2 w3) := ⟨hB⟩; have hs1 := conv_str hrX dX; have hs2 := conv_str (Kd.C_below R_M.out (Later.trans L2.out L3.out)) dM; clear hp hB hrX)
    | (go_at_call 13; (with_reducible refine at_cw w3 ?_); refine (lives_calls w3).mono ?_; rintro e w4 ⟨rfl, hB⟩; have L4 : Aside0 (Later w3 w4) := ⟨hB⟩; clear hB))
  all_goals (try simp only [Exit.inBlock, Exit.then])
  all_goals (refine bodyPost_ret (results_tmp rfl _ _ _) rfl ?_)
  all_goals exact ⟨rfl, (Later.trans (Later.trans (Later.trans L1.out L2.out) L3.out) L4.out)⟩
end Go.Proofs.Ytnohkhaagkkhjaa
