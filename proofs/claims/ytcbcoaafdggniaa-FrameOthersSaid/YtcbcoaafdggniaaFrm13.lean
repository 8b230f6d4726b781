/- The laws of layer 6: their example; FrameMost: its walk. Conditions: what each argument reads. -/
import Derived.Test.YtcbcoaafdggniaaGiven
import Derived.Test.YtcbcoaafdggniaaFrmP
import Derived.Test.YtcbcoaafdggniaaFrm10
import Derived.Test.YtcbcoaafdggniaaG2
import Derived.Lib.SlBytesConst
namespace Go.Proofs.Ytcbcoaafdggniaa
open Go.RowKit Go.Shelf Go.Proofs.YtcbcoaafdggniaaW.PrintWords Go.Proofs.YtcbcoaafdggniaaW.PrintMore
set_option linter.unusedVariables false
set_option linter.unusedSimpArgs false
theorem lives_val : sealL [] = [76, 0, 0, 0, 0, 0, 0, 0, 0, 0] := by decide +kernel
theorem lives_calls (w : World) : Calls Try.prog 15 #[] w fun e w' => e = .returned (.bool true) ∧ Below w.heap.size w w' := by
  have hbe : ((strOfNums [76, 0, 0, 0, 0, 0, 0, 0, 0, 0]).toList == ([76, 0, 0, 0, 0, 0, 0, 0, 0, 0] : List UInt8)) = true := by decide +kernel
  go_enter Try.func15, Try.ntmps15
  go_wp2_with (first
    | (go_at_call 10; refine (seal_calls none 0 0 [] w (Kd.C_nil _ _) (fun h => absurd h (by omega)) Bytes.nil (by omega) (by omega)).mono ?_; rintro e w2 ⟨v, rfl, hO, hB⟩; rw [lives_val] at hO; obtain ⟨A, c, rfl, hc, hr⟩ := hO.reads; have hcs : (convert 22 9 (.slice A 10 c)).run Try.prog w2 = .ok (.string (strOfNums [76, 0, 0, 0, 0, 0, 0, 0, 0, 0])) w2 := conv_str hr c; have HB := Aside0.mk hB; clear hO hB hr))
  go_ret
  exact ⟨rfl, HB.out⟩
theorem open_cases (M : List Int) (m : Nat) (hM : M.length < 4294967296) : ((m : Int) < (M.length : Int) ∧ openL (m : Int) (sealL M) = ⟨[], 3⟩) ∨ (¬ (m : Int) < (M.length : Int) ∧ openL (m : Int) (sealL M) = ⟨M, 0⟩) := by
  rw [open_seal _ hM]
  by_cases h : (m : Int) < (M.length : Int)
  · exact .inl ⟨h, by rw [if_pos h]⟩
  · exact .inr ⟨h, by rw [if_neg h]⟩
set_option maxRecDepth 20000 in
set_option maxHeartbeats 1600000 in
theorem frameMost_walk (A2 : Option Addr) (n2 c2 : Nat) (xl : List Int) (most : Int) (w : World) (h2 : RdN w A2 n2 xl) (hm0 : -9223372036854775808 ≤ most) (hm1 : most ≤ 9223372036854775807) :
    Calls Try.prog 6 #[.slice A2 n2 c2, .int .i64 most] w fun e w' => e = .returned (.bool true) ∧ Below w.heap.size w w' := by
  have H2 := Aside0.mk h2
  have hac := fun (w : World) => around_calls most 321 w hm0 hm1 (by omega) (by omega)
  obtain ⟨hr0, hr1⟩ := around_range most 321 (by omega)
  obtain ⟨m, hm⟩ := Int.eq_ofNat_of_zero_le hr0
  rw [hm] at hr1
  simp only [hm] at hac
  have HAC := Aside0.mk hac
  clear h2 hac hr0 hm hm0 hm1
  go_enter Try.func6, Try.ntmps6
  go_wp2_with (first
    | (go_at_call 9; (with_reducible refine at_cw w ?_); refine (made_calls A2 n2 c2 xl w H2.out).mono ?_; rintro e w1 ⟨BM, dM, M, rfl, hby, O_M, hdM, hlM, R_M, hB⟩; have L1 : Aside0 (Later w w1) := ⟨hB⟩; have Y_M := Aside0.mk hby; clear hB hby; rcases open_cases M m (by omega) with ⟨hlt, hu⟩ | ⟨hlt, hu⟩ <;> have HU := Aside0.mk hu <;> clear hu)
    | (go_at_call 16; (with_reducible refine at_cw w1 ?_); refine (HAC.out w1).mono ?_; rintro e u0 ⟨rfl, rfl⟩)
    | (go_at_call 10; (with_reducible refine at_cw w1 ?_); refine (seal_calls BM M.length dM M w1 R_M.out (OwB.gv O_M.out Y_M.out hlM).at_ Y_M.out hdM (by omega)).mono ?_; rintro e w2 ⟨v, rfl, hO, hB⟩; obtain ⟨AP, cP, rfl, hcP, hrP⟩ := hO.reads; have L2 : Aside0 (Later w1 w2) := ⟨hB⟩; have R_P := Aside0.mk hrP; clear hO hB hrP)
    | (go_at_call 11; (with_reducible refine at_cw w2 ?_); refine (open_calls AP (sealL M).length cP (sealL M) (m : Int) w2 R_P.out (seal_bytes Y_M.out) hcP (by have := seal_len M; have := sealB_le M; omega)).mono ?_; rw [HU.out]; rintro e w3 hp; obtain ⟨AX, dX, rfl, _, hrX, hbX, hdX, hB⟩ := hp.get; have L3 : Aside0 (Later w2 w3) := ⟨hB⟩; have hs1 := conv_str hrX dX; have hs2 := conv_str (Kd.C_below R_M.out (Later.trans L2.out L3.out)) dM; clear hp hB hrX)
    | (go_at_call 15; (with_reducible refine at_cw w3 ?_); refine (lives_calls w3).mono ?_; rintro e w4 ⟨rfl, hB⟩; have L4 : Aside0 (Later w3 w4) := ⟨hB⟩; clear hB))
  all_goals (try simp only [Exit.inBlock, Exit.then])
  all_goals (refine bodyPost_ret (results_tmp rfl _ _ _) rfl ?_)
  all_goals exact ⟨rfl, (Later.trans (Later.trans (Later.trans L1.out L2.out) L3.out) L4.out)⟩
end Go.Proofs.Ytcbcoaafdggniaa
