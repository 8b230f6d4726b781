/- lives; the laws RollWords, RollHashes: their walks. Conditions: none. -/
import Derived.Test.YteknkhiibilbcaaRoll7
import Derived.Test.YteknkhiibilbcaaBuf
namespace Go.Proofs.Yteknkhiibilbcaa
open Go.RowKit Go.Proofs.YteknkhiibilbcaaW.PrintWords Go.Proofs.YteknkhiibilbcaaW.PrintMore
set_option linter.unusedVariables false
set_option linter.unusedSimpArgs false
theorem b0_ne : (bword 0 != 0) = true := by decide +kernel
theorem b78_ne : (bword 7 != bword 8) = true := by decide +kernel
theorem hov_7 : hov [7] = bword 7 := by decide +kernel
set_option maxRecDepth 20000 in
theorem lives_calls (w : World) : Calls Try.prog 12 #[] w fun e w' => e = .returned (.bool true) ∧ Below w.heap.size w w' := by
  have hb7 : Bytes [7] := Bytes.one (by omega) (by omega)
  have h0 := b0_ne
  have h78 := b78_ne
  have H7 := Aside0.mk hov_7
  generalize hv0 : bword 0 = v0 at *
  generalize hv7 : bword 7 = v7 at *
  generalize hv8 : bword 8 = v8 at *
  have H0 := Aside0.mk hv0
  have HV7 := Aside0.mk hv7
  have HV8 := Aside0.mk hv8
  clear hv0 hv7 hv8
  go_enter Try.func12, Try.ntmps12
  have HN := Aside0.mk hov_nil
  go_wp2_with (first
    | (go_at_call 9; (with_reducible refine at_cw w ?_); refine (rword_calls 0 w (by omega) (by omega)).mono ?_; rw [H0.out]; rintro e w1 ⟨rfl, hB⟩; have Z1 := Aside0.mk hB; clear hB)
    | (go_at_call 11; (with_reducible refine at_cw w1 ?_); refine (rhash_calls none 0 0 [] w1 (Kd.C_nil _ _) Bytes.nil (by omega)).mono ?_; rw [HN.out]; rintro e w2 ⟨rfl, hB⟩; have Z2 := Aside0.mk (below_tr Z1.out hB Z1.out.size); clear hB)
    | (go_at_call 11; refine (rhash_calls (some ⟨w2.heap.size, 0, none⟩) 1 1 [7] _ (rd_lit w2 _ _ _ _ rfl rfl (by simp)) hb7 (by omega)).mono ?_; rw [H7.out]; rintro e w3 ⟨rfl, hB⟩; have Z3 := Aside0.mk (below_tr ((Z2.out).alloc Z2.out.size _) hB ((Z2.out).alloc Z2.out.size _).size); clear hB)
    | (go_at_call 9; (with_reducible refine at_cw w3 ?_); refine (rword_calls 7 w3 (by omega) (by omega)).mono ?_; rw [HV7.out]; rintro e w4 ⟨rfl, hB⟩; have Z4 := Aside0.mk (below_tr Z3.out hB Z3.out.size); clear hB)
    | (go_at_call 9; (with_reducible refine at_cw w4 ?_); refine (rword_calls 7 w4 (by omega) (by omega)).mono ?_; rw [HV7.out]; rintro e w5 ⟨rfl, hB⟩; have Z5 := Aside0.mk (below_tr Z4.out hB Z4.out.size); clear hB)
    | (go_at_call 9; (with_reducible refine at_cw w5 ?_); refine (rword_calls 8 w5 (by omega) (by omega)).mono ?_; rw [HV8.out]; rintro e w6 ⟨rfl, hB⟩; have Z6 := Aside0.mk (below_tr Z5.out hB Z5.out.size); clear hB))
  go_ret
  exact ⟨rfl, Z6.out⟩
theorem rollWords_walk (c : Int) (w : World) (h0 : 0 ≤ c) (h1 : c < 256) :
    Calls Try.prog 3 #[.int .u8 c] w fun e w' => e = .returned (.bool true) ∧ Below w.heap.size w w' := by
  have hbc : Bytes [c] := Bytes.one h0 h1
  have HC : Aside0 (hov [c] = bword c) := ⟨by
    show xr (rls (bword c) 0) 0 = _
    exact xr_zero' (bword_range c)⟩
  generalize hv : bword c = v at *
  have HV := Aside0.mk hv
  clear hv
  go_enter Try.func3, Try.ntmps3
  go_wp2_with (first
    | (go_at_call 9; (with_reducible refine at_cw w ?_); refine (rword_calls c w h0 h1).mono ?_; rw [HV.out]; rintro e w1 ⟨rfl, hB⟩; have Z1 := Aside0.mk hB; clear hB)
    | (go_at_call 10; (with_reducible refine at_cw w1 ?_); refine (pword_calls c w1 h0 h1).mono ?_; rw [HV.out]; rintro e w2 ⟨rfl, rfl⟩)
    | (go_at_call 11; refine (rhash_calls (some ⟨w1.heap.size, 0, none⟩) 1 1 [c] _ (rd_lit w1 _ _ _ _ rfl rfl (by simp)) hbc (by omega)).mono ?_; rw [HC.out]; rintro e w3 ⟨rfl, hB⟩; have Z3 := Aside0.mk (below_tr ((Z1.out).alloc Z1.out.size _) hB ((Z1.out).alloc Z1.out.size _).size); clear hB)
    | (go_at_call 10; (with_reducible refine at_cw w3 ?_); refine (pword_calls c w3 h0 h1).mono ?_; rw [HV.out]; rintro e w4 ⟨rfl, rfl⟩)
    | (go_at_call 12; refine (lives_calls w3).mono ?_; rintro e w5 ⟨rfl, hB5⟩))
  go_ret
  exact ⟨rfl, below_tr Z3.out hB5 Z3.out.size⟩
theorem rollHashes_walk (A : Option Addr) (n c : Nat) (xs : List Int) (w : World) (h : RdB w A n xs) (hc : n ≤ c) (hb : Bytes xs) :
    Calls Try.prog 4 #[.slice A n c] w fun e w' => e = .returned (.bool true) ∧ Below w.heap.size w w' := by
  have HX := Aside0.mk h
  clear h
  go_enter Try.func4, Try.ntmps4
  go_wp2_with (first
    | (go_at_call 13; refine (few_new A n c xs 40 w HX.out hc hb (by omega) (by omega)).mono ?_; rintro e w1 ⟨B, d, ys, rfl, hY, hby, hO1, hd, hyl, hR1, hB1⟩; have Z1 := Aside0.mk hB1; have HY := Aside0.mk (And.intro hby (show ys.length ≤ 40 from hyl)); clear hB1 hby hyl)
    | (go_at_call 11; (with_reducible refine at_cw w1 ?_); refine (rhash_calls B ys.length d ys w1 hR1.out HY.out.1 (by have := HY.out.2; omega)).mono ?_; rintro e w2 ⟨rfl, hB⟩; have Z2 := Aside0.mk (below_tr Z1.out hB Z1.out.size); have R2 := Aside0.mk (Kd.C_below hR1.out hB); clear hB)
    | (go_at_call 14; (with_reducible refine at_cw w2 ?_); refine (phash_calls B ys.length d ys w2 R2.out HY.out.1 (by have := HY.out.2; omega)).mono ?_; rintro e w3 ⟨rfl, hB⟩; have Z3 := Aside0.mk (below_tr Z2.out hB Z2.out.size); clear hB)
    | (go_at_call 12; refine (lives_calls w3).mono ?_; rintro e w5 ⟨rfl, hB5⟩))
  go_ret
  exact ⟨rfl, below_tr Z3.out hB5 Z3.out.size⟩
end Go.Proofs.Yteknkhiibilbcaa
