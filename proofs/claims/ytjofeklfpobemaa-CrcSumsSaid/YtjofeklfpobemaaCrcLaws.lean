/- The walks of the laws over crc. Conditions: what each argument reads. -/
import Derived.Test.YtjofeklfpobemaaRef03
namespace Go.Proofs.Ytjofeklfpobemaa
open Go.RowKit Go.Proofs.YtjofeklfpobemaaW.PrintWords Go.Proofs.YtjofeklfpobemaaW.PrintMore
set_option linter.unusedVariables false
set_option linter.unusedSimpArgs false

theorem lives_val : crc 0 [49, 50, 51, 52, 53, 54, 55, 56, 57] = 3808858755 := by decide +kernel
theorem lives_calls (w : World) : Calls Try.prog 13 #[] w fun e w' => e = .returned (.bool true) ∧ Below w.heap.size w w' := by
  have kc := fun (w : World) (C : Array Value) (n c : Nat) => Lib.run_convert_bytes_const (P := Try.prog) w 22 5 C n c Try.underlying22 Try.underlying5
  have hb : Bytes [49, 50, 51, 52, 53, 54, 55, 56, 57] := by intro x hx; simp at hx; omega
  go_enter Try.func13, Try.ntmps13
  go_wp2_with (go_at_call 10; refine (sum_calls _ _ _ [49, 50, 51, 52, 53, 54, 55, 56, 57] _ (rd_lit w _ _ _ _ rfl rfl (by simp)) hb).mono ?_; rw [lives_val]; rintro e w' ⟨rfl, hB⟩)
  go_ret
  exact ⟨rfl, below_tr' ((Below.refl _ _).alloc (Nat.le_refl _) _) hB⟩

theorem crcSums_walk (A : Option Addr) (n c : Nat) (xs : List Int) (s : Int) (w : World) (h : RdB w A n xs) (hc : n ≤ c) (hb : Bytes xs) (h0 : 0 ≤ s) (h1 : s < 4294967296) :
    Calls Try.prog 3 #[.slice A n c, .int .u32 s] w fun e w' => e = .returned (.bool true) ∧ Below w.heap.size w w' := by
  have H := Aside0.mk h
  clear h
  go_enter Try.func3, Try.ntmps3
  go_wp2_with fail
  refine (few_calls A n c xs 60 _ H.out hc (by omega) (by omega)).mono ?_
  rintro e w1 ⟨v, rfl, hO, hB1⟩
  obtain ⟨B, d, rfl, hd, hr⟩ := OwB.reads hO
  have hb1 := hb.take (60 : Int).toNat
  generalize hys : xs.take (60 : Int).toNat = ys at *
  have HR := Aside0.mk hr
  clear hys hO hr
  go_wp2_with (first
    | (go_at_call 10; with_reducible refine (sum_calls _ _ _ ys _ HR.out hb1).mono ?_; rintro e w2 ⟨rfl, hB2⟩)
    | (go_at_call 11; with_reducible refine (rmore_calls 0 _ _ _ ys _ (Kd.C_below HR.out hB2) hb1 (by omega) (by omega)).mono ?_; rintro e w3 ⟨rfl, rfl⟩)
    | (go_at_call 12; with_reducible refine (more_calls s _ _ _ ys _ (Kd.C_below HR.out hB2) hb1 h0 h1).mono ?_; rintro e w3 ⟨rfl, hB3⟩)
    | (go_at_call 11; with_reducible refine (rmore_calls s _ _ _ ys _ (Kd.C_below (Kd.C_below HR.out hB2) hB3) hb1 h0 h1).mono ?_; rintro e w4 ⟨rfl, rfl⟩)
    | (go_at_call 13; with_reducible refine (lives_calls _).mono ?_; rintro e w5 ⟨rfl, hB5⟩))
  go_ret
  exact ⟨rfl, below_tr' hB1 (below_tr' hB2 (below_tr' hB3 hB5))⟩
end Go.Proofs.Ytjofeklfpobemaa
