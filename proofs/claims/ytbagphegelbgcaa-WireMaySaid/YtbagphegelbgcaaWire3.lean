/- Contracts: lives; lighterageref18.Read, wire.Read, Same, Answer. Conditions: each contract's own. -/
import Derived.Test.YtbagphegelbgcaaWire2
namespace Go.Proofs.Ytbagphegelbgcaa
open Go.RowKit Go.Proofs.YtbagphegelbgcaaW.PrintWords Go.Proofs.YtbagphegelbgcaaW.PrintMore
set_option linter.unusedVariables false
set_option linter.unusedSimpArgs false
theorem Z32_len : Z32.length = 32 := rfl
theorem Z32_bytes : Bytes Z32 := by
  intro x hx
  have := (List.mem_replicate.1 hx).2
  omega

/-- lives: the document's example. -/
theorem lives_calls (w : World) : Calls Try.prog 17 #[] w fun e w' => e = .returned (.bool true) ∧ Below w.heap.size w w' := by
  go_enter Try.func17, Try.ntmps17
  go_wp2_with (first
    | ((with_reducible refine at_bd 36 ?_); refine build_arm rfl 36 _ rfl (built_w01 1 7) ?_)
    | (go_at_call 13; refine (write_calls 1 7 Z32 none 0 0 [] _ _ rfl Z32_len Z32_bytes (Kd.C_nil _ _) Bytes.nil (by omega)).mono ?_; rw [show mayB 1 7 0 = true from rfl]; rintro e w1 ⟨v1, rfl, hO1, hB1⟩; obtain ⟨xs, hx, hO2⟩ : ∃ xs, xs.length = 41 ∧ OwB w1 w.heap.size v1 xs := ⟨_, rfl, hO1⟩; clear hO1; obtain ⟨A, c, hv1, hc, hr⟩ := OwB.reads hO2; subst hv1; rw [hx] at *))
  go_ret
  exact ⟨rfl, hB1⟩
end Go.Proofs.Ytbagphegelbgcaa
