/- The length of a match; contract of lz.long. Conditions: its own. -/
import Derived.Test.YtcbcoaafdggniaaG1
import Derived.Deep.QuietTactic
import Derived.BigQuiet
namespace Go.Proofs.Ytcbcoaafdggniaa
open Go.RowKit Go.Proofs.YtcbcoaafdggniaaW.PrintWords Go.Proofs.YtcbcoaafdggniaaW.PrintMore
set_option linter.unusedVariables false
set_option linter.unusedSimpArgs false
/-- May one go on at n? -/
def goesOn (b : List Int) (i k n : Nat) : Prop := n < 131 ∧ i + n < b.length ∧ rd b ((i + n : Nat) : Int) = rd b ((k + n : Nat) : Int)
instance (b : List Int) (i k n : Nat) : Decidable (goesOn b i k n) := by unfold goesOn; infer_instance
def runF (b : List Int) (i k : Nat) : Nat → Nat → Nat
  | 0, n => n
  | f + 1, n => if goesOn b i k n then runF b i k f (n + 1) else n
/-- How many bytes from i on are those from k on, 131 at most. -/
def runL (b : List Int) (i k : Nat) : Nat := runF b i k 131 0
theorem runF_step {b : List Int} {i k n : Nat} (h : goesOn b i k n) : runF b i k (131 - n) n = runF b i k (131 - (n + 1)) (n + 1) := by
  have hn := h.1
  rw [show 131 - n = (131 - (n + 1)) + 1 by omega, runF, if_pos h]
theorem runF_end {b : List Int} {i k n : Nat} (hn : n ≤ 131) (h : ¬ goesOn b i k n) : runF b i k (131 - n) n = n := by
  by_cases e : n = 131
  · subst e; rfl
  · rw [show 131 - n = (131 - (n + 1)) + 1 by omega, runF, if_neg h]
theorem drewN_below (w : World) (m : Nat) : Below w.heap.size w (w.drewN m) := pw_below_drewN (Below.refl _ _) m
def LongInv (b : List Int) (i k : Nat) (w : World) (v : Value) (wr : World) : Prop := ∃ n : Nat, n ≤ 131 ∧ i + n ≤ b.length + 1 ∧ v = .int .i64 n ∧ runF b i k (131 - n) n = runL b i k ∧ Below w.heap.size w wr
set_option maxRecDepth 20000 in
theorem long_calls (A : Option Addr) (N c : Nat) (b : List Int) (i k : Nat) (w : World) (h : RdB w A N b) (hk : k ≤ i) (hi : i ≤ N) (hN : N ≤ 1099511627776) :
    Calls Try.prog 41 #[.slice A N c, .int .i64 i, .int .i64 k] w fun e w' => e = .returned (.int .i64 (runL b i k)) ∧ Below w.heap.size w w' := by
  obtain rfl : b.length = N := h.1
  have HX := Aside0.mk h
  clear h
  go_enter Try.func41, Try.ntmps41
  go_wp2
  go_loopw [7] (fun v wr => LongInv b i k w v wr) (fun v _ => 131 - (intOf v).toNat)
  case atStart => exact ⟨0, by omega, by omega, rfl, rfl, Below.refl _ _⟩
  case round =>
    obtain ⟨n, hn, hin, rfl, hrun, hB⟩ := hrel
    have HB := Aside0.mk hB
    have HR := Aside0.mk hrun
    clear hB hrun
    by_cases h1 : n < 131
    · have h1I : (n : Int) < 131 := by omega
      by_cases h2 : i + n < b.length
      · have h2I : (i : Int) + (n : Int) < (b.length : Int) := by omega
        have h3I : (k : Int) + (n : Int) < (b.length : Int) := by omega
        obtain ⟨ad, ea⟩ : ∃ ad, A = some ad := by obtain ⟨ad, e, _⟩ := Kd.at_int HX.out 0 (by omega) (by omega); exact ⟨ad, e⟩
        subst ea
        have hc1 := rdB_at (Kd.C_below HX.out HB.out) (i + n) h2
        have hc2 := rdB_at (Kd.C_below HX.out HB.out) (k + n) (by omega)
        have e1 : ((i : Int) + (n : Int)).toNat = i + n := by omega
        have e2 : ((k : Int) + (n : Int)).toNat = k + n := by omega
        by_cases h3 : rd b ((i + n : Nat) : Int) = rd b ((k + n : Nat) : Int)
        · have HG := runF_step ⟨h1, h2, h3⟩
          rw [h3] at hc1
          have HG2 := Aside0.mk HG
          clear HG h3
          generalize rd b ((k + n : Nat) : Int) = x at *
          go_wp2_with fail
          go_quiet (fail)
          go_wp2
          go_roundw
          case rel => exact ⟨n + 1, by omega, by omega, by go_num, by rw [← HG2.out]; exact HR.out, HB.out.trans ((drewN_below wr nq).mono HB.out.size)⟩
          case measure => simp [intOf]; omega
        · have HG := Aside0.mk (runF_end hn (fun (h : goesOn b i k n) => h3 h.2.2))
          generalize rd b ((k + n : Nat) : Int) = x at *
          generalize rd b ((i + n : Nat) : Int) = y at *
          go_wp2_with fail
          go_quiet (fail)
          go_wp2
          go_ret
          exact ⟨by rw [← HR.out, HG.out]; rfl, HB.out.trans ((drewN_below wr nq).mono HB.out.size)⟩
      · have HG := Aside0.mk (runF_end hn (fun (h : goesOn b i k n) => h2 h.2.1))
        have h2I : decide ((i : Int) + (n : Int) < (b.length : Int)) = false := decide_eq_false (by omega)
        go_wp2_with fail
        go_quiet (fail)
        go_wp2
        go_ret
        exact ⟨by rw [← HR.out, HG.out]; rfl, HB.out.trans ((drewN_below wr nq).mono HB.out.size)⟩
    · have HG := Aside0.mk (runF_end hn (fun (h : goesOn b i k n) => h1 h.1))
      have h1I : decide ((n : Int) < 131) = false := decide_eq_false (by omega)
      go_wp2_with fail
      go_quiet (fail)
      go_wp2
      go_ret
      exact ⟨by rw [← HR.out, HG.out]; rfl, HB.out.trans ((drewN_below wr nq).mono HB.out.size)⟩
end Go.Proofs.Ytcbcoaafdggniaa
