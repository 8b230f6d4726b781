/- Contracts of lighterageref01's functions over bytes and numbers. Conditions: each contract's own. -/
import Derived.Test.YtdbgbbodkoppdaaG1
namespace Go.Proofs.Ytdbgbbodkoppdaa
open Go.RowKit Go.Proofs.YtdbgbbodkoppdaaW.PrintWords Go.Proofs.YtdbgbbodkoppdaaW.PrintMore
attribute [local go_sem] max2_int min2_int max_two min_two
set_option linter.unusedVariables false
set_option linter.unusedSimpArgs false

/-- Few: the first bytes, in memory of their own. -/
theorem few_calls (A : Option Addr) (n c : Nat) (xs : List Int) (m : Int) (w : World) (h : RdB w A n xs) (hc : n ≤ c) (h0 : 0 ≤ m) (h1 : m ≤ 1099511627776) :
    Calls Try.prog 7 #[.slice A n c, .int .i64 m] w fun e w' => ∃ v, e = .returned v ∧ OwB w' w.heap.size v (xs.take m.toNat) ∧ Below w.heap.size w w' := by
  obtain ⟨j, hj⟩ : ∃ j : Int, (if m < (n : Int) then m else (n : Int)) = j := ⟨_, rfl⟩
  have hj0 : 0 ≤ j ∧ j ≤ n ∧ j ≤ m := by rw [← hj]; split <;> omega
  have HT : Aside0 (xs.take j.toNat = xs.take m.toNat) := ⟨by
    rw [← hj]
    split
    · rfl
    · rw [List.take_of_length_le (by have := h.1; omega), List.take_of_length_le (by have := h.1; omega)]⟩
  obtain ⟨hj1, hj2, hj3⟩ := hj0
  obtain ⟨hcut, hrd⟩ := cutTo h hc j hj1 hj2
  have HR := Aside0.mk hrd
  have HJ : Aside0 (0 ≤ j ∧ j ≤ n ∧ j ≤ m) := ⟨⟨hj1, hj2, hj3⟩⟩
  clear hrd h h0 hj1 hj2 hj3
  go_enter Try.func7, Try.ntmps7
  go_wp2_with (at_builtin; refine appBs (w0 := w) w.heap.size rfl (.tmp 6) (.tmp 12) rfl (.slice none 0 0) [] _ _ _ _ rfl rfl (Kd.R_nil _ _ _ _ _) HR.out (Below.refl _ _) (Nat.le_refl _) (by have := HJ.out; simp; omega) ?_; intro v1 w1 hO hB _ _)
  go_ret
  exact ⟨_, rfl, by rw [← HT.out]; simpa using hO, hB⟩

/-- The same, the list under a name of its own. -/
theorem few_new (A : Option Addr) (n c : Nat) (xs : List Int) (m : Int) (w : World) (h : RdB w A n xs) (hc : n ≤ c) (hb : Bytes xs) (h0 : 0 ≤ m) (h1 : m ≤ 1099511627776) :
    Calls Try.prog 7 #[.slice A n c, .int .i64 m] w fun e w' => ∃ B d ys, e = .returned (.slice B ys.length d) ∧ Aside0 (ys = xs.take m.toNat) ∧ Bytes ys ∧ Aside0 (OwB w' w.heap.size (.slice B ys.length d) ys) ∧ ys.length ≤ d ∧ ys.length ≤ m.toNat ∧ Aside0 (RdB w' B ys.length ys) ∧ Below w.heap.size w w' :=
  (few_calls A n c xs m w h hc h0 h1).mono fun e w' ⟨v, he, hO, hB⟩ => by
    obtain ⟨B, d, rfl, hd, hr⟩ := OwB.reads hO
    exact ⟨B, d, _, he, ⟨rfl⟩, hb.take _, ⟨hO⟩, hd, List.length_take_le _ _, ⟨hr⟩, hB⟩

/-- Around: modulo, from 0 on. -/
def around (n m : Int) : Int := if n < 0 then (-(n + 1)) % m else n % m
theorem around_range (n m : Int) (hm : 0 < m) : 0 ≤ around n m ∧ around n m < m := by
  unfold around
  split
  · exact ⟨Int.emod_nonneg _ (by omega), Int.emod_lt_of_pos _ hm⟩
  · exact ⟨Int.emod_nonneg _ (by omega), Int.emod_lt_of_pos _ hm⟩
theorem around_calls (n m : Int) (w : World) (hn0 : -9223372036854775808 ≤ n) (hn1 : n ≤ 9223372036854775807) (hm : 0 < m) (hm' : m ≤ 9223372036854775807) :
    Calls Try.prog 10 #[.int .i64 n, .int .i64 m] w fun e w' => e = .returned (.int .i64 (around n m)) ∧ w = w' := by
  have hmz : ((m == 0) = false) := by simp; omega
  by_cases hn : n < 0
  · have e0 : around n m = (-(n + 1)).tmod m := by
      unfold around; rw [if_pos hn, Int.tmod_eq_emod_of_nonneg (by omega)]
    have H := Aside0.mk e0
    clear e0
    go_enter Try.func10, Try.ntmps10
    go_wp2
    go_ret
    exact ⟨by rw [H.out, Int.neg_tmod]; rfl, rfl⟩
  · have e0 : around n m = n % m := by
      unfold around; rw [if_neg hn]
    have H := Aside0.mk e0
    clear e0
    go_enter Try.func10, Try.ntmps10
    go_wp2
    go_ret
    exact ⟨by rw [H.out]; rfl, rfl⟩
end Go.Proofs.Ytdbgbbodkoppdaa
