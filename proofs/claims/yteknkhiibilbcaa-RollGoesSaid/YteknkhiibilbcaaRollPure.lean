/- The number that goes along, in plain Lean. Plain definitions and lemmas. -/
import Derived.Test.YteknkhiibilbcaaShaPure
namespace Go.Proofs.Yteknkhiibilbcaa
open Go.RowKit Go.Proofs.YteknkhiibilbcaaW.PrintWords Go.Proofs.YteknkhiibilbcaaW.PrintMore
set_option linter.unusedVariables false
set_option linter.unusedSimpArgs false
theorem rolt_or (x k : Nat) (hk : 0 < k) (hk2 : k < 32) (h : x < 4294967296) : ((x * 2 ^ (32 - k)) % 4294967296) ||| (x / 2 ^ k) = rotN x k := by
  have h1 : (2 : Nat) ^ k * 2 ^ (32 - k) = 4294967296 := by rw [← Nat.pow_add, show k + (32 - k) = 32 by omega]
  have e1 : (x * 2 ^ (32 - k)) % 4294967296 = (x % 2 ^ k) * 2 ^ (32 - k) := by
    rw [← h1, Nat.mul_comm (2 ^ k) (2 ^ (32 - k)), Nat.mul_comm x, Nat.mul_mod_mul_left, Nat.mul_comm]
  have h2 : x / 2 ^ k < 2 ^ (32 - k) := by rw [Nat.div_lt_iff_lt_mul (Nat.two_pow_pos k), Nat.mul_comm, h1]; exact h
  rw [e1, nat_join (32 - k) _ _ (Nat.mul_mod_left _ _) h2, rotN, Nat.add_comm]
theorem rolt_bits (x : Int) (k m d : Nat) (hk : 0 < k) (hk2 : k < 32) (h0 : 0 ≤ x) (h1 : x < 4294967296) (hm : m = 2 ^ (32 - k)) (hd : d = 2 ^ k) :
    Go.bits .or .u32 (x * (m : Int) % 4294967296) (x / (d : Int)) = rot x k := by
  obtain ⟨x, rfl⟩ := Int.eq_ofNat_of_zero_le h0
  have hor := rolt_or x k hk hk2 (by omega)
  rw [← hm, ← hd] at hor
  have e1 : ((x : Int) * (m : Int) % 4294967296) = ((x * m % 4294967296 : Nat) : Int) := by simp
  have e2 : ((x : Int) / (d : Int)) = ((x / d : Nat) : Int) := by simp
  have hx : x / d ≤ x := Nat.div_le_self _ _
  rw [e1, e2, u32_or_nat _ _ (Nat.mod_lt _ (by omega)) (by omega), hor]
  rfl
/-- Turned to the left by one. -/
def rl (x : Int) : Int := rot x 31
theorem rl_range {x : Int} (h : 0 ≤ x ∧ x < 4294967296) : 0 ≤ rl x ∧ rl x < 4294967296 := rot_range (by omega) h.1 h.2
theorem rl_eq (x : Int) (h : 0 ≤ x ∧ x < 4294967296) : rl x = x * 2 % 4294967296 + x / 2147483648 := by
  unfold rl rot rotN
  simp only [Nat.reducePow, Nat.reduceSub]
  omega
def rls (x : Int) : Nat → Int
  | 0 => x
  | n + 1 => rl (rls x n)
theorem rls_range {x : Int} (h : 0 ≤ x ∧ x < 4294967296) : ∀ n, 0 ≤ rls x n ∧ rls x n < 4294967296
  | 0 => h
  | n + 1 => rl_range (rls_range h n)
theorem rl_rot (x : Int) (j : Nat) (hj : j < 32) (h : 0 ≤ x ∧ x < 4294967296) : rl (rot x (j + 1)) = rot x j := by
  obtain ⟨x, rfl⟩ := Int.eq_ofNat_of_zero_le h.1
  have hx : x < 4294967296 := by omega
  unfold rl rot rotN
  match j, hj with
  | 0, _ | 1, _ | 2, _ | 3, _ | 4, _ | 5, _ | 6, _ | 7, _ | 8, _ | 9, _ | 10, _ | 11, _ | 12, _ | 13, _ | 14, _ | 15, _ | 16, _ | 17, _ | 18, _ | 19, _ | 20, _ | 21, _ | 22, _ | 23, _ | 24, _ | 25, _ | 26, _ | 27, _ | 28, _ | 29, _ | 30, _ | 31, _ => all_goals (simp only [Nat.reducePow, Nat.reduceSub, Nat.reduceAdd, Int.toNat_natCast]; omega)
  | n + 32, hj => omega
theorem rot_32 (x : Int) (h : 0 ≤ x ∧ x < 4294967296) : rot x 32 = x := by
  unfold rot rotN
  simp only [Nat.reducePow, Nat.reduceSub]
  omega
theorem rls_rot (x : Int) (h : 0 ≤ x ∧ x < 4294967296) : ∀ n, n ≤ 31 → rls x n = rot x (32 - n)
  | 0, _ => (rot_32 x h).symm
  | n + 1, hn => by
    rw [rls, rls_rot x h n (by omega), show 32 - n = (32 - (n + 1)) + 1 by omega, rl_rot x _ (by omega) h]
/-- Turning goes into both. -/
theorem rl_testBit (x j : Nat) (hx : x < 4294967296) : (rotN x 31).testBit j = if j = 0 then x.testBit 31 else (decide (j ≤ 31) && x.testBit (j - 1)) := by
  have e : rotN x 31 = (x % 2 ^ 31) * 2 ^ 1 + x / 2 ^ 31 := by unfold rotN; simp only [Nat.reducePow, Nat.reduceSub]; omega
  have hlt : x / 2 ^ 31 < 2 ^ 1 := by simp only [Nat.reducePow]; omega
  have hor : x % 2 ^ 31 * 2 ^ 1 + x / 2 ^ 31 = x % 2 ^ 31 * 2 ||| x / 2 ^ 31 := (nat_join 1 _ _ (by omega) hlt).symm
  rw [e, hor, Nat.testBit_or]
  cases j with
  | zero =>
    have h1 : (x % 2 ^ 31 * 2).testBit 0 = false := by rw [Nat.testBit_zero]; simp
    rw [h1, Nat.testBit_div_two_pow]
    simp
  | succ j =>
    have h1 : (x % 2 ^ 31 * 2).testBit (j + 1) = (x % 2 ^ 31).testBit j := by rw [Nat.testBit_succ]; congr 1; omega
    have h2 : (x / 2 ^ 31).testBit (j + 1) = false := by
      rw [Nat.testBit_div_two_pow]
      exact Nat.testBit_lt_two_pow (Nat.lt_of_lt_of_le hx (by rw [show (4294967296 : Nat) = 2 ^ 32 by rfl]; exact Nat.pow_le_pow_right (by omega) (by omega)))
    rw [h1, h2, Nat.testBit_mod_two_pow]
    by_cases hj : j < 31
    · have hj' : j ≤ 30 := by omega
      simp [hj, hj']
    · have hj' : ¬ j ≤ 30 := by omega
      simp [hj, hj']
theorem rotN31_xor (a b : Nat) (ha : a < 4294967296) (hb : b < 4294967296) : rotN (a ^^^ b) 31 = rotN a 31 ^^^ rotN b 31 := by
  have hab : a ^^^ b < 4294967296 := Nat.xor_lt_two_pow (n := 32) ha hb
  apply Nat.eq_of_testBit_eq
  intro j
  rw [Nat.testBit_xor, rl_testBit _ _ hab, rl_testBit _ _ ha, rl_testBit _ _ hb, Nat.testBit_xor, Nat.testBit_xor]
  split
  · rfl
  · cases decide (j ≤ 31) <;> simp
theorem xr_eq {a b : Int} (ha : 0 ≤ a ∧ a < 4294967296) (hb : 0 ≤ b ∧ b < 4294967296) : xr a b = ((a.toNat ^^^ b.toNat : Nat) : Int) := u32_xor a b ha.1 ha.2 hb.1 hb.2
theorem xr_range {a b : Int} (ha : 0 ≤ a ∧ a < 4294967296) (hb : 0 ≤ b ∧ b < 4294967296) : 0 ≤ xr a b ∧ xr a b < 4294967296 := u32_xor_range a b ha.1 ha.2 hb.1 hb.2
theorem rl_xr {a b : Int} (ha : 0 ≤ a ∧ a < 4294967296) (hb : 0 ≤ b ∧ b < 4294967296) : rl (xr a b) = xr (rl a) (rl b) := by
  rw [xr_eq (rl_range ha) (rl_range hb), xr_eq ha hb]
  unfold rl rot
  rw [Int.toNat_natCast, Int.toNat_natCast, Int.toNat_natCast, rotN31_xor _ _ (by omega) (by omega)]
theorem xr_assoc {a b c : Int} (ha : 0 ≤ a ∧ a < 4294967296) (hb : 0 ≤ b ∧ b < 4294967296) (hc : 0 ≤ c ∧ c < 4294967296) : xr (xr a b) c = xr a (xr b c) := by
  rw [xr_eq (xr_range ha hb) hc, xr_eq ha (xr_range hb hc), xr_eq ha hb, xr_eq hb hc, Int.toNat_natCast, Int.toNat_natCast, Nat.xor_assoc]
theorem xr_comm {a b : Int} (ha : 0 ≤ a ∧ a < 4294967296) (hb : 0 ≤ b ∧ b < 4294967296) : xr a b = xr b a := by
  rw [xr_eq ha hb, xr_eq hb ha, Nat.xor_comm]
theorem xr_self {a : Int} (ha : 0 ≤ a ∧ a < 4294967296) : xr a a = 0 := by
  rw [xr_eq ha ha, Nat.xor_self]; rfl
theorem xr_zero {a : Int} (ha : 0 ≤ a ∧ a < 4294967296) : xr 0 a = a := by
  rw [xr_eq ⟨Int.le_refl _, by omega⟩ ha]
  simp
  omega
theorem xr_zero' {a : Int} (ha : 0 ≤ a ∧ a < 4294967296) : xr a 0 = a := by
  rw [xr_comm ha ⟨Int.le_refl _, by omega⟩, xr_zero ha]
end Go.Proofs.Yteknkhiibilbcaa
