/- Contracts: bits.RotateLeft32, sha.turned. Conditions: each contract's own. -/
import Derived.Test.YtnfbficpodnglaaDoorShaRef1
namespace Go.Proofs.YtnfbficpodnglaaDoor
open Go.RowKit Go.Proofs.YtnfbficpodnglaaDoorW.PrintWords Go.Proofs.YtnfbficpodnglaaDoorW.PrintMore
set_option linter.unusedVariables false
set_option linter.unusedSimpArgs false
theorem rot_or (x k : Nat) (hk : 0 < k) (hk2 : k < 32) (h : x < 4294967296) : ((x * 2 ^ (32 - k)) % 4294967296) ||| (x / 2 ^ k) = rotN x k := by
  have h1 : (2 : Nat) ^ k * 2 ^ (32 - k) = 4294967296 := by rw [← Nat.pow_add, show k + (32 - k) = 32 by omega]
  have e1 : (x * 2 ^ (32 - k)) % 4294967296 = (x % 2 ^ k) * 2 ^ (32 - k) := by
    rw [← h1, Nat.mul_comm (2 ^ k) (2 ^ (32 - k)), Nat.mul_comm x, Nat.mul_mod_mul_left, Nat.mul_comm]
  have h2 : x / 2 ^ k < 2 ^ (32 - k) := by rw [Nat.div_lt_iff_lt_mul (Nat.two_pow_pos k), Nat.mul_comm, h1]; exact h
  rw [e1, nat_join (32 - k) _ _ (Nat.mul_mod_left _ _) h2, rotN, Nat.add_comm]
theorem rot_bits (x : Int) (k m d : Nat) (hk : 0 < k) (hk2 : k < 32) (h0 : 0 ≤ x) (h1 : x < 4294967296) (hm : m = 2 ^ (32 - k)) (hd : d = 2 ^ k) :
    Go.bits .or .u32 (x * (m : Int) % 4294967296) (x / (d : Int)) = rot x k := by
  obtain ⟨x, rfl⟩ := Int.eq_ofNat_of_zero_le h0
  have hor := rot_or x k hk hk2 (by omega)
  rw [← hm, ← hd] at hor
  have e1 : ((x : Int) * (m : Int) % 4294967296) = ((x * m % 4294967296 : Nat) : Int) := by simp
  have e2 : ((x : Int) / (d : Int)) = ((x / d : Nat) : Int) := by simp
  have hx : x / d ≤ x := Nat.div_le_self _ _
  rw [e1, e2, u32_or_nat _ _ (Nat.mod_lt _ (by omega)) (by omega), hor]
  rfl
theorem rotl_2 (x : Int) (w : World) (h0 : 0 ≤ x) (h1 : x < 4294967296) :
    Calls Tryd.prog 31 #[.int .u32 x, .int .i64 (-2)] w fun e w' => e = .returned (.int .u32 (rot x 2)) ∧ w = w' := by
  have hr : Go.bits .or .u32 (x * 1073741824 % 4294967296) (x / 4) = rot x 2 := rot_bits x 2 1073741824 4 (by omega) (by omega) h0 h1 rfl rfl
  go_enter Tryd.func31, Tryd.ntmps31
  have e0 : Go.bits .and .u64 (IntKind.u64.wrap (-2)) 31 = 30 := by decide +kernel
  go_wp2
  go_ret
  exact ⟨rfl, rfl⟩
theorem rotl_6 (x : Int) (w : World) (h0 : 0 ≤ x) (h1 : x < 4294967296) :
    Calls Tryd.prog 31 #[.int .u32 x, .int .i64 (-6)] w fun e w' => e = .returned (.int .u32 (rot x 6)) ∧ w = w' := by
  have hr : Go.bits .or .u32 (x * 67108864 % 4294967296) (x / 64) = rot x 6 := rot_bits x 6 67108864 64 (by omega) (by omega) h0 h1 rfl rfl
  go_enter Tryd.func31, Tryd.ntmps31
  have e0 : Go.bits .and .u64 (IntKind.u64.wrap (-6)) 31 = 26 := by decide +kernel
  go_wp2
  go_ret
  exact ⟨rfl, rfl⟩
theorem rotl_7 (x : Int) (w : World) (h0 : 0 ≤ x) (h1 : x < 4294967296) :
    Calls Tryd.prog 31 #[.int .u32 x, .int .i64 (-7)] w fun e w' => e = .returned (.int .u32 (rot x 7)) ∧ w = w' := by
  have hr : Go.bits .or .u32 (x * 33554432 % 4294967296) (x / 128) = rot x 7 := rot_bits x 7 33554432 128 (by omega) (by omega) h0 h1 rfl rfl
  go_enter Tryd.func31, Tryd.ntmps31
  have e0 : Go.bits .and .u64 (IntKind.u64.wrap (-7)) 31 = 25 := by decide +kernel
  go_wp2
  go_ret
  exact ⟨rfl, rfl⟩
theorem rotl_11 (x : Int) (w : World) (h0 : 0 ≤ x) (h1 : x < 4294967296) :
    Calls Tryd.prog 31 #[.int .u32 x, .int .i64 (-11)] w fun e w' => e = .returned (.int .u32 (rot x 11)) ∧ w = w' := by
  have hr : Go.bits .or .u32 (x * 2097152 % 4294967296) (x / 2048) = rot x 11 := rot_bits x 11 2097152 2048 (by omega) (by omega) h0 h1 rfl rfl
  go_enter Tryd.func31, Tryd.ntmps31
  have e0 : Go.bits .and .u64 (IntKind.u64.wrap (-11)) 31 = 21 := by decide +kernel
  go_wp2
  go_ret
  exact ⟨rfl, rfl⟩
theorem rotl_13 (x : Int) (w : World) (h0 : 0 ≤ x) (h1 : x < 4294967296) :
    Calls Tryd.prog 31 #[.int .u32 x, .int .i64 (-13)] w fun e w' => e = .returned (.int .u32 (rot x 13)) ∧ w = w' := by
  have hr : Go.bits .or .u32 (x * 524288 % 4294967296) (x / 8192) = rot x 13 := rot_bits x 13 524288 8192 (by omega) (by omega) h0 h1 rfl rfl
  go_enter Tryd.func31, Tryd.ntmps31
  have e0 : Go.bits .and .u64 (IntKind.u64.wrap (-13)) 31 = 19 := by decide +kernel
  go_wp2
  go_ret
  exact ⟨rfl, rfl⟩
theorem rotl_17 (x : Int) (w : World) (h0 : 0 ≤ x) (h1 : x < 4294967296) :
    Calls Tryd.prog 31 #[.int .u32 x, .int .i64 (-17)] w fun e w' => e = .returned (.int .u32 (rot x 17)) ∧ w = w' := by
  have hr : Go.bits .or .u32 (x * 32768 % 4294967296) (x / 131072) = rot x 17 := rot_bits x 17 32768 131072 (by omega) (by omega) h0 h1 rfl rfl
  go_enter Tryd.func31, Tryd.ntmps31
  have e0 : Go.bits .and .u64 (IntKind.u64.wrap (-17)) 31 = 15 := by decide +kernel
  go_wp2
  go_ret
  exact ⟨rfl, rfl⟩
theorem rotl_18 (x : Int) (w : World) (h0 : 0 ≤ x) (h1 : x < 4294967296) :
    Calls Tryd.prog 31 #[.int .u32 x, .int .i64 (-18)] w fun e w' => e = .returned (.int .u32 (rot x 18)) ∧ w = w' := by
  have hr : Go.bits .or .u32 (x * 16384 % 4294967296) (x / 262144) = rot x 18 := rot_bits x 18 16384 262144 (by omega) (by omega) h0 h1 rfl rfl
  go_enter Tryd.func31, Tryd.ntmps31
  have e0 : Go.bits .and .u64 (IntKind.u64.wrap (-18)) 31 = 14 := by decide +kernel
  go_wp2
  go_ret
  exact ⟨rfl, rfl⟩
theorem rotl_19 (x : Int) (w : World) (h0 : 0 ≤ x) (h1 : x < 4294967296) :
    Calls Tryd.prog 31 #[.int .u32 x, .int .i64 (-19)] w fun e w' => e = .returned (.int .u32 (rot x 19)) ∧ w = w' := by
  have hr : Go.bits .or .u32 (x * 8192 % 4294967296) (x / 524288) = rot x 19 := rot_bits x 19 8192 524288 (by omega) (by omega) h0 h1 rfl rfl
  go_enter Tryd.func31, Tryd.ntmps31
  have e0 : Go.bits .and .u64 (IntKind.u64.wrap (-19)) 31 = 13 := by decide +kernel
  go_wp2
  go_ret
  exact ⟨rfl, rfl⟩
theorem rotl_22 (x : Int) (w : World) (h0 : 0 ≤ x) (h1 : x < 4294967296) :
    Calls Tryd.prog 31 #[.int .u32 x, .int .i64 (-22)] w fun e w' => e = .returned (.int .u32 (rot x 22)) ∧ w = w' := by
  have hr : Go.bits .or .u32 (x * 1024 % 4294967296) (x / 4194304) = rot x 22 := rot_bits x 22 1024 4194304 (by omega) (by omega) h0 h1 rfl rfl
  go_enter Tryd.func31, Tryd.ntmps31
  have e0 : Go.bits .and .u64 (IntKind.u64.wrap (-22)) 31 = 10 := by decide +kernel
  go_wp2
  go_ret
  exact ⟨rfl, rfl⟩
theorem rotl_25 (x : Int) (w : World) (h0 : 0 ≤ x) (h1 : x < 4294967296) :
    Calls Tryd.prog 31 #[.int .u32 x, .int .i64 (-25)] w fun e w' => e = .returned (.int .u32 (rot x 25)) ∧ w = w' := by
  have hr : Go.bits .or .u32 (x * 128 % 4294967296) (x / 33554432) = rot x 25 := rot_bits x 25 128 33554432 (by omega) (by omega) h0 h1 rfl rfl
  go_enter Tryd.func31, Tryd.ntmps31
  have e0 : Go.bits .and .u64 (IntKind.u64.wrap (-25)) 31 = 7 := by decide +kernel
  go_wp2
  go_ret
  exact ⟨rfl, rfl⟩
theorem turnedE (x : Int) (w : World) (h0 : 0 ≤ x) (h1 : x < 4294967296) :
    Calls Tryd.prog 30 #[.int .u32 x, .int .i64 6, .int .i64 11, .int .i64 25] w fun e w' => e = .returned (.int .u32 (bs1 x)) ∧ w = w' := by
  go_enter Tryd.func30, Tryd.ntmps30
  go_wp2_with (first
    | (go_at_call 31; (with_reducible refine (rotl_6 x _ h0 h1).mono ?_); rintro e w1 ⟨rfl, rfl⟩)
    | (go_at_call 31; (with_reducible refine (rotl_11 x _ h0 h1).mono ?_); rintro e w1 ⟨rfl, rfl⟩)
    | (go_at_call 31; (with_reducible refine (rotl_25 x _ h0 h1).mono ?_); rintro e w1 ⟨rfl, rfl⟩))
  go_ret
  exact ⟨rfl, rfl⟩
theorem turnedA (x : Int) (w : World) (h0 : 0 ≤ x) (h1 : x < 4294967296) :
    Calls Tryd.prog 30 #[.int .u32 x, .int .i64 2, .int .i64 13, .int .i64 22] w fun e w' => e = .returned (.int .u32 (bs0 x)) ∧ w = w' := by
  go_enter Tryd.func30, Tryd.ntmps30
  go_wp2_with (first
    | (go_at_call 31; (with_reducible refine (rotl_2 x _ h0 h1).mono ?_); rintro e w1 ⟨rfl, rfl⟩)
    | (go_at_call 31; (with_reducible refine (rotl_13 x _ h0 h1).mono ?_); rintro e w1 ⟨rfl, rfl⟩)
    | (go_at_call 31; (with_reducible refine (rotl_22 x _ h0 h1).mono ?_); rintro e w1 ⟨rfl, rfl⟩))
  go_ret
  exact ⟨rfl, rfl⟩
end Go.Proofs.YtnfbficpodnglaaDoor
