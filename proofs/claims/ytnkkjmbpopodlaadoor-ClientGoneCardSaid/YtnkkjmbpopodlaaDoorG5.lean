/- Plain lemmas and contracts, several texts in one: Sha1, Sha2, Sha3. Conditions: their own. -/
import Derived.Test.YtnkkjmbpopodlaaDoorG3
import Derived.Test.YtnkkjmbpopodlaaDoorShaRef2
namespace Go.Proofs.YtnkkjmbpopodlaaDoor
open Go.RowKit Go.Proofs.YtnkkjmbpopodlaaDoorW.PrintWords Go.Proofs.YtnkkjmbpopodlaaDoorW.PrintMore
set_option linter.unusedVariables false
set_option linter.unusedSimpArgs false
theorem rot_or (x k : Nat) (hk : 0 < k) (hk2 : k < 32) (h : x < 4294967296) : ((x * 2 ^ (32 - k)) % 4294967296) ||| (x / 2 ^ k) = rotN x k := by
  have h1 : (2 : Nat) ^ k * 2 ^ (32 - k) = 4294967296 := by rw [← Nat.pow_add, show k + (32 - k) = 32 by omega]
  have e1 : (x * 2 ^ (32 - k)) % 4294967296 = (x % 2 ^ k) * 2 ^ (32 - k) := by
    rw [← h1, Nat.mul_comm (2 ^ k) (2 ^ (32 - k)), Nat.mul_comm x, Nat.mul_mod_mul_left, Nat.mul_comm]
  have h2 : x / 2 ^ k < 2 ^ (32 - k) := by rw [Nat.div_lt_iff_lt_mul (Nat.two_pow_pos k), Nat.mul_comm, h1]; exact h
  rw [e1, nat_join (32 - k) _ _ (Nat.mul_mod_left _ _) h2, rotN, Nat.add_comm]
theorem rot_bits (x : Int) (k m d : Nat) (hk : 0 < k) (hk2 : k < 32) (h0 : 0 ≤ x) (h1 : x < 4294967296) (hm : m = 2 ^ (32 - k)) (hd : d = 2 ^ k) :
    Go.bits .or .u32 (x * (m : Int) % 4294967296) (x / (d : Int)) = rot x k := by
  obtain ⟨x, rfl⟩ := Int.eq_ofNat_of_zero_le h0
  have hor := rot_or x k hk hk2 (by omega)
  rw [← hm, ← hd] at hor
  have e1 : ((x : Int) * (m : Int) % 4294967296) = ((x * m % 4294967296 : Nat) : Int) := by simp
  have e2 : ((x : Int) / (d : Int)) = ((x / d : Nat) : Int) := by simp
  have hx : x / d ≤ x := Nat.div_le_self _ _
  rw [e1, e2, u32_or_nat _ _ (Nat.mod_lt _ (by omega)) (by omega), hor]
  rfl
theorem rotl_2 (x : Int) (w : World) (h0 : 0 ≤ x) (h1 : x < 4294967296) :
    Calls Tryd.prog 103 #[.int .u32 x, .int .i64 (-2)] w fun e w' => e = .returned (.int .u32 (rot x 2)) ∧ w = w' := by
  have hr : Go.bits .or .u32 (x * 1073741824 % 4294967296) (x / 4) = rot x 2 := rot_bits x 2 1073741824 4 (by omega) (by omega) h0 h1 rfl rfl
  go_enter Tryd.func103, Tryd.ntmps103
  have e0 : Go.bits .and .u64 (IntKind.u64.wrap (-2)) 31 = 30 := by decide +kernel
  go_wp2
  go_ret
  exact ⟨rfl, rfl⟩
theorem rotl_6 (x : Int) (w : World) (h0 : 0 ≤ x) (h1 : x < 4294967296) :
    Calls Tryd.prog 103 #[.int .u32 x, .int .i64 (-6)] w fun e w' => e = .returned (.int .u32 (rot x 6)) ∧ w = w' := by
  have hr : Go.bits .or .u32 (x * 67108864 % 4294967296) (x / 64) = rot x 6 := rot_bits x 6 67108864 64 (by omega) (by omega) h0 h1 rfl rfl
  go_enter Tryd.func103, Tryd.ntmps103
  have e0 : Go.bits .and .u64 (IntKind.u64.wrap (-6)) 31 = 26 := by decide +kernel
  go_wp2
  go_ret
  exact ⟨rfl, rfl⟩
theorem rotl_7 (x : Int) (w : World) (h0 : 0 ≤ x) (h1 : x < 4294967296) :
    Calls Tryd.prog 103 #[.int .u32 x, .int .i64 (-7)] w fun e w' => e = .returned (.int .u32 (rot x 7)) ∧ w = w' := by
  have hr : Go.bits .or .u32 (x * 33554432 % 4294967296) (x / 128) = rot x 7 := rot_bits x 7 33554432 128 (by omega) (by omega) h0 h1 rfl rfl
  go_enter Tryd.func103, Tryd.ntmps103
  have e0 : Go.bits .and .u64 (IntKind.u64.wrap (-7)) 31 = 25 := by decide +kernel
  go_wp2
  go_ret
  exact ⟨rfl, rfl⟩
theorem rotl_11 (x : Int) (w : World) (h0 : 0 ≤ x) (h1 : x < 4294967296) :
    Calls Tryd.prog 103 #[.int .u32 x, .int .i64 (-11)] w fun e w' => e = .returned (.int .u32 (rot x 11)) ∧ w = w' := by
  have hr : Go.bits .or .u32 (x * 2097152 % 4294967296) (x / 2048) = rot x 11 := rot_bits x 11 2097152 2048 (by omega) (by omega) h0 h1 rfl rfl
  go_enter Tryd.func103, Tryd.ntmps103
  have e0 : Go.bits .and .u64 (IntKind.u64.wrap (-11)) 31 = 21 := by decide +kernel
  go_wp2
  go_ret
  exact ⟨rfl, rfl⟩
theorem rotl_13 (x : Int) (w : World) (h0 : 0 ≤ x) (h1 : x < 4294967296) :
    Calls Tryd.prog 103 #[.int .u32 x, .int .i64 (-13)] w fun e w' => e = .returned (.int .u32 (rot x 13)) ∧ w = w' := by
  have hr : Go.bits .or .u32 (x * 524288 % 4294967296) (x / 8192) = rot x 13 := rot_bits x 13 524288 8192 (by omega) (by omega) h0 h1 rfl rfl
  go_enter Tryd.func103, Tryd.ntmps103
  have e0 : Go.bits .and .u64 (IntKind.u64.wrap (-13)) 31 = 19 := by decide +kernel
  go_wp2
  go_ret
  exact ⟨rfl, rfl⟩
theorem rotl_17 (x : Int) (w : World) (h0 : 0 ≤ x) (h1 : x < 4294967296) :
    Calls Tryd.prog 103 #[.int .u32 x, .int .i64 (-17)] w fun e w' => e = .returned (.int .u32 (rot x 17)) ∧ w = w' := by
  have hr : Go.bits .or .u32 (x * 32768 % 4294967296) (x / 131072) = rot x 17 := rot_bits x 17 32768 131072 (by omega) (by omega) h0 h1 rfl rfl
  go_enter Tryd.func103, Tryd.ntmps103
  have e0 : Go.bits .and .u64 (IntKind.u64.wrap (-17)) 31 = 15 := by decide +kernel
  go_wp2
  go_ret
  exact ⟨rfl, rfl⟩
theorem rotl_18 (x : Int) (w : World) (h0 : 0 ≤ x) (h1 : x < 4294967296) :
    Calls Tryd.prog 103 #[.int .u32 x, .int .i64 (-18)] w fun e w' => e = .returned (.int .u32 (rot x 18)) ∧ w = w' := by
  have hr : Go.bits .or .u32 (x * 16384 % 4294967296) (x / 262144) = rot x 18 := rot_bits x 18 16384 262144 (by omega) (by omega) h0 h1 rfl rfl
  go_enter Tryd.func103, Tryd.ntmps103
  have e0 : Go.bits .and .u64 (IntKind.u64.wrap (-18)) 31 = 14 := by decide +kernel
  go_wp2
  go_ret
  exact ⟨rfl, rfl⟩
theorem rotl_19 (x : Int) (w : World) (h0 : 0 ≤ x) (h1 : x < 4294967296) :
    Calls Tryd.prog 103 #[.int .u32 x, .int .i64 (-19)] w fun e w' => e = .returned (.int .u32 (rot x 19)) ∧ w = w' := by
  have hr : Go.bits .or .u32 (x * 8192 % 4294967296) (x / 524288) = rot x 19 := rot_bits x 19 8192 524288 (by omega) (by omega) h0 h1 rfl rfl
  go_enter Tryd.func103, Tryd.ntmps103
  have e0 : Go.bits .and .u64 (IntKind.u64.wrap (-19)) 31 = 13 := by decide +kernel
  go_wp2
  go_ret
  exact ⟨rfl, rfl⟩
theorem rotl_22 (x : Int) (w : World) (h0 : 0 ≤ x) (h1 : x < 4294967296) :
    Calls Tryd.prog 103 #[.int .u32 x, .int .i64 (-22)] w fun e w' => e = .returned (.int .u32 (rot x 22)) ∧ w = w' := by
  have hr : Go.bits .or .u32 (x * 1024 % 4294967296) (x / 4194304) = rot x 22 := rot_bits x 22 1024 4194304 (by omega) (by omega) h0 h1 rfl rfl
  go_enter Tryd.func103, Tryd.ntmps103
  have e0 : Go.bits .and .u64 (IntKind.u64.wrap (-22)) 31 = 10 := by decide +kernel
  go_wp2
  go_ret
  exact ⟨rfl, rfl⟩
theorem rotl_25 (x : Int) (w : World) (h0 : 0 ≤ x) (h1 : x < 4294967296) :
    Calls Tryd.prog 103 #[.int .u32 x, .int .i64 (-25)] w fun e w' => e = .returned (.int .u32 (rot x 25)) ∧ w = w' := by
  have hr : Go.bits .or .u32 (x * 128 % 4294967296) (x / 33554432) = rot x 25 := rot_bits x 25 128 33554432 (by omega) (by omega) h0 h1 rfl rfl
  go_enter Tryd.func103, Tryd.ntmps103
  have e0 : Go.bits .and .u64 (IntKind.u64.wrap (-25)) 31 = 7 := by decide +kernel
  go_wp2
  go_ret
  exact ⟨rfl, rfl⟩
theorem turnedE (x : Int) (w : World) (h0 : 0 ≤ x) (h1 : x < 4294967296) :
    Calls Tryd.prog 99 #[.int .u32 x, .int .i64 6, .int .i64 11, .int .i64 25] w fun e w' => e = .returned (.int .u32 (bs1 x)) ∧ w = w' := by
  go_enter Tryd.func99, Tryd.ntmps99
  go_wp2_with (first
    | (go_at_call 103; (with_reducible refine (rotl_6 x _ h0 h1).mono ?_); rintro e w1 ⟨rfl, rfl⟩)
    | (go_at_call 103; (with_reducible refine (rotl_11 x _ h0 h1).mono ?_); rintro e w1 ⟨rfl, rfl⟩)
    | (go_at_call 103; (with_reducible refine (rotl_25 x _ h0 h1).mono ?_); rintro e w1 ⟨rfl, rfl⟩))
  go_ret
  exact ⟨rfl, rfl⟩
theorem turnedA (x : Int) (w : World) (h0 : 0 ≤ x) (h1 : x < 4294967296) :
    Calls Tryd.prog 99 #[.int .u32 x, .int .i64 2, .int .i64 13, .int .i64 22] w fun e w' => e = .returned (.int .u32 (bs0 x)) ∧ w = w' := by
  go_enter Tryd.func99, Tryd.ntmps99
  go_wp2_with (first
    | (go_at_call 103; (with_reducible refine (rotl_2 x _ h0 h1).mono ?_); rintro e w1 ⟨rfl, rfl⟩)
    | (go_at_call 103; (with_reducible refine (rotl_13 x _ h0 h1).mono ?_); rintro e w1 ⟨rfl, rfl⟩)
    | (go_at_call 103; (with_reducible refine (rotl_22 x _ h0 h1).mono ?_); rintro e w1 ⟨rfl, rfl⟩))
  go_ret
  exact ⟨rfl, rfl⟩
end Go.Proofs.YtnkkjmbpopodlaaDoor
namespace Go.Proofs.YtnkkjmbpopodlaaDoor
open Go.Proofs.YtnkkjmbpopodlaaDoorW.PrintLast (i64_w i32_w)
open Go.RowKit Go.Proofs.YtnkkjmbpopodlaaDoorW.PrintWords Go.Proofs.YtnkkjmbpopodlaaDoorW.PrintMore
set_option linter.unusedVariables false
set_option linter.unusedSimpArgs false
def Us (xs : List Int) : List Value := xs.map (Value.int .u32)
theorem Us_len (xs : List Int) : (Us xs).length = xs.length := by simp [Us]
theorem Us_one (xs : List Int) : ∀ v ∈ Us xs, v.oneCell' = true := by
  intro v hv
  obtain ⟨x, _, rfl⟩ := List.mem_map.1 hv
  rfl
theorem Us_at {xs : List Int} {k : Nat} (h : k < xs.length) : (Us xs).toArray[k]? = some (.int .u32 (rd xs k)) := by
  simp [Us, rd, List.getD_eq_getElem?_getD, List.getElem?_eq_getElem h]
theorem Us_set (xs : List Int) (k : Nat) (x : Int) : (Us xs).toArray.setIfInBounds k (.int .u32 x) = (Us (xs.set k x)).toArray := by
  simp [Us, List.map_set]
theorem us_cell {w : World} {g T : Nat} {xs : List Int} (hg : w.heap[g]? = some (.cells (Us xs).toArray T (0, 0))) (k : Nat) (hk : k < xs.length) : w.cell? ⟨g, k, none⟩ = some (.int .u32 (rd xs k)) := by
  rw [blk_cell hg, Us_at hk]
theorem us_set {w : World} {g T : Nat} {xs : List Int} (hg : w.heap[g]? = some (.cells (Us xs).toArray T (0, 0))) (k : Nat) (x : Int) : SetBlk w (w.setCell ⟨g, k, none⟩ (.int .u32 x)) g (.cells (Us (xs.set k x)).toArray T (0, 0)) := by
  have := setBlk_cell hg (.int .u32 x) (i := k)
  rwa [Us_set] at this
/-- The words so far, noughts behind them. -/
def fillS (b : List Int) (j : Nat) : List Int := sched b j ++ List.replicate (64 - j) 0
theorem fillS_len (b : List Int) (j : Nat) (h : j ≤ 64) : (fillS b j).length = 64 := by rw [fillS, List.length_append, sched_len, List.length_replicate]; omega
theorem fillS_rd (b : List Int) (j i : Nat) (h : i < j) : rd (fillS b j) i = rd (sched b j) i := by
  have hl := sched_len b j
  simp [rd, List.getD_eq_getElem?_getD, fillS, List.getElem?_append_left (show i < (sched b j).length by omega)]
theorem fillS_zero (b : List Int) (j : Nat) (h : j < 64) : rd (fillS b j) j = 0 := by
  have hl := sched_len b j
  simp [rd, List.getD_eq_getElem?_getD, fillS, List.getElem?_append_right (show (sched b j).length ≤ j by omega), hl, List.getElem?_replicate]
  split <;> rfl
theorem fillS_set (b : List Int) (j : Nat) (h : j < 64) : (fillS b j).set j (wstep b (sched b j) j) = fillS b (j + 1) := by
  have hl := sched_len b j
  unfold fillS
  rw [List.set_append_right _ _ (by omega), hl, Nat.sub_self, show 64 - j = (64 - (j + 1)) + 1 by omega, List.replicate_succ, List.set_cons_zero, sched]
  simp
/-- A word's first m bytes. -/
def wp (b : List Int) (i : Int) : Nat → Int
  | 0 => 0
  | m + 1 => wp b i m * 256 + rd b (i + m)
theorem wp4 (b : List Int) (i : Int) : wp b i 4 = word b i := by
  simp only [wp, word]
  simp
  omega
theorem wp_range {b : List Int} (hb : Bytes b) (i : Int) : ∀ m, m < 4 → 0 ≤ wp b i m ∧ wp b i m < 16777216 := by
  intro m hm
  have b0 := hb.at_ i
  have b1 := hb.at_ (i + 1)
  have b2 := hb.at_ (i + 2)
  have e1 : wp b i 1 = rd b i := by simp [wp]
  have e2 : wp b i 2 = rd b i * 256 + rd b (i + 1) := by simp [wp]
  have e3 : wp b i 3 = (rd b i * 256 + rd b (i + 1)) * 256 + rd b (i + 2) := by simp [wp]
  obtain rfl | rfl | rfl | rfl : m = 0 ∨ m = 1 ∨ m = 2 ∨ m = 3 := by omega
  · simp [wp]
  · rw [e1]; omega
  · rw [e2]; omega
  · rw [e3]; omega
theorem u32_join8 (s x : Int) (h0 : 0 ≤ s) (h1 : s < 16777216) (h2 : 0 ≤ x) (h3 : x < 256) : Go.bits .or .u32 (s * 256) x = s * 256 + x := by
  obtain ⟨a, rfl⟩ := Int.eq_ofNat_of_zero_le h0
  obtain ⟨b, rfl⟩ := Int.eq_ofNat_of_zero_le h2
  have := u32_or_nat (a * 256) b (by omega) (by omega)
  rw [show ((a : Int) * 256) = ((a * 256 : Nat) : Int) by omega, this, nat_join 8 (a * 256) b (by omega) (by omega)]
  omega
theorem cut4 {w : World} {g o n c : Nat} {xs : List Int} (h : RdB w (some ⟨g, o, none⟩) n xs) (hc : n ≤ c) (i : Nat) (hi : i + 4 ≤ n) :
    ∃ B, (∀ W : World, (Instr.slice 37 (.slice (some ⟨g, o, none⟩) n c) (some (.int .i64 i)) (some (.int .i64 ((i : Int) + 4))) none).run Tryd.prog W = .ok (.slice (some B) 4 (c - i)) W) ∧ RdB w (some B) 4 ((xs.drop i).take 4) := by
  obtain ⟨i0, hinf, _, hsz, _⟩ := info_parts infoB
  refine ⟨(Addr.add ⟨g, o, none⟩ i), ?_, ?_⟩
  · intro W
    have hel : Tryd.prog.elem 37 = 5 := by simp [Program.elem, Tryd.underlying37]
    have hu : Tryd.prog.underlying 37 = some (.slice (Tryd.prog.elem 37)) := by rw [hel]; exact Tryd.underlying37
    rw [run_slice_lh W 37 (some ⟨g, o, none⟩) n c hu .i64 .i64 i (i + 4) (by omega) (by omega) (by omega), hel]
    have hne : ¬ c = i := by omega
    have e2 : ((i : Int) + 4).toNat = i + 4 := by omega
    simp [sizeOf, typeInfo, hinf, hsz, sliced, Result.andThen, hne, e2]
  · have h1 := (Kd.reads_of_C (d := (0 : Int)) h).drop_ i (by omega) hc
    rw [if_neg (by omega)] at h1
    exact Kd.C_of_reads (h1.take_ 4 (by omega))
theorem rd_cut (xs : List Int) (i m : Nat) (hm : m < 4) : rd ((xs.drop i).take 4) m = rd xs ((i : Int) + m) := by
  have e : ((i : Int) + m).toNat = i + m := by omega
  simp only [rd, e, Int.toNat_natCast, List.getD_eq_getElem?_getD, List.getElem?_take, if_pos hm, List.getElem?_drop]
theorem set_rd (l : List Int) (k : Nat) (h : k < l.length) : l.set k (rd l k) = l := by
  have e : rd l k = l[k] := by simp [rd, List.getD_eq_getElem?_getD, List.getElem?_eq_getElem h]
  rw [e, List.set_getElem_self]
theorem rd_set (l : List Int) (k : Nat) (x : Int) (h : k < l.length) : rd (l.set k x) k = x := by
  simp [rd, List.getD_eq_getElem?_getD, List.getElem?_set, h]
set_option maxHeartbeats 3200000 in
set_option maxRecDepth 20000 in
theorem words_calls (g o c : Nat) (b : List Int) (w : World) (hb : RdB w (some ⟨g, o, none⟩) 64 b) (hc : 64 ≤ c) (hbb : Bytes b) :
    Calls Tryd.prog 98 #[.slice (some ⟨g, o, none⟩) 64 c] w fun e w' => e = .returned (.agg (Us (sched b 64)).toArray) ∧ Below w.heap.size w w' := by
  have HB := Aside0.mk hb
  have HBB := Aside0.mk hbb
  clear hb hbb
  have Q0 : Aside0 (Bag w ((w.alloc (.cells (Us (List.replicate 64 0)).toArray 151)).alloc (.cells (Us (fillS b 0)).toArray 151)) [(w.heap.size, .cells (Us (List.replicate 64 0)).toArray 151 (0, 0)), (w.heap.size + 1, .cells (Us (fillS b 0)).toArray 151 (0, 0))]) := ⟨by
    have h := ((Bag.nil w).box (Us (List.replicate 64 0)).toArray 151).box (Us (fillS b 0)).toArray 151
    rwa [show (w.alloc (.cells (Us (List.replicate 64 0)).toArray 151)).heap.size = w.heap.size + 1 by simp] at h⟩
  go_enter Tryd.func98, Tryd.ntmps98
  go_wp2
  go_loopw [9] (fun i wr => ∃ j : Nat, j ≤ 64 ∧ i = .int .i64 j ∧ Bag w wr [(w.heap.size, .cells (Us (List.replicate 64 0)).toArray 151 (0, 0)), (w.heap.size + 1, .cells (Us (fillS b j)).toArray 151 (0, 0))]) (fun i _ => 64 - (intOf i).toNat)
  case atStart => exact ⟨0, by omega, rfl, Q0.out⟩
  case round =>
    clear Q0
    obtain ⟨j, hj, rfl, hQ⟩ := hrel
    have HQ := Aside0.mk hQ
    clear hQ
    by_cases hlt : j < 64
    · have HFL := Aside0.mk (fillS_len b j (by omega))
      by_cases h16 : j < 16
      · have HZ := Aside0.mk (fillS_zero b j hlt)
        have HFS := Aside0.mk (fillS_set b j hlt)
        have HWS : Aside0 (wstep b (sched b j) j = word b (4 * (j : Int))) := ⟨by rw [wstep, if_pos h16]⟩
        rw [HWS.out] at HFS
        obtain ⟨B, hs1, hR1⟩ := cut4 HB.out hc (4 * j) (by omega)
        have HR1 := Aside0.mk hR1
        have e1 : IntKind.i64.wrap (4 * (j : Int)) = 4 * (j : Int) := by rw [IntKind.wrap_i64]; omega
        have e2 : IntKind.i64.wrap (4 * (j : Int) + 4) = 4 * (j : Int) + 4 := by rw [IntKind.wrap_i64]; omega
        have hs2 : ∀ W : World, (Instr.slice 37 (.slice (some ⟨g, o, none⟩) 64 c) (some (.int .i64 (4 * (j : Int)))) (some (.int .i64 (4 * (j : Int) + 4))) none).run Tryd.prog W = .ok (.slice (some B) 4 (c - 4 * j)) W := hs1
        clear hs1 hR1
        have HQ0 : Aside0 (Bag w wr [(w.heap.size, .cells (Us (List.replicate 64 0)).toArray 151 (0, 0)), (w.heap.size + 1, .cells (Us ((fillS b j).set j (wp b (4 * (j : Int)) 0))).toArray 151 (0, 0))]) := ⟨by
          have e := set_rd (fillS b j) j (by rw [HFL.out]; omega)
          rw [HZ.out] at e
          rw [show wp b (4 * (j : Int)) 0 = 0 from rfl, e]
          exact HQ.out⟩
        go_wp2
        go_loopw [22] (fun i wr2 => ∃ m : Nat, m ≤ 4 ∧ i = .int .i64 m ∧ Bag w wr2 [(w.heap.size, .cells (Us (List.replicate 64 0)).toArray 151 (0, 0)), (w.heap.size + 1, .cells (Us ((fillS b j).set j (wp b (4 * (j : Int)) m))).toArray 151 (0, 0))]) (fun i _ => 4 - (intOf i).toNat)
        case atStart => exact ⟨0, by omega, rfl, HQ0.out⟩
        case round =>
          clear HQ0 HQ
          obtain ⟨m, hm, rfl, hQ⟩ := hrel
          have HQ := Aside0.mk hQ
          clear hQ
          by_cases hm4 : m < 4
          · obtain ⟨r0, r1⟩ := wp_range HBB.out (4 * (j : Int)) m hm4
            have bc := HBB.out.at_ (4 * (j : Int) + m)
            have hx : wr.cell? (B.add m) = some (.int .u8 (rd b (4 * (j : Int) + m))) := by
              have := rdB_at (Kd.C_below HR1.out HQ.out.below) m hm4
              rw [rd_cut b (4 * j) m hm4] at this
              exact this
            have HL : Aside0 (((fillS b j).set j (wp b (4 * (j : Int)) m)).length = 64) := ⟨by rw [List.length_set, HFL.out]⟩
            have hcell := us_cell (HQ.out.at 1 rfl) j (by rw [HL.out]; omega)
            rw [rd_set _ _ _ (by rw [HFL.out]; omega)] at hcell
            have hfz : wr.frozen? ⟨w.heap.size + 1, j, none⟩ = false := blk_frozen (HQ.out.at 1 rfl) _
            have HST : Aside0 (SetBlk wr (wr.setCell ⟨w.heap.size + 1, j, none⟩ (.int .u32 (wp b (4 * (j : Int)) (m + 1)))) (w.heap.size + 1) (.cells (Us ((fillS b j).set j (wp b (4 * (j : Int)) (m + 1)))).toArray 151 (0, 0))) := ⟨by
              have := us_set (HQ.out.at 1 rfl) j (wp b (4 * (j : Int)) (m + 1))
              rwa [List.set_set] at this⟩
            have HW : Aside0 (wp b (4 * (j : Int)) (m + 1) = wp b (4 * (j : Int)) m * 256 + rd b (4 * (j : Int) + m)) := ⟨rfl⟩
            have hjn := u32_join8 (wp b (4 * (j : Int)) m) (rd b (4 * (j : Int) + m)) r0 r1 bc.1 bc.2
            rw [HW.out] at HST
            generalize wp b (4 * (j : Int)) m = x at *
            generalize rd b (4 * (j : Int) + m) = cm at *
            have f1 : (x * 256) % 4294967296 = x * 256 := by omega
            have f2 : IntKind.u32.wrap cm = cm := by rw [IntKind.wrap_u32]; omega
            have HQS := Aside0.mk (HQ.out.set 1 rfl HST.out)
            clear HST
            go_wp2
            go_roundw
            case rel => exact ⟨m + 1, by omega, by go_num, by rw [HW.out]; exact HQS.out⟩
            case measure => simp [intOf]; omega
          · obtain rfl : m = 4 := by omega
            rw [wp4, HFS.out] at HQ
            go_wp2
            go_roundw
            case rel => exact ⟨j + 1, by omega, by go_num, HQ.out⟩
            case measure => simp [intOf]; omega
      · have HWS : Aside0 (wstep b (sched b j) j = wnext (sched b j) j) := ⟨by rw [wstep, if_neg h16]⟩
        have HFS := Aside0.mk (fillS_set b j hlt)
        rw [HWS.out] at HFS
        have HSW := Aside0.mk (sched_ws HBB.out j)
        have HXI : Aside0 (∀ i : Nat, i < j → ∀ W, Below wr.heap.size wr W → W.cell? ⟨w.heap.size + 1, i, none⟩ = some (.int .u32 (rd (sched b j) i))) := ⟨fun i hi W hW => by
          rw [us_cell (blk_below hW (HQ.out.at 1 rfl)) i (by rw [HFL.out]; omega), fillS_rd b j i hi]⟩
        have hfz : wr.frozen? ⟨w.heap.size + 1, j, none⟩ = false := blk_frozen (HQ.out.at 1 rfl) _
        have hcell := us_cell (HQ.out.at 1 rfl) j (by rw [HFL.out]; omega)
        have HST : Aside0 (SetBlk wr (wr.setCell ⟨w.heap.size + 1, j, none⟩ (.int .u32 (wnext (sched b j) j))) (w.heap.size + 1) (.cells (Us (fillS b (j + 1))).toArray 151 (0, 0))) := ⟨by
          have := us_set (HQ.out.at 1 rfl) j (wnext (sched b j) j)
          rwa [HFS.out] at this⟩
        have HQS := Aside0.mk (HQ.out.set 1 rfl HST.out)
        clear HST
        have HWN : Aside0 (wnext (sched b j) j = ad (ad (ad (rd (sched b j) ((j : Int) - 16)) (sg0 (rd (sched b j) ((j : Int) - 15)))) (rd (sched b j) ((j : Int) - 7))) (sg1 (rd (sched b j) ((j : Int) - 2)))) := ⟨rfl⟩
        rw [HWN.out] at HQS
        have w15 := HSW.out.at_ ((j : Int) - 15)
        have w2' := HSW.out.at_ ((j : Int) - 2)
        have HX15 : Aside0 (∀ W, Below wr.heap.size wr W → W.cell? ⟨w.heap.size + 1, j - 15, none⟩ = some (.int .u32 (rd (sched b j) ((j : Int) - 15)))) := ⟨fun W hW => by rw [HXI.out (j - 15) (by omega) W hW, show ((j - 15 : Nat) : Int) = (j : Int) - 15 by omega]⟩
        have HX2 : Aside0 (∀ W, Below wr.heap.size wr W → W.cell? ⟨w.heap.size + 1, j - 2, none⟩ = some (.int .u32 (rd (sched b j) ((j : Int) - 2)))) := ⟨fun W hW => by rw [HXI.out (j - 2) (by omega) W hW, show ((j - 2 : Nat) : Int) = (j : Int) - 2 by omega]⟩
        have HX16 : Aside0 (∀ W, Below wr.heap.size wr W → W.cell? ⟨w.heap.size + 1, j - 16, none⟩ = some (.int .u32 (rd (sched b j) ((j : Int) - 16)))) := ⟨fun W hW => by rw [HXI.out (j - 16) (by omega) W hW, show ((j - 16 : Nat) : Int) = (j : Int) - 16 by omega]⟩
        have HX7 : Aside0 (∀ W, Below wr.heap.size wr W → W.cell? ⟨w.heap.size + 1, j - 7, none⟩ = some (.int .u32 (rd (sched b j) ((j : Int) - 7)))) := ⟨fun W hW => by rw [HXI.out (j - 7) (by omega) W hW, show ((j - 7 : Nat) : Int) = (j : Int) - 7 by omega]⟩
        clear HWN HXI HSW HWS HFS
        generalize sched b j = ss at *
        generalize rd ss ((j : Int) - 15) = x15 at *
        generalize rd ss ((j : Int) - 2) = x2 at *
        generalize rd ss ((j : Int) - 16) = x16 at *
        generalize rd ss ((j : Int) - 7) = x7 at *
        generalize rd (fillS b j) j = old at *
        obtain ⟨t15, t2, t16, t7⟩ : ((j : Int) - 15).toNat = j - 15 ∧ ((j : Int) - 2).toNat = j - 2 ∧ ((j : Int) - 16).toNat = j - 16 ∧ ((j : Int) - 7).toNat = j - 7 := by omega
        obtain ⟨q15, q2, q16, q7⟩ : (15 : Int) ≤ (j : Int) ∧ (2 : Int) ≤ (j : Int) ∧ (16 : Int) ≤ (j : Int) ∧ (7 : Int) ≤ (j : Int) := by omega
        obtain ⟨u15, u2, u16, u7⟩ : (j : Int) - 15 < 64 ∧ (j : Int) - 2 < 64 ∧ (j : Int) - 16 < 64 ∧ (j : Int) - 7 < 64 := by omega
        obtain ⟨z15, z2, z16, z7⟩ : IntKind.i64.wrap ((j : Int) - 15) = (j : Int) - 15 ∧ IntKind.i64.wrap ((j : Int) - 2) = (j : Int) - 2 ∧ IntKind.i64.wrap ((j : Int) - 16) = (j : Int) - 16 ∧ IntKind.i64.wrap ((j : Int) - 7) = (j : Int) - 7 := by simp only [IntKind.wrap_i64]; omega
        have hnj : ¬ (j : Int) < 16 := by omega
        have hjI : (j : Int) < 64 := by omega
        have D1 : Aside0 (Below wr.heap.size wr wr.drew) := ⟨Below.drew (Below.refl _ _)⟩
        have D2 : Aside0 (Below wr.heap.size wr wr.drew.drew) := ⟨Below.drew D1.out⟩
        go_wp2
        refine seq_start [] (.take 0 (.take 1 (.take 2 (.take 3 (.take 4 (.take 5 (.take 6 (.take 7 (.take 8 (.take 9 .done)))))))))) (by kernel_rfl) (by kernel_rfl) (fun _ _ d _ _ h => by cases d <;> exact h) ?_
        refine seq_take (v := ?_) (a' := ?_) rfl rfl (by rfl) (fun w' hw' => ?_) ?_ ?_
        rotate_left 2
        · go_simp
          with_reducible rfl
        · simp only [Act.put, List.setIfInBounds_toArray, List.set_cons_zero, List.set_cons_succ, i64_w, i32_w]
          rfl
        refine seq_take (v := ?_) (a' := ?_) rfl rfl (by rfl) (fun w' hw' => ?_) ?_ ?_
        rotate_left 2
        · go_simp
          with_reducible rfl
        · simp only [Act.put, List.setIfInBounds_toArray, List.set_cons_zero, List.set_cons_succ, i64_w, i32_w]
          rfl
        refine seq_take (v := ?_) (a' := ?_) rfl rfl (by rfl) (fun w' hw' => ?_) ?_ ?_
        rotate_left 2
        · go_simp
          with_reducible rfl
        · simp only [Act.put, List.setIfInBounds_toArray, List.set_cons_zero, List.set_cons_succ, i64_w, i32_w]
          rfl
        refine seq_take (v := ?_) (a' := ?_) rfl rfl (by rfl) (fun w' hw' => ?_) ?_ ?_
        rotate_left 2
        · have hx := HX15.out w' (D1.out.trans hw'); go_simp
          with_reducible rfl
        · simp only [Act.put, List.setIfInBounds_toArray, List.set_cons_zero, List.set_cons_succ, i64_w, i32_w]
          rfl
        refine seq_take (v := ?_) (a' := ?_) rfl rfl (by rfl) (fun w' hw' => ?_) ?_ ?_
        rotate_left 2
        · go_simp
          with_reducible rfl
        · simp only [Act.put, List.setIfInBounds_toArray, List.set_cons_zero, List.set_cons_succ, i64_w, i32_w]
          rfl
        refine seq_take (v := ?_) (a' := ?_) rfl rfl (by rfl) (fun w' hw' => ?_) ?_ ?_
        rotate_left 2
        · go_simp
          with_reducible rfl
        · simp only [Act.put, List.setIfInBounds_toArray, List.set_cons_zero, List.set_cons_succ, i64_w, i32_w]
          rfl
        refine seq_take (v := ?_) (a' := ?_) rfl rfl (by rfl) (fun w' hw' => ?_) ?_ ?_
        rotate_left 2
        · go_simp
          with_reducible rfl
        · simp only [Act.put, List.setIfInBounds_toArray, List.set_cons_zero, List.set_cons_succ, i64_w, i32_w]
          rfl
        refine seq_take (v := ?_) (a' := ?_) rfl rfl (by rfl) (fun w' hw' => ?_) ?_ ?_
        rotate_left 2
        · have hx := HX2.out w' (D1.out.trans hw'); go_simp
          with_reducible rfl
        · simp only [Act.put, List.setIfInBounds_toArray, List.set_cons_zero, List.set_cons_succ, i64_w, i32_w]
          rfl
        refine seq_take (v := ?_) (a' := ?_) rfl rfl (by rfl) (fun w' hw' => ?_) ?_ ?_
        rotate_left 2
        · go_simp
          with_reducible rfl
        · simp only [Act.put, List.setIfInBounds_toArray, List.set_cons_zero, List.set_cons_succ, i64_w, i32_w]
          rfl
        refine seq_take (v := ?_) (a' := ?_) rfl rfl (by rfl) (fun w' hw' => ?_) ?_ ?_
        rotate_left 2
        · go_simp
          with_reducible rfl
        · simp only [Act.put, List.setIfInBounds_toArray, List.set_cons_zero, List.set_cons_succ, i64_w, i32_w]
          rfl
        refine seq_end ?_
        go_wp2
        refine seq_start [29] (.take 0 (.take 1 (.take 2 (.take 3 (.take 4 (.take 5 (.take 6 (.take 7 (.take 8 (.take 9 (.take 10 (.take 11 (.take 12 (.take 13 (.take 14 (.take 15 (.take 16 (.take 17 (.take 18 (.take 19 (.take 20 (.take 21 (.take 22 (.take 23 (.take 24 (.take 25 (.take 26 (.take 27 (.take 28 (.run 29 .done)))))))))))))))))))))))))))))) (by kernel_rfl) (by kernel_rfl) (fun _ _ d _ _ h => by cases d <;> exact h) ?_
        refine seq_take (v := ?_) (a' := ?_) rfl rfl (by rfl) (fun w' hw' => ?_) ?_ ?_
        rotate_left 2
        · go_simp
          with_reducible rfl
        · simp only [Act.put, List.setIfInBounds_toArray, List.set_cons_zero, List.set_cons_succ, i64_w, i32_w]
          rfl
        refine seq_take (v := ?_) (a' := ?_) rfl rfl (by rfl) (fun w' hw' => ?_) ?_ ?_
        rotate_left 2
        · go_simp
          with_reducible rfl
        · simp only [Act.put, List.setIfInBounds_toArray, List.set_cons_zero, List.set_cons_succ, i64_w, i32_w]
          rfl
        refine seq_take (v := ?_) (a' := ?_) rfl rfl (by rfl) (fun w' hw' => ?_) ?_ ?_
        rotate_left 2
        · go_simp
          with_reducible rfl
        · simp only [Act.put, List.setIfInBounds_toArray, List.set_cons_zero, List.set_cons_succ, i64_w, i32_w]
          rfl
        refine seq_take (v := ?_) (a' := ?_) rfl rfl (by rfl) (fun w' hw' => ?_) ?_ ?_
        rotate_left 2
        · go_simp
          with_reducible rfl
        · simp only [Act.put, List.setIfInBounds_toArray, List.set_cons_zero, List.set_cons_succ, i64_w, i32_w]
          rfl
        refine seq_take (v := ?_) (a' := ?_) rfl rfl (by rfl) (fun w' hw' => ?_) ?_ ?_
        rotate_left 2
        · have hx := HX16.out w' (D2.out.trans hw'); go_simp
          with_reducible rfl
        · simp only [Act.put, List.setIfInBounds_toArray, List.set_cons_zero, List.set_cons_succ, i64_w, i32_w]
          rfl
        refine seq_take (v := ?_) (a' := ?_) rfl rfl (by rfl) (fun w' hw' => ?_) ?_ ?_
        rotate_left 2
        · go_simp
          with_reducible rfl
        · simp only [Act.put, List.setIfInBounds_toArray, List.set_cons_zero, List.set_cons_succ, i64_w, i32_w]
          rfl
        refine seq_quiet (v := ?_) (a' := ?_) rfl rfl (by rfl) rfl Tryd.func103 (by kernel_rfl) rfl #[.int .u32 x15, .int .i64 (-7)] (by simp only [List.map_toArray, List.map_cons, List.map_nil]; rfl) (fun w' hw' => ?_) ?_ ?_
        rotate_left 2
        · with_reducible exact rotl_7 x15 w' w15.1 w15.2
        · simp only [Act.put, List.setIfInBounds_toArray, List.set_cons_zero, List.set_cons_succ, i64_w, i32_w]
          rfl
        refine seq_take (v := ?_) (a' := ?_) rfl rfl (by rfl) (fun w' hw' => ?_) ?_ ?_
        rotate_left 2
        · go_simp
          with_reducible rfl
        · simp only [Act.put, List.setIfInBounds_toArray, List.set_cons_zero, List.set_cons_succ, i64_w, i32_w]
          rfl
        refine seq_quiet (v := ?_) (a' := ?_) rfl rfl (by rfl) rfl Tryd.func103 (by kernel_rfl) rfl #[.int .u32 x15, .int .i64 (-18)] (by simp only [List.map_toArray, List.map_cons, List.map_nil]; rfl) (fun w' hw' => ?_) ?_ ?_
        rotate_left 2
        · with_reducible exact rotl_18 x15 w' w15.1 w15.2
        · simp only [Act.put, List.setIfInBounds_toArray, List.set_cons_zero, List.set_cons_succ, i64_w, i32_w]
          rfl
        refine seq_take (v := ?_) (a' := ?_) rfl rfl (by rfl) (fun w' hw' => ?_) ?_ ?_
        rotate_left 2
        · go_simp
          with_reducible rfl
        · simp only [Act.put, List.setIfInBounds_toArray, List.set_cons_zero, List.set_cons_succ, i64_w, i32_w]
          rfl
        refine seq_take (v := ?_) (a' := ?_) rfl rfl (by rfl) (fun w' hw' => ?_) ?_ ?_
        rotate_left 2
        · go_simp
          with_reducible rfl
        · simp only [Act.put, List.setIfInBounds_toArray, List.set_cons_zero, List.set_cons_succ, i64_w, i32_w]
          rfl
        refine seq_take (v := ?_) (a' := ?_) rfl rfl (by rfl) (fun w' hw' => ?_) ?_ ?_
        rotate_left 2
        · go_simp
          with_reducible rfl
        · simp only [Act.put, List.setIfInBounds_toArray, List.set_cons_zero, List.set_cons_succ, i64_w, i32_w]
          rfl
        refine seq_take (v := ?_) (a' := ?_) rfl rfl (by rfl) (fun w' hw' => ?_) ?_ ?_
        rotate_left 2
        · go_simp
          with_reducible rfl
        · simp only [Act.put, List.setIfInBounds_toArray, List.set_cons_zero, List.set_cons_succ, i64_w, i32_w]
          rfl
        refine seq_take (v := ?_) (a' := ?_) rfl rfl (by rfl) (fun w' hw' => ?_) ?_ ?_
        rotate_left 2
        · go_simp
          with_reducible rfl
        · simp only [Act.put, List.setIfInBounds_toArray, List.set_cons_zero, List.set_cons_succ, i64_w, i32_w]
          rfl
        refine seq_take (v := ?_) (a' := ?_) rfl rfl (by rfl) (fun w' hw' => ?_) ?_ ?_
        rotate_left 2
        · go_simp
          with_reducible rfl
        · simp only [Act.put, List.setIfInBounds_toArray, List.set_cons_zero, List.set_cons_succ, i64_w, i32_w]
          rfl
        refine seq_take (v := ?_) (a' := ?_) rfl rfl (by rfl) (fun w' hw' => ?_) ?_ ?_
        rotate_left 2
        · go_simp
          with_reducible rfl
        · simp only [Act.put, List.setIfInBounds_toArray, List.set_cons_zero, List.set_cons_succ, i64_w, i32_w]
          rfl
        refine seq_take (v := ?_) (a' := ?_) rfl rfl (by rfl) (fun w' hw' => ?_) ?_ ?_
        rotate_left 2
        · go_simp
          with_reducible rfl
        · simp only [Act.put, List.setIfInBounds_toArray, List.set_cons_zero, List.set_cons_succ, i64_w, i32_w]
          rfl
        refine seq_take (v := ?_) (a' := ?_) rfl rfl (by rfl) (fun w' hw' => ?_) ?_ ?_
        rotate_left 2
        · have hx := HX7.out w' (D2.out.trans hw'); go_simp
          with_reducible rfl
        · simp only [Act.put, List.setIfInBounds_toArray, List.set_cons_zero, List.set_cons_succ, i64_w, i32_w]
          rfl
        refine seq_take (v := ?_) (a' := ?_) rfl rfl (by rfl) (fun w' hw' => ?_) ?_ ?_
        rotate_left 2
        · go_simp
          with_reducible rfl
        · simp only [Act.put, List.setIfInBounds_toArray, List.set_cons_zero, List.set_cons_succ, i64_w, i32_w]
          rfl
        refine seq_take (v := ?_) (a' := ?_) rfl rfl (by rfl) (fun w' hw' => ?_) ?_ ?_
        rotate_left 2
        · go_simp
          with_reducible rfl
        · simp only [Act.put, List.setIfInBounds_toArray, List.set_cons_zero, List.set_cons_succ, i64_w, i32_w]
          rfl
        refine seq_quiet (v := ?_) (a' := ?_) rfl rfl (by rfl) rfl Tryd.func103 (by kernel_rfl) rfl #[.int .u32 x2, .int .i64 (-17)] (by simp only [List.map_toArray, List.map_cons, List.map_nil]; rfl) (fun w' hw' => ?_) ?_ ?_
        rotate_left 2
        · with_reducible exact rotl_17 x2 w' w2'.1 w2'.2
        · simp only [Act.put, List.setIfInBounds_toArray, List.set_cons_zero, List.set_cons_succ, i64_w, i32_w]
          rfl
        refine seq_take (v := ?_) (a' := ?_) rfl rfl (by rfl) (fun w' hw' => ?_) ?_ ?_
        rotate_left 2
        · go_simp
          with_reducible rfl
        · simp only [Act.put, List.setIfInBounds_toArray, List.set_cons_zero, List.set_cons_succ, i64_w, i32_w]
          rfl
        refine seq_quiet (v := ?_) (a' := ?_) rfl rfl (by rfl) rfl Tryd.func103 (by kernel_rfl) rfl #[.int .u32 x2, .int .i64 (-19)] (by simp only [List.map_toArray, List.map_cons, List.map_nil]; rfl) (fun w' hw' => ?_) ?_ ?_
        rotate_left 2
        · with_reducible exact rotl_19 x2 w' w2'.1 w2'.2
        · simp only [Act.put, List.setIfInBounds_toArray, List.set_cons_zero, List.set_cons_succ, i64_w, i32_w]
          rfl
        refine seq_take (v := ?_) (a' := ?_) rfl rfl (by rfl) (fun w' hw' => ?_) ?_ ?_
        rotate_left 2
        · go_simp
          with_reducible rfl
        · simp only [Act.put, List.setIfInBounds_toArray, List.set_cons_zero, List.set_cons_succ, i64_w, i32_w]
          rfl
        refine seq_take (v := ?_) (a' := ?_) rfl rfl (by rfl) (fun w' hw' => ?_) ?_ ?_
        rotate_left 2
        · go_simp
          with_reducible rfl
        · simp only [Act.put, List.setIfInBounds_toArray, List.set_cons_zero, List.set_cons_succ, i64_w, i32_w]
          rfl
        refine seq_take (v := ?_) (a' := ?_) rfl rfl (by rfl) (fun w' hw' => ?_) ?_ ?_
        rotate_left 2
        · go_simp
          with_reducible rfl
        · simp only [Act.put, List.setIfInBounds_toArray, List.set_cons_zero, List.set_cons_succ, i64_w, i32_w]
          rfl
        refine seq_take (v := ?_) (a' := ?_) rfl rfl (by rfl) (fun w' hw' => ?_) ?_ ?_
        rotate_left 2
        · go_simp
          with_reducible rfl
        · simp only [Act.put, List.setIfInBounds_toArray, List.set_cons_zero, List.set_cons_succ, i64_w, i32_w]
          rfl
        refine seq_take (v := ?_) (a' := ?_) rfl rfl (by rfl) (fun w' hw' => ?_) ?_ ?_
        rotate_left 2
        · go_simp
          with_reducible rfl
        · simp only [Act.put, List.setIfInBounds_toArray, List.set_cons_zero, List.set_cons_succ, i64_w, i32_w]
          rfl
        refine seq_take (v := ?_) (a' := ?_) rfl rfl (by rfl) (fun w' hw' => ?_) ?_ ?_
        rotate_left 2
        · go_simp
          with_reducible rfl
        · simp only [Act.put, List.setIfInBounds_toArray, List.set_cons_zero, List.set_cons_succ, i64_w, i32_w]
          rfl
        refine seq_run ?_
        refine do_store (w1 := ?_) rfl rfl (by rfl) ?_ ?_
        rotate_left
        · go_simp
          rfl
        refine ⟨fun h => absurd (by simp) h, ?_⟩
        refine seq_end ?_
        go_wp2
        go_roundw
        case rel => exact ⟨j + 1, by omega, by go_num, HQS.out.drew.drew⟩
        case measure => simp [intOf]; omega
    · obtain rfl : j = 64 := by omega
      have eF : fillS b 64 = sched b 64 := by simp [fillS]
      rw [eF] at HQ
      have hn64 := sched_len b 64
      obtain ⟨S, HSS⟩ : ∃ S, Aside0 (S = sched b 64) := ⟨_, ⟨rfl⟩⟩
      rw [← HSS.out] at HQ hn64
      have hsz : (Tryd.prog.info? 151).map (·.size) = some (Us S).length := by rw [Us_len, hn64]; kernel_rfl
      have hst := st_row (P := Tryd.prog) (HQ.out.at 0 rfl) 151 (Us S) (by rw [List.size_toArray, Us_len, Us_len, hn64, List.length_replicate]) hsz (Us_one _)
      have hld := ld_row (P := Tryd.prog) (HQ.out.at 1 rfl) 151 _ Tryd.underlying151 rfl (by rw [List.size_toArray]; exact hsz)
      have hset := setBlk_cells (HQ.out.at 0 rfl) (Us S) (by rw [List.size_toArray, Us_len, Us_len, hn64, List.length_replicate])
      generalize wr.setCells w.heap.size 0 (Us S) = w2 at *
      have Q9 := HQ.out.set 0 rfl hset
      have HST := Aside0.mk hst
      have HLD := Aside0.mk hld
      have H2 := Aside0.mk hset
      clear hst hld hset
      go_wp2_with (first | (refine load_arm rfl 151 (.tmp 3) rfl rfl HLD.out ?_) | (refine store_arm rfl 151 (.tmp 2) (.tmp 74) rfl rfl rfl HST.out ?_))
      (try simp only [Exit.inBlock, Exit.then])
      refine bodyPost_ret (v := .agg (Us S).toArray) (results_cell_row rfl _ _ w.heap.size _ _ _ _ rfl H2.out.at_ Tryd.underlying151 rfl ?_) rfl ⟨by rw [HSS.out], Q9.below⟩
      rw [hsz, List.size_toArray]
end Go.Proofs.YtnkkjmbpopodlaaDoor
namespace Go.Proofs.YtnkkjmbpopodlaaDoor
open Go.Proofs.YtnkkjmbpopodlaaDoorW.PrintLast (i64_w i32_w)
open Go.RowKit Go.Proofs.YtnkkjmbpopodlaaDoorW.PrintWords Go.Proofs.YtnkkjmbpopodlaaDoorW.PrintMore
set_option linter.unusedVariables false
set_option linter.unusedSimpArgs false
theorem ones_subS (s : Nat) (h : s < 4294967296) : ((4294967295 ^^^ s : Nat) : Int) = 4294967295 - (s : Int) := by
  have : 4294967295 ^^^ s = 4294967295 - s := by
    have h1 : s ^^^ (2 ^ 32 - 1) = 2 ^ 32 - 1 - s := by
      apply Nat.eq_of_testBit_eq
      intro i
      rw [Nat.testBit_xor, Nat.testBit_two_pow_sub_one, Nat.sub_sub, Nat.add_comm 1 s]
      rw [Nat.testBit_two_pow_sub_succ (by omega)]
      by_cases hi : i < 32
      · simp [hi]
      · have hs : s.testBit i = false := Nat.testBit_lt_two_pow (Nat.lt_of_lt_of_le h (show 2 ^ 32 ≤ 2 ^ i from Nat.pow_le_pow_right (by omega) (by omega)))
        simp [hi, hs]
    rw [Nat.xor_comm]
    exact h1
  rw [this]
  omega

theorem un_xorS (x : Nat) (h : x < 4294967296) : Op.unary .xor (.int .u32 (x : Int)) = pure (.int .u32 ((4294967295 ^^^ x : Nat) : Int)) := by
  have hm : IntKind.u32.max = 4294967295 := by simp [IntKind.max, IntKind.bits, IntKind.signed]
  rw [unary_xor, intBits_xor, hm, if_neg (by simp [IntKind.signed])]
  rw [u32_xor _ _ (by omega) (by omega) (by omega) (by omega), Int.toNat_natCast]
  rfl

theorem un_not (x : Int) (h0 : 0 ≤ x) (h1 : x < 4294967296) : Op.unary .xor (.int .u32 x) = pure (.int .u32 (4294967295 - x)) := by
  obtain ⟨n, rfl⟩ := Int.eq_ofNat_of_zero_le h0
  rw [un_xorS n (by omega), ones_subS n (by omega)]
theorem a64_info : ∃ it z, Tryd.prog.info? 151 = some it ∧ it.zero = some z ∧ it.size = 64 ∧ z.cells.size = 64 := by
  have h : (Tryd.prog.info? 151).map (fun i => (i.zero.map (·.cells.size), i.size)) = some (some 64, 64) := by kernel_rfl
  obtain ⟨it, h1, h2⟩ := Option.map_eq_some_iff.1 h
  simp only [Prod.mk.injEq] at h2
  obtain ⟨z, h3, h4⟩ := Option.map_eq_some_iff.1 h2.1
  exact ⟨it, z, h1, h3, h2.2, h4⟩
theorem a8_info : ∃ it z, Tryd.prog.info? 145 = some it ∧ it.zero = some z ∧ it.size = 8 ∧ z.cells.size = 8 := by
  have h : (Tryd.prog.info? 145).map (fun i => (i.zero.map (·.cells.size), i.size)) = some (some 8, 8) := by kernel_rfl
  obtain ⟨it, h1, h2⟩ := Option.map_eq_some_iff.1 h
  simp only [Prod.mk.injEq] at h2
  obtain ⟨z, h3, h4⟩ := Option.map_eq_some_iff.1 h2.1
  exact ⟨it, z, h1, h3, h2.2, h4⟩
theorem size_a8 (xs : List Int) (hn : xs.length = 8) : (Tryd.prog.info? 145).map (·.size) = some (Us xs).length := by rw [Us_len, hn]; kernel_rfl
theorem built_a8 (x0 x1 x2 x3 x4 x5 x6 x7 : Int) : Tryd.prog.built 145 [(0, .int .u32 x0), (1, .int .u32 x1), (2, .int .u32 x2), (3, .int .u32 x3), (4, .int .u32 x4), (5, .int .u32 x5), (6, .int .u32 x6), (7, .int .u32 x7)] = some (Us [x0, x1, x2, x3, x4, x5, x6, x7]).toArray := by kernel_rfl
section
variable {P : Program} {ops : Array Oper} {rest : List Oper} {a : Act} {Q : Exit → Act → World → Prop} {w : World} {d : Option Tmp} {ty0 : TypeId} {ps : String} {af : Array Edge}
theorem at_al (ty : TypeId) (h : wpList P ops Q ({ dst := d, op := .alloc ty, type := ty0, pos := ps, after := af, guard := none } :: rest) a w) : wpList P ops Q ({ dst := d, op := .alloc ty, type := ty0, pos := ps, after := af, guard := none } :: rest) a w := h
end
section
variable {ops : Array Oper} {rest : List Oper} {o : Oper} {a : Act} {Q : Exit → Act → World → Prop} {w : World}
theorem new_a64 {xs : List Int} {o1 o2 : Oper} {N : Tmp} (hg1 : o1.guard = none) (hg2 : o2.guard = none) (hd1 : o1.dst = some N) (ho1 : o1.op = .alloc 151) (y : Operand) (ho2 : o2.op = .store 151 (.tmp N) y) (hN : N < a.tmps.size)
    (hy : (a.put (some N) (.pointer (some ⟨w.heap.size, 0, none⟩))).eval y = .agg (Us xs).toArray) (hn : xs.length = 64)
    (h : ∀ w1 g, NewBlk w w1 g (.cells (Us xs).toArray 151 (0, 0)) → wpList Tryd.prog ops Q rest ((a.put (some N) (.pointer (some ⟨g, 0, none⟩))).put o2.dst undef) w1) : wpList Tryd.prog ops Q (o1 :: o2 :: rest) a w := by
  obtain ⟨it, z, h1, h2, h3, h4⟩ := a64_info
  exact new_var hg1 hg2 hd1 _ ho1 y ho2 hN hy h1 h2 (by rw [h4, Us_len, hn]) (by rw [h3, Us_len, hn]) (Us_one _) h
theorem new_a8 {xs : List Int} {o1 o2 : Oper} {N : Tmp} (hg1 : o1.guard = none) (hg2 : o2.guard = none) (hd1 : o1.dst = some N) (ho1 : o1.op = .alloc 145) (y : Operand) (ho2 : o2.op = .store 145 (.tmp N) y) (hN : N < a.tmps.size)
    (hy : (a.put (some N) (.pointer (some ⟨w.heap.size, 0, none⟩))).eval y = .agg (Us xs).toArray) (hn : xs.length = 8)
    (h : ∀ w1 g, NewBlk w w1 g (.cells (Us xs).toArray 145 (0, 0)) → wpList Tryd.prog ops Q rest ((a.put (some N) (.pointer (some ⟨g, 0, none⟩))).put o2.dst undef) w1) : wpList Tryd.prog ops Q (o1 :: o2 :: rest) a w := by
  obtain ⟨it, z, h1, h2, h3, h4⟩ := a8_info
  exact new_var hg1 hg2 hd1 _ ho1 y ho2 hN hy h1 h2 (by rw [h4, Us_len, hn]) (by rw [h3, Us_len, hn]) (Us_one _) h
end
theorem ld_a8 {W : World} {g T : Nat} {fr : Nat × Nat} {xs : List Int} (h : W.heap[g]? = some (.cells (Us xs).toArray T fr)) (hn : xs.length = 8) : (Instr.loadAt 145 (.pointer (some ⟨g, 0, none⟩))).run Tryd.prog W = .ok (.agg (Us xs).toArray) W :=
  ld_row (P := Tryd.prog) h 145 _ Tryd.underlying145 rfl (by rw [List.size_toArray]; exact size_a8 xs hn)
/-- What sha's table holds. -/
def Roots (w : World) : Prop := ∀ i : Nat, i < 64 → w.cell? ⟨0, i, none⟩ = some (.int .u32 (rd Kc i))
theorem Roots.below {w w1 : World} (h : Roots w) (hb : Below w.heap.size w w1) : Roots w1 := fun i hi => pw_cell_below hb (h i hi)
set_option maxHeartbeats 3200000 in
set_option maxRecDepth 20000 in
theorem mix_calls (h : List Int) (C : Array Value) (g o c : Nat) (b : List Int) (w : World) (hC : C = (Us h).toArray) (hh : h.length = 8) (hw : Ws h) (hb : RdB w (some ⟨g, o, none⟩) 64 b) (hc : 64 ≤ c) (hbb : Bytes b) (hk : Roots w) :
    Calls Tryd.prog 93 #[.agg C, .slice (some ⟨g, o, none⟩) 64 c] w fun e w' => e = .returned (.agg (Us (comp h b)).toArray) ∧ Below w.heap.size w w' := by
  have HB := Aside0.mk hb
  have HBB := Aside0.mk hbb
  have HK := Aside0.mk hk
  have HW := Aside0.mk hw
  have HH := Aside0.mk hh
  have Q0 : Aside0 (Bag w ((w.alloc (.cells C 145)).alloc (.cells (Us (List.replicate 8 0)).toArray 145)) [(w.heap.size, .cells (Us h).toArray 145 (0, 0)), (w.heap.size + 1, .cells (Us (List.replicate 8 0)).toArray 145 (0, 0))]) := ⟨by
    have h := ((Bag.nil w).box C 145).box (Us (List.replicate 8 0)).toArray 145
    rw [show (w.alloc (.cells C 145)).heap.size = w.heap.size + 1 by simp] at h
    rw [← hC]
    exact h⟩
  clear hb hbb hk hC hw hh
  obtain ⟨ss, HSS⟩ : ∃ ss, Aside0 (ss = sched b 64) := ⟨_, ⟨rfl⟩⟩
  have HSL : Aside0 (ss.length = 64) := ⟨by rw [HSS.out]; exact sched_len b 64⟩
  have HCP : Aside0 (comp h b = fins h (rounds ss h 64) 8) := ⟨by rw [HSS.out]; rfl⟩
  go_enter Tryd.func93, Tryd.ntmps93
  go_wp2_with (first
    | (go_at_call 98; refine (words_calls g o c b _ (Kd.C_below HB.out Q0.out.below) hc HBB.out).mono ?_; rw [← HSS.out]; rintro e w1 ⟨rfl, hB1⟩; have Q1 := Q0.out.call hB1; clear hB1)
    | ((with_reducible refine at_al 151 ?_); refine new_a64 rfl rfl rfl rfl (.tmp 14) rfl (of_decide_eq_true rfl) rfl HSL.out ?_; rintro w2 g5 N5; have Q2 := Q1.new N5; clear N5)
    | ((with_reducible refine at_ld (w := w2) 145 (.tmp 2) ?_); have hq := Q2.at 0 rfl; refine load_arm rfl 145 (.tmp 2) rfl rfl (ld_a8 hq HH.out) ?_; clear hq; simp only [Act.put, List.setIfInBounds_toArray, List.set_cons_zero, List.set_cons_succ])
    | ((with_reducible refine at_al 145 ?_); refine new_a8 rfl rfl rfl rfl (.tmp 15) rfl (of_decide_eq_true rfl) rfl HH.out ?_; rintro w3 g6 N6; have Q3 := Q2.new N6; clear N6))
  have HQ3 := Aside0.mk Q3
  clear Q1 Q2 Q3
  go_loopw [16] (fun i wr => ∃ j : Nat, j ≤ 64 ∧ i = .int .i64 j ∧ Bag w wr [(w.heap.size, .cells (Us h).toArray 145 (0, 0)), (w.heap.size + 1, .cells (Us (List.replicate 8 0)).toArray 145 (0, 0)), (g5, .cells (Us ss).toArray 151 (0, 0)), (g6, .cells (Us (rounds ss h j)).toArray 145 (0, 0))]) (fun i _ => 64 - (intOf i).toNat)
  case atStart => exact ⟨0, by omega, rfl, HQ3.out⟩
  case round =>
    clear HQ3 Q0
    obtain ⟨j, hj, rfl, hQ⟩ := hrel
    have HQ := Aside0.mk hQ
    clear hQ
    by_cases hlt : j < 64
    · have HRL := Aside0.mk (rounds_len (w := ss) HH.out j)
      have HRW := Aside0.mk (rounds_ws (w := ss) HW.out j)
      have HKC : Aside0 (∀ W, Below wr.heap.size wr W → W.cell? ⟨0, j, none⟩ = some (.int .u32 (rd Kc j))) := ⟨fun W hW => (HK.out.below (HQ.out.below.trans (hW.mono HQ.out.below.size))) j hlt⟩
      have HWC : Aside0 (∀ W, Below wr.heap.size wr W → W.cell? ⟨g5, j, none⟩ = some (.int .u32 (rd ss j))) := ⟨fun W hW => us_cell (blk_below hW (HQ.out.at 2 rfl)) j (by rw [HSL.out]; omega)⟩
      have HN : Aside0 (rounds ss h (j + 1) = rnd (rounds ss h j) (rd Kc j) (rd ss j)) := ⟨rfl⟩
      generalize rounds ss h j = vv at *
      have V0 : Aside0 (∀ W, Below wr.heap.size wr W → W.cell? ⟨g6, 0, none⟩ = some (.int .u32 (rd vv 0))) := ⟨fun W hW => us_cell (blk_below hW (HQ.out.at 3 rfl)) 0 (by rw [HRL.out]; omega)⟩
      have V1 : Aside0 (∀ W, Below wr.heap.size wr W → W.cell? ⟨g6, 1, none⟩ = some (.int .u32 (rd vv 1))) := ⟨fun W hW => us_cell (blk_below hW (HQ.out.at 3 rfl)) 1 (by rw [HRL.out]; omega)⟩
      have V2 : Aside0 (∀ W, Below wr.heap.size wr W → W.cell? ⟨g6, 2, none⟩ = some (.int .u32 (rd vv 2))) := ⟨fun W hW => us_cell (blk_below hW (HQ.out.at 3 rfl)) 2 (by rw [HRL.out]; omega)⟩
      have V3 : Aside0 (∀ W, Below wr.heap.size wr W → W.cell? ⟨g6, 3, none⟩ = some (.int .u32 (rd vv 3))) := ⟨fun W hW => us_cell (blk_below hW (HQ.out.at 3 rfl)) 3 (by rw [HRL.out]; omega)⟩
      have V4 : Aside0 (∀ W, Below wr.heap.size wr W → W.cell? ⟨g6, 4, none⟩ = some (.int .u32 (rd vv 4))) := ⟨fun W hW => us_cell (blk_below hW (HQ.out.at 3 rfl)) 4 (by rw [HRL.out]; omega)⟩
      have V5 : Aside0 (∀ W, Below wr.heap.size wr W → W.cell? ⟨g6, 5, none⟩ = some (.int .u32 (rd vv 5))) := ⟨fun W hW => us_cell (blk_below hW (HQ.out.at 3 rfl)) 5 (by rw [HRL.out]; omega)⟩
      have V6 : Aside0 (∀ W, Below wr.heap.size wr W → W.cell? ⟨g6, 6, none⟩ = some (.int .u32 (rd vv 6))) := ⟨fun W hW => us_cell (blk_below hW (HQ.out.at 3 rfl)) 6 (by rw [HRL.out]; omega)⟩
      have V7 : Aside0 (∀ W, Below wr.heap.size wr W → W.cell? ⟨g6, 7, none⟩ = some (.int .u32 (rd vv 7))) := ⟨fun W hW => us_cell (blk_below hW (HQ.out.at 3 rfl)) 7 (by rw [HRL.out]; omega)⟩
      have HX6 : Aside0 (wr.heap[g6]? = some (.cells (Us vv).toArray 145 (0, 0))) := ⟨HQ.out.at 3 rfl⟩
      have HN2 : Aside0 (rounds ss h (j + 1) = [ad (ad (ad (ad (ad (rd vv 7) (bs1 (rd vv 4))) (ch (rd vv 4) (rd vv 5) (rd vv 6))) (rd Kc j)) (rd ss j)) (ad (bs0 (rd vv 0)) (maj (rd vv 0) (rd vv 1) (rd vv 2))), rd vv 0, rd vv 1, rd vv 2, ad (rd vv 3) (ad (ad (ad (ad (rd vv 7) (bs1 (rd vv 4))) (ch (rd vv 4) (rd vv 5) (rd vv 6))) (rd Kc j)) (rd ss j)), rd vv 4, rd vv 5, rd vv 6]) := ⟨by rw [HN.out]; rfl⟩
      have W4 := HRW.out.at_ 4
      have W0 := HRW.out.at_ 0
      generalize rd Kc j = kj at *
      generalize rd ss j = wj at *
      generalize hx0 : rd vv 0 = x0 at *
      generalize hx1 : rd vv 1 = x1 at *
      generalize hx2 : rd vv 2 = x2 at *
      generalize hx3 : rd vv 3 = x3 at *
      generalize hx4 : rd vv 4 = x4 at *
      generalize hx5 : rd vv 5 = x5 at *
      generalize hx6 : rd vv 6 = x6 at *
      generalize hx7 : rd vv 7 = x7 at *
      clear HN
      have hun := un_not x4 W4.1 W4.2
      have hltI : (j : Int) < 64 := by omega
      have D1 : Aside0 (Below wr.heap.size wr wr.drew) := ⟨Below.drew (Below.refl _ _)⟩
      have D2 : Aside0 (Below wr.heap.size wr wr.drew.drew) := ⟨Below.drew D1.out⟩
      have D3 : Aside0 (Below wr.heap.size wr wr.drew.drew.drew) := ⟨Below.drew D2.out⟩
      go_wp2
      refine seq_start [] (.take 0 (.take 1 (.take 2 (.take 3 (.take 4 (.take 5 .done)))))) (by kernel_rfl) (by kernel_rfl) (fun _ _ d _ _ h => by cases d <;> exact h) ?_
      refine seq_take (v := ?_) (a' := ?_) rfl rfl (by rfl) (fun w' hw' => ?_) ?_ ?_
      rotate_left 2
      · go_simp
        with_reducible rfl
      · simp only [Act.put, List.setIfInBounds_toArray, List.set_cons_zero, List.set_cons_succ, i64_w, i32_w]
        rfl
      refine seq_take (v := ?_) (a' := ?_) rfl rfl (by rfl) (fun w' hw' => ?_) ?_ ?_
      rotate_left 2
      · have hx := V4.out w' (D1.out.trans hw'); go_simp
        with_reducible rfl
      · simp only [Act.put, List.setIfInBounds_toArray, List.set_cons_zero, List.set_cons_succ, i64_w, i32_w]
        rfl
      refine seq_take (v := ?_) (a' := ?_) rfl rfl (by rfl) (fun w' hw' => ?_) ?_ ?_
      rotate_left 2
      · go_simp
        with_reducible rfl
      · simp only [Act.put, List.setIfInBounds_toArray, List.set_cons_zero, List.set_cons_succ, i64_w, i32_w]
        rfl
      refine seq_take (v := ?_) (a' := ?_) rfl rfl (by rfl) (fun w' hw' => ?_) ?_ ?_
      rotate_left 2
      · have hx := V0.out w' (D1.out.trans hw'); go_simp
        with_reducible rfl
      · simp only [Act.put, List.setIfInBounds_toArray, List.set_cons_zero, List.set_cons_succ, i64_w, i32_w]
        rfl
      refine seq_take (v := ?_) (a' := ?_) rfl rfl (by rfl) (fun w' hw' => ?_) ?_ ?_
      rotate_left 2
      · go_simp
        with_reducible rfl
      · simp only [Act.put, List.setIfInBounds_toArray, List.set_cons_zero, List.set_cons_succ, i64_w, i32_w]
        rfl
      refine seq_take (v := ?_) (a' := ?_) rfl rfl (by rfl) (fun w' hw' => ?_) ?_ ?_
      rotate_left 2
      · go_simp
        with_reducible rfl
      · simp only [Act.put, List.setIfInBounds_toArray, List.set_cons_zero, List.set_cons_succ, i64_w, i32_w]
        rfl
      refine seq_end ?_
      go_wp2
      refine seq_start [] (.take 0 (.take 1 (.take 2 (.take 3 (.take 4 (.take 5 (.take 6 (.take 7 (.take 8 (.take 9 (.take 10 (.take 11 (.take 12 (.take 13 (.take 14 (.take 15 (.take 16 (.take 17 (.take 18 (.take 19 (.take 20 (.take 21 (.take 22 (.take 23 (.take 24 .done))))))))))))))))))))))))) (by kernel_rfl) (by kernel_rfl) (fun _ _ d _ _ h => by cases d <;> exact h) ?_
      refine seq_take (v := ?_) (a' := ?_) rfl rfl (by rfl) (fun w' hw' => ?_) ?_ ?_
      rotate_left 2
      · go_simp
        with_reducible rfl
      · simp only [Act.put, List.setIfInBounds_toArray, List.set_cons_zero, List.set_cons_succ, i64_w, i32_w]
        rfl
      refine seq_take (v := ?_) (a' := ?_) rfl rfl (by rfl) (fun w' hw' => ?_) ?_ ?_
      rotate_left 2
      · have hx := V7.out w' (D2.out.trans hw'); go_simp
        with_reducible rfl
      · simp only [Act.put, List.setIfInBounds_toArray, List.set_cons_zero, List.set_cons_succ, i64_w, i32_w]
        rfl
      refine seq_take (v := ?_) (a' := ?_) rfl rfl (by rfl) (fun w' hw' => ?_) ?_ ?_
      rotate_left 2
      · go_simp
        with_reducible rfl
      · simp only [Act.put, List.setIfInBounds_toArray, List.set_cons_zero, List.set_cons_succ, i64_w, i32_w]
        rfl
      refine seq_quiet (v := ?_) (a' := ?_) rfl rfl (by rfl) rfl Tryd.func99 (by kernel_rfl) rfl #[.int .u32 x4, .int .i64 6, .int .i64 11, .int .i64 25] (by simp only [List.map_toArray, List.map_cons, List.map_nil]; rfl) (fun w' hw' => ?_) ?_ ?_
      rotate_left 2
      · with_reducible exact turnedE x4 w' W4.1 W4.2
      · simp only [Act.put, List.setIfInBounds_toArray, List.set_cons_zero, List.set_cons_succ, i64_w, i32_w]
        rfl
      refine seq_take (v := ?_) (a' := ?_) rfl rfl (by rfl) (fun w' hw' => ?_) ?_ ?_
      rotate_left 2
      · go_simp
        with_reducible rfl
      · simp only [Act.put, List.setIfInBounds_toArray, List.set_cons_zero, List.set_cons_succ, i64_w, i32_w]
        rfl
      refine seq_take (v := ?_) (a' := ?_) rfl rfl (by rfl) (fun w' hw' => ?_) ?_ ?_
      rotate_left 2
      · go_simp
        with_reducible rfl
      · simp only [Act.put, List.setIfInBounds_toArray, List.set_cons_zero, List.set_cons_succ, i64_w, i32_w]
        rfl
      refine seq_take (v := ?_) (a' := ?_) rfl rfl (by rfl) (fun w' hw' => ?_) ?_ ?_
      rotate_left 2
      · go_simp
        with_reducible rfl
      · simp only [Act.put, List.setIfInBounds_toArray, List.set_cons_zero, List.set_cons_succ, i64_w, i32_w]
        rfl
      refine seq_take (v := ?_) (a' := ?_) rfl rfl (by rfl) (fun w' hw' => ?_) ?_ ?_
      rotate_left 2
      · have hx := V5.out w' (D2.out.trans hw'); go_simp
        with_reducible rfl
      · simp only [Act.put, List.setIfInBounds_toArray, List.set_cons_zero, List.set_cons_succ, i64_w, i32_w]
        rfl
      refine seq_take (v := ?_) (a' := ?_) rfl rfl (by rfl) (fun w' hw' => ?_) ?_ ?_
      rotate_left 2
      · go_simp
        with_reducible rfl
      · simp only [Act.put, List.setIfInBounds_toArray, List.set_cons_zero, List.set_cons_succ, i64_w, i32_w]
        rfl
      refine seq_take (v := ?_) (a' := ?_) rfl rfl (by rfl) (fun w' hw' => ?_) ?_ ?_
      rotate_left 2
      · go_simp
        with_reducible rfl
      · simp only [Act.put, List.setIfInBounds_toArray, List.set_cons_zero, List.set_cons_succ, i64_w, i32_w]
        rfl
      refine seq_take (v := ?_) (a' := ?_) rfl rfl (by rfl) (fun w' hw' => ?_) ?_ ?_
      rotate_left 2
      · go_simp
        with_reducible rfl
      · simp only [Act.put, List.setIfInBounds_toArray, List.set_cons_zero, List.set_cons_succ, i64_w, i32_w]
        rfl
      refine seq_take (v := ?_) (a' := ?_) rfl rfl (by rfl) (fun w' hw' => ?_) ?_ ?_
      rotate_left 2
      · go_simp
        with_reducible rfl
      · simp only [Act.put, List.setIfInBounds_toArray, List.set_cons_zero, List.set_cons_succ, i64_w, i32_w]
        rfl
      refine seq_take (v := ?_) (a' := ?_) rfl rfl (by rfl) (fun w' hw' => ?_) ?_ ?_
      rotate_left 2
      · have hx := V6.out w' (D2.out.trans hw'); go_simp
        with_reducible rfl
      · simp only [Act.put, List.setIfInBounds_toArray, List.set_cons_zero, List.set_cons_succ, i64_w, i32_w]
        rfl
      refine seq_take (v := ?_) (a' := ?_) rfl rfl (by rfl) (fun w' hw' => ?_) ?_ ?_
      rotate_left 2
      · go_simp
        with_reducible rfl
      · simp only [Act.put, List.setIfInBounds_toArray, List.set_cons_zero, List.set_cons_succ, i64_w, i32_w]
        rfl
      refine seq_take (v := ?_) (a' := ?_) rfl rfl (by rfl) (fun w' hw' => ?_) ?_ ?_
      rotate_left 2
      · go_simp
        with_reducible rfl
      · simp only [Act.put, List.setIfInBounds_toArray, List.set_cons_zero, List.set_cons_succ, i64_w, i32_w]
        rfl
      refine seq_take (v := ?_) (a' := ?_) rfl rfl (by rfl) (fun w' hw' => ?_) ?_ ?_
      rotate_left 2
      · go_simp
        with_reducible rfl
      · simp only [Act.put, List.setIfInBounds_toArray, List.set_cons_zero, List.set_cons_succ, i64_w, i32_w]
        rfl
      refine seq_take (v := ?_) (a' := ?_) rfl rfl (by rfl) (fun w' hw' => ?_) ?_ ?_
      rotate_left 2
      · go_simp
        with_reducible rfl
      · simp only [Act.put, List.setIfInBounds_toArray, List.set_cons_zero, List.set_cons_succ, i64_w, i32_w]
        rfl
      refine seq_take (v := ?_) (a' := ?_) rfl rfl (by rfl) (fun w' hw' => ?_) ?_ ?_
      rotate_left 2
      · go_simp
        with_reducible rfl
      · simp only [Act.put, List.setIfInBounds_toArray, List.set_cons_zero, List.set_cons_succ, i64_w, i32_w]
        rfl
      refine seq_take (v := ?_) (a' := ?_) rfl rfl (by rfl) (fun w' hw' => ?_) ?_ ?_
      rotate_left 2
      · have hx := HKC.out w' (D2.out.trans hw'); go_simp
        with_reducible rfl
      · simp only [Act.put, List.setIfInBounds_toArray, List.set_cons_zero, List.set_cons_succ, i64_w, i32_w]
        rfl
      refine seq_take (v := ?_) (a' := ?_) rfl rfl (by rfl) (fun w' hw' => ?_) ?_ ?_
      rotate_left 2
      · go_simp
        with_reducible rfl
      · simp only [Act.put, List.setIfInBounds_toArray, List.set_cons_zero, List.set_cons_succ, i64_w, i32_w]
        rfl
      refine seq_take (v := ?_) (a' := ?_) rfl rfl (by rfl) (fun w' hw' => ?_) ?_ ?_
      rotate_left 2
      · go_simp
        with_reducible rfl
      · simp only [Act.put, List.setIfInBounds_toArray, List.set_cons_zero, List.set_cons_succ, i64_w, i32_w]
        rfl
      refine seq_take (v := ?_) (a' := ?_) rfl rfl (by rfl) (fun w' hw' => ?_) ?_ ?_
      rotate_left 2
      · go_simp
        with_reducible rfl
      · simp only [Act.put, List.setIfInBounds_toArray, List.set_cons_zero, List.set_cons_succ, i64_w, i32_w]
        rfl
      refine seq_take (v := ?_) (a' := ?_) rfl rfl (by rfl) (fun w' hw' => ?_) ?_ ?_
      rotate_left 2
      · have hx := HWC.out w' (D2.out.trans hw'); go_simp
        with_reducible rfl
      · simp only [Act.put, List.setIfInBounds_toArray, List.set_cons_zero, List.set_cons_succ, i64_w, i32_w]
        rfl
      refine seq_take (v := ?_) (a' := ?_) rfl rfl (by rfl) (fun w' hw' => ?_) ?_ ?_
      rotate_left 2
      · go_simp
        with_reducible rfl
      · simp only [Act.put, List.setIfInBounds_toArray, List.set_cons_zero, List.set_cons_succ, i64_w, i32_w]
        rfl
      refine seq_take (v := ?_) (a' := ?_) rfl rfl (by rfl) (fun w' hw' => ?_) ?_ ?_
      rotate_left 2
      · go_simp
        with_reducible rfl
      · simp only [Act.put, List.setIfInBounds_toArray, List.set_cons_zero, List.set_cons_succ, i64_w, i32_w]
        rfl
      refine seq_end ?_
      go_wp2
      refine seq_start [] (.take 0 (.take 1 (.take 2 (.take 3 (.take 4 (.take 5 (.take 6 (.take 7 (.take 8 (.take 9 (.take 10 (.take 11 (.take 12 (.take 13 (.take 14 (.take 15 (.take 16 (.take 17 (.take 18 .done))))))))))))))))))) (by kernel_rfl) (by kernel_rfl) (fun _ _ d _ _ h => by cases d <;> exact h) ?_
      refine seq_take (v := ?_) (a' := ?_) rfl rfl (by rfl) (fun w' hw' => ?_) ?_ ?_
      rotate_left 2
      · go_simp
        with_reducible rfl
      · simp only [Act.put, List.setIfInBounds_toArray, List.set_cons_zero, List.set_cons_succ, i64_w, i32_w]
        rfl
      refine seq_quiet (v := ?_) (a' := ?_) rfl rfl (by rfl) rfl Tryd.func99 (by kernel_rfl) rfl #[.int .u32 x0, .int .i64 2, .int .i64 13, .int .i64 22] (by simp only [List.map_toArray, List.map_cons, List.map_nil]; rfl) (fun w' hw' => ?_) ?_ ?_
      rotate_left 2
      · with_reducible exact turnedA x0 w' W0.1 W0.2
      · simp only [Act.put, List.setIfInBounds_toArray, List.set_cons_zero, List.set_cons_succ, i64_w, i32_w]
        rfl
      refine seq_take (v := ?_) (a' := ?_) rfl rfl (by rfl) (fun w' hw' => ?_) ?_ ?_
      rotate_left 2
      · go_simp
        with_reducible rfl
      · simp only [Act.put, List.setIfInBounds_toArray, List.set_cons_zero, List.set_cons_succ, i64_w, i32_w]
        rfl
      refine seq_take (v := ?_) (a' := ?_) rfl rfl (by rfl) (fun w' hw' => ?_) ?_ ?_
      rotate_left 2
      · go_simp
        with_reducible rfl
      · simp only [Act.put, List.setIfInBounds_toArray, List.set_cons_zero, List.set_cons_succ, i64_w, i32_w]
        rfl
      refine seq_take (v := ?_) (a' := ?_) rfl rfl (by rfl) (fun w' hw' => ?_) ?_ ?_
      rotate_left 2
      · have hx := V1.out w' (D3.out.trans hw'); go_simp
        with_reducible rfl
      · simp only [Act.put, List.setIfInBounds_toArray, List.set_cons_zero, List.set_cons_succ, i64_w, i32_w]
        rfl
      refine seq_take (v := ?_) (a' := ?_) rfl rfl (by rfl) (fun w' hw' => ?_) ?_ ?_
      rotate_left 2
      · go_simp
        with_reducible rfl
      · simp only [Act.put, List.setIfInBounds_toArray, List.set_cons_zero, List.set_cons_succ, i64_w, i32_w]
        rfl
      refine seq_take (v := ?_) (a' := ?_) rfl rfl (by rfl) (fun w' hw' => ?_) ?_ ?_
      rotate_left 2
      · go_simp
        with_reducible rfl
      · simp only [Act.put, List.setIfInBounds_toArray, List.set_cons_zero, List.set_cons_succ, i64_w, i32_w]
        rfl
      refine seq_take (v := ?_) (a' := ?_) rfl rfl (by rfl) (fun w' hw' => ?_) ?_ ?_
      rotate_left 2
      · go_simp
        with_reducible rfl
      · simp only [Act.put, List.setIfInBounds_toArray, List.set_cons_zero, List.set_cons_succ, i64_w, i32_w]
        rfl
      refine seq_take (v := ?_) (a' := ?_) rfl rfl (by rfl) (fun w' hw' => ?_) ?_ ?_
      rotate_left 2
      · have hx := V2.out w' (D3.out.trans hw'); go_simp
        with_reducible rfl
      · simp only [Act.put, List.setIfInBounds_toArray, List.set_cons_zero, List.set_cons_succ, i64_w, i32_w]
        rfl
      refine seq_take (v := ?_) (a' := ?_) rfl rfl (by rfl) (fun w' hw' => ?_) ?_ ?_
      rotate_left 2
      · go_simp
        with_reducible rfl
      · simp only [Act.put, List.setIfInBounds_toArray, List.set_cons_zero, List.set_cons_succ, i64_w, i32_w]
        rfl
      refine seq_take (v := ?_) (a' := ?_) rfl rfl (by rfl) (fun w' hw' => ?_) ?_ ?_
      rotate_left 2
      · go_simp
        with_reducible rfl
      · simp only [Act.put, List.setIfInBounds_toArray, List.set_cons_zero, List.set_cons_succ, i64_w, i32_w]
        rfl
      refine seq_take (v := ?_) (a' := ?_) rfl rfl (by rfl) (fun w' hw' => ?_) ?_ ?_
      rotate_left 2
      · go_simp
        with_reducible rfl
      · simp only [Act.put, List.setIfInBounds_toArray, List.set_cons_zero, List.set_cons_succ, i64_w, i32_w]
        rfl
      refine seq_take (v := ?_) (a' := ?_) rfl rfl (by rfl) (fun w' hw' => ?_) ?_ ?_
      rotate_left 2
      · have hx := V1.out w' (D3.out.trans hw'); go_simp
        with_reducible rfl
      · simp only [Act.put, List.setIfInBounds_toArray, List.set_cons_zero, List.set_cons_succ, i64_w, i32_w]
        rfl
      refine seq_take (v := ?_) (a' := ?_) rfl rfl (by rfl) (fun w' hw' => ?_) ?_ ?_
      rotate_left 2
      · go_simp
        with_reducible rfl
      · simp only [Act.put, List.setIfInBounds_toArray, List.set_cons_zero, List.set_cons_succ, i64_w, i32_w]
        rfl
      refine seq_take (v := ?_) (a' := ?_) rfl rfl (by rfl) (fun w' hw' => ?_) ?_ ?_
      rotate_left 2
      · have hx := V2.out w' (D3.out.trans hw'); go_simp
        with_reducible rfl
      · simp only [Act.put, List.setIfInBounds_toArray, List.set_cons_zero, List.set_cons_succ, i64_w, i32_w]
        rfl
      refine seq_take (v := ?_) (a' := ?_) rfl rfl (by rfl) (fun w' hw' => ?_) ?_ ?_
      rotate_left 2
      · go_simp
        with_reducible rfl
      · simp only [Act.put, List.setIfInBounds_toArray, List.set_cons_zero, List.set_cons_succ, i64_w, i32_w]
        rfl
      refine seq_take (v := ?_) (a' := ?_) rfl rfl (by rfl) (fun w' hw' => ?_) ?_ ?_
      rotate_left 2
      · go_simp
        with_reducible rfl
      · simp only [Act.put, List.setIfInBounds_toArray, List.set_cons_zero, List.set_cons_succ, i64_w, i32_w]
        rfl
      refine seq_take (v := ?_) (a' := ?_) rfl rfl (by rfl) (fun w' hw' => ?_) ?_ ?_
      rotate_left 2
      · go_simp
        with_reducible rfl
      · simp only [Act.put, List.setIfInBounds_toArray, List.set_cons_zero, List.set_cons_succ, i64_w, i32_w]
        rfl
      refine seq_take (v := ?_) (a' := ?_) rfl rfl (by rfl) (fun w' hw' => ?_) ?_ ?_
      rotate_left 2
      · go_simp
        with_reducible rfl
      · simp only [Act.put, List.setIfInBounds_toArray, List.set_cons_zero, List.set_cons_succ, i64_w, i32_w]
        rfl
      refine seq_end ?_
      simp only [wrap_ad]
      have HT0 : Aside0 (∀ T U, ad (ad (ad (ad x7 (bs1 x4)) (Go.bits .xor .u32 (Go.bits .and .u32 x4 x5) (Go.bits .and .u32 (4294967295 - x4) x6))) kj) wj = T → ad (bs0 x0) (Go.bits .xor .u32 (Go.bits .xor .u32 (Go.bits .and .u32 x0 x1) (Go.bits .and .u32 x0 x2)) (Go.bits .and .u32 x1 x2)) = U → rounds ss h (j + 1) = [ad T U, x0, x1, x2, ad x3 T, x4, x5, x6]) := ⟨fun T U hT hU => by
        rw [← hT, ← hU]
        exact HN2.out⟩
      generalize hT : ad (ad (ad (ad x7 (bs1 x4)) (Go.bits .xor .u32 (Go.bits .and .u32 x4 x5) (Go.bits .and .u32 (4294967295 - x4) x6))) kj) wj = T
      generalize hU : ad (bs0 x0) (Go.bits .xor .u32 (Go.bits .xor .u32 (Go.bits .and .u32 x0 x1) (Go.bits .and .u32 x0 x2)) (Go.bits .and .u32 x1 x2)) = U
      have HN3 := Aside0.mk (HT0.out T U hT hU)
      have HQD := Aside0.mk HQ.out.drew.drew.drew
      obtain ⟨c0, c1, c2, c3⟩ : wr.cell? ⟨g6, 0, none⟩ = some (.int .u32 x0) ∧ wr.cell? ⟨g6, 1, none⟩ = some (.int .u32 x1) ∧ wr.cell? ⟨g6, 2, none⟩ = some (.int .u32 x2) ∧ wr.cell? ⟨g6, 3, none⟩ = some (.int .u32 x3) := ⟨V0.out wr (Below.refl _ _), V1.out wr (Below.refl _ _), V2.out wr (Below.refl _ _), V3.out wr (Below.refl _ _)⟩
      obtain ⟨c4, c5, c6⟩ : wr.cell? ⟨g6, 4, none⟩ = some (.int .u32 x4) ∧ wr.cell? ⟨g6, 5, none⟩ = some (.int .u32 x5) ∧ wr.cell? ⟨g6, 6, none⟩ = some (.int .u32 x6) := ⟨V4.out wr (Below.refl _ _), V5.out wr (Below.refl _ _), V6.out wr (Below.refl _ _)⟩
      clear hT hU hun HT0 HN2 W4 W0
      go_wp2_with (first
        | ((with_reducible refine at_bd 145 ?_); refine build_arm rfl 145 _ rfl (built_a8 (ad T U) x0 x1 x2 (ad x3 T) x4 x5 x6) ?_; simp only [Act.put, List.setIfInBounds_toArray, List.set_cons_zero, List.set_cons_succ])
        | ((with_reducible refine at_st 145 (.tmp 6) (.tmp 84) ?_); refine store_blk rfl 145 (.tmp 6) (.tmp 84) rfl rfl rfl (HQD.out.at 3 rfl) (by rw [List.size_toArray, Us_len, Us_len, HRL.out]; rfl) (size_a8 _ rfl) (Us_one _) ?_; rintro w4 HS))
      have Q4 := HQD.out.set 3 rfl HS
      go_roundw
      case rel => exact ⟨j + 1, by omega, by go_num, by rw [HN3.out]; exact Q4⟩
      case measure => simp [intOf]; omega
    · obtain rfl : j = 64 := by omega
      have HRL := rounds_len (w := ss) HH.out 64
      generalize rounds ss h 64 = vv at *
      clear hj hlt
      go_wp2
      go_loopw [86] (fun i wr => ∃ j : Nat, j ≤ 8 ∧ i = .int .i64 j ∧ Bag w wr [(w.heap.size, .cells (Us h).toArray 145 (0, 0)), (w.heap.size + 1, .cells (Us (List.replicate 8 0)).toArray 145 (0, 0)), (g5, .cells (Us ss).toArray 151 (0, 0)), (g6, .cells (Us (fins h vv j)).toArray 145 (0, 0))]) (fun i _ => 8 - (intOf i).toNat)
      case atStart => exact ⟨0, by omega, rfl, HQ.out⟩
      case round =>
        clear HQ
        obtain ⟨j, hj, rfl, hQ⟩ := hrel
        have HQ := Aside0.mk hQ
        clear hQ
        have HLn := Aside0.mk ((fins_len h vv j).trans HRL)
        by_cases hlt : j < 8
        · have HF : Aside0 (fins h vv (j + 1) = (fins h vv j).set j (ad (rd (fins h vv j) j) (rd h j))) := ⟨rfl⟩
          have HXV : Aside0 (∀ W, Below wr.heap.size wr W → W.cell? ⟨g6, j, none⟩ = some (.int .u32 (rd (fins h vv j) j))) := ⟨fun W hW => us_cell (blk_below hW (HQ.out.at 3 rfl)) j (by rw [HLn.out]; omega)⟩
          have HXH : Aside0 (∀ W, Below wr.heap.size wr W → W.cell? ⟨w.heap.size, j, none⟩ = some (.int .u32 (rd h j))) := ⟨fun W hW => us_cell (blk_below hW (HQ.out.at 0 rfl)) j (by rw [HH.out]; omega)⟩
          have HST := Aside0.mk (us_set (HQ.out.at 3 rfl) j (ad (rd (fins h vv j) j) (rd h j)))
          have hfz : wr.frozen? ⟨g6, j, none⟩ = false := blk_frozen (HQ.out.at 3 rfl) _
          have hltI : (j : Int) < 8 := by omega
          rw [← HF.out] at HST
          generalize rd (fins h vv j) j = xv at *
          generalize rd h j = xh at *
          have HQS := Aside0.mk (HQ.out.set 3 rfl HST.out)
          have D1 : Aside0 (Below wr.heap.size wr wr.drew) := ⟨Below.drew (Below.refl _ _)⟩
          have hcv := HXV.out wr (Below.refl _ _)
          clear HST HF
          go_wp2
          refine seq_start [8] (.take 0 (.take 1 (.take 2 (.take 3 (.take 4 (.take 5 (.take 6 (.take 7 (.run 8 .done))))))))) (by kernel_rfl) (by kernel_rfl) (fun _ _ d _ _ h => by cases d <;> exact h) ?_
          refine seq_take (v := ?_) (a' := ?_) rfl rfl (by rfl) (fun w' hw' => ?_) ?_ ?_
          rotate_left 2
          · go_simp
            with_reducible rfl
          · simp only [Act.put, List.setIfInBounds_toArray, List.set_cons_zero, List.set_cons_succ, i64_w, i32_w]
            rfl
          refine seq_take (v := ?_) (a' := ?_) rfl rfl (by rfl) (fun w' hw' => ?_) ?_ ?_
          rotate_left 2
          · go_simp
            with_reducible rfl
          · simp only [Act.put, List.setIfInBounds_toArray, List.set_cons_zero, List.set_cons_succ, i64_w, i32_w]
            rfl
          refine seq_take (v := ?_) (a' := ?_) rfl rfl (by rfl) (fun w' hw' => ?_) ?_ ?_
          rotate_left 2
          · have hx := HXV.out w' (D1.out.trans hw'); go_simp
            with_reducible rfl
          · simp only [Act.put, List.setIfInBounds_toArray, List.set_cons_zero, List.set_cons_succ, i64_w, i32_w]
            rfl
          refine seq_take (v := ?_) (a' := ?_) rfl rfl (by rfl) (fun w' hw' => ?_) ?_ ?_
          rotate_left 2
          · go_simp
            with_reducible rfl
          · simp only [Act.put, List.setIfInBounds_toArray, List.set_cons_zero, List.set_cons_succ, i64_w, i32_w]
            rfl
          refine seq_take (v := ?_) (a' := ?_) rfl rfl (by rfl) (fun w' hw' => ?_) ?_ ?_
          rotate_left 2
          · go_simp
            with_reducible rfl
          · simp only [Act.put, List.setIfInBounds_toArray, List.set_cons_zero, List.set_cons_succ, i64_w, i32_w]
            rfl
          refine seq_take (v := ?_) (a' := ?_) rfl rfl (by rfl) (fun w' hw' => ?_) ?_ ?_
          rotate_left 2
          · have hx := HXH.out w' (D1.out.trans hw'); go_simp
            with_reducible rfl
          · simp only [Act.put, List.setIfInBounds_toArray, List.set_cons_zero, List.set_cons_succ, i64_w, i32_w]
            rfl
          refine seq_take (v := ?_) (a' := ?_) rfl rfl (by rfl) (fun w' hw' => ?_) ?_ ?_
          rotate_left 2
          · go_simp
            with_reducible rfl
          · simp only [Act.put, List.setIfInBounds_toArray, List.set_cons_zero, List.set_cons_succ, i64_w, i32_w]
            rfl
          refine seq_take (v := ?_) (a' := ?_) rfl rfl (by rfl) (fun w' hw' => ?_) ?_ ?_
          rotate_left 2
          · go_simp
            with_reducible rfl
          · simp only [Act.put, List.setIfInBounds_toArray, List.set_cons_zero, List.set_cons_succ, i64_w, i32_w]
            rfl
          refine seq_run ?_
          refine do_store (w1 := ?_) rfl rfl (by rfl) ?_ ?_
          rotate_left
          · go_simp
            rfl
          refine ⟨fun h => absurd (by simp) h, ?_⟩
          refine seq_end ?_
          go_wp2
          go_roundw
          case rel => exact ⟨j + 1, by omega, by go_num, HQS.out.drew⟩
          case measure => simp [intOf]; omega
        · obtain rfl : j = 8 := by omega
          obtain ⟨S, HS0⟩ : ∃ S, Aside0 (S = fins h vv 8) := ⟨_, ⟨rfl⟩⟩
          rw [← HS0.out] at HQ HLn
          have hn8 := HLn.out
          have hst := st_row (P := Tryd.prog) (HQ.out.at 1 rfl) 145 (Us S) (by rw [List.size_toArray, Us_len, Us_len, hn8, List.length_replicate]) (size_a8 S hn8) (Us_one _)
          have hld := ld_a8 (HQ.out.at 3 rfl) hn8
          have hset := setBlk_cells (HQ.out.at 1 rfl) (Us S) (by rw [List.size_toArray, Us_len, Us_len, hn8, List.length_replicate])
          generalize wr.setCells (w.heap.size + 1) 0 (Us S) = w2 at *
          have Q9 := HQ.out.set 1 rfl hset
          have HST := Aside0.mk hst
          have HLD := Aside0.mk hld
          have H2 := Aside0.mk hset
          clear hst hld hset
          go_wp2_with (first | (refine load_arm rfl 145 (.tmp 6) rfl rfl HLD.out ?_) | (refine store_arm rfl 145 (.tmp 4) (.tmp 98) rfl rfl rfl HST.out ?_))
          (try simp only [Exit.inBlock, Exit.then])
          refine bodyPost_ret (v := .agg (Us S).toArray) (results_cell_row rfl _ _ (w.heap.size + 1) _ _ _ _ rfl H2.out.at_ Tryd.underlying145 rfl ?_) rfl ⟨by rw [HCP.out, HS0.out], Q9.below⟩
          rw [size_a8 S hn8, List.size_toArray]
end Go.Proofs.YtnkkjmbpopodlaaDoor
