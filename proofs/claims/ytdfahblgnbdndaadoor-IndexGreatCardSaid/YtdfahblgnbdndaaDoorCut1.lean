/- cut.May, cut.Mask, lighterageref10.May, Power, Good. Conditions: their own. -/
import Derived.Test.YtdfahblgnbdndaaDoorShelf
import Derived.Test.YtdfahblgnbdndaaDoorG6
import Derived.Test.YtdfahblgnbdndaaDoorCutP
import Derived.Test.YtdfahblgnbdndaaDoorG1
import Derived.Laws.MathBits
namespace Go.Proofs.YtdfahblgnbdndaaDoor
open Go.RowKit Go.Proofs.YtdfahblgnbdndaaDoorW.PrintWords Go.Proofs.YtdfahblgnbdndaaDoorW.PrintMore
set_option linter.unusedVariables false
set_option linter.unusedSimpArgs false
/-- The greatest power of two up to a number. -/
def pw (n : Nat) : Nat := 2 ^ n.log2
theorem pw_le {n : Nat} (h : 1 ≤ n) : pw n ≤ n := Nat.log2_self_le (by omega)
theorem pw_lt (n : Nat) : n < 2 * pw n := by
  unfold pw
  have := Nat.lt_log2_self (n := n)
  rw [Nat.pow_succ] at this
  omega
theorem pw_pos (n : Nat) : 0 < pw n := Nat.two_pow_pos _
theorem bitLen_all : ((List.range 4097).all fun n => decide (n = 0 ∨ Lib.bitLen n = n.log2 + 1)) = true := by decide +kernel
theorem bitLen_log2 {n : Nat} (h : 1 ≤ n) (h2 : n ≤ 4096) : Lib.bitLen n = n.log2 + 1 := by
  have := of_decide_eq_true (List.all_eq_true.1 bitLen_all n (List.mem_range.2 (by omega)))
  omega
def mayB (a b c : Int) : Bool := decide (1 ≤ a) && decide (a ≤ b) && decide (b ≤ c) && decide (c ≤ 4096)
theorem may_calls (a b c : Int) (w : World) : Calls Tryd.prog 40 #[.agg #[.int .i64 a, .int .i64 b, .int .i64 c]] w fun e w' => e = .returned (.bool (mayB a b c)) ∧ Below w.heap.size w w' := by
  go_enter Tryd.func40, Tryd.ntmps40
  go_wp2
  all_goals (try simp only [Exit.inBlock, Exit.then])
  all_goals refine bodyPost_ret (results_tmp rfl _ _ _) rfl ⟨?_, below_alloc (Below.refl _ w) _⟩
  all_goals (congr 2; unfold mayB; simp; first | done | omega)
def Pv (a b c : Int) : Value := .agg #[.int .i64 a, .int .i64 b, .int .i64 c]
theorem log2_le {b : Nat} (h : b ≤ 4096) : b.log2 ≤ 12 := by
  rcases Nat.eq_zero_or_pos b with rfl | h0
  · decide
  · have := Nat.log2_self_le (n := b) (by omega)
    have h2 : 2 ^ b.log2 < 2 ^ 13 := by omega
    have := (Nat.pow_lt_pow_iff_right (by omega)).1 h2
    omega
theorem mask_calls (a b c : Nat) (w : World) (h : mayB a b c = true) : Calls Tryd.prog 98 #[.agg #[.int .i64 a, .int .i64 b, .int .i64 c]] w fun e w' => e = .returned (.int .u32 ((pw b - 1 : Nat) : Int)) ∧ Below w.heap.size w w' := by
  have h2 : 1 ≤ b ∧ b ≤ 4096 := by unfold mayB at h; simp at h; omega
  have hlen : Lib.bitLen b = b.log2 + 1 := bitLen_log2 h2.1 h2.2
  have HM := Aside0.mk h
  have hl12 := log2_le h2.2
  have hw : wrap64 (b.log2 : Int) = (b.log2 : Int) := by unfold wrap64; omega
  have HP : Aside0 (pw b = 2 ^ b.log2) := ⟨rfl⟩
  have hp1 := pw_le h2.1
  have hp2 := pw_pos b
  rw [HP.out] at hp1 hp2
  rw [HP.out]
  have HP2 : Aside0 (((2 : Int) ^ b.log2) = ((2 ^ b.log2 : Nat) : Int)) := ⟨by simp⟩
  clear HP
  generalize 2 ^ b.log2 = P at *
  clear h
  go_enter Tryd.func98, Tryd.ntmps98
  go_wp2_with (first
    | (go_at_call 40; refine (may_calls a b c _).mono ?_; rw [HM.out]; rintro e w1 ⟨rfl, hB⟩; have HB1 := Aside0.mk hB; have hc1 : w1.cell? ⟨w.heap.size, 1, none⟩ = some (.int .i64 (b : Int)) := (by rw [blk_cell (Later.heap hB (blk_new w _)) 1]; rfl); clear hB)
    | (go_at_call 71; refine (Tryd.bits_Len b _ (by omega) (by omega)).mono ?_; rw [Int.toNat_natCast, hlen]; rintro e w2 ⟨rfl, rfl⟩))
  (try simp only [Exit.inBlock, Exit.then])
  refine bodyPost_ret (results_tmp rfl _ _ _) rfl ⟨?_, (Below.trans (below_alloc (Below.refl _ w) _) (HB1.out.mono (by simp)))⟩
  show Ending.returned (.int .u32 ((2 ^ b.log2 % 4294967296 - 1) % 4294967296)) = _
  rw [HP2.out]
  congr 2
  omega
/-- lighterageref10.May. -/
theorem pmay_calls (a b c : Int) (w : World) : Calls Tryd.prog 28 #[.agg #[.int .i64 a, .int .i64 b, .int .i64 c]] w fun e w' => e = .returned (.bool (mayB a b c)) ∧ Below w.heap.size w w' := by
  go_enter Tryd.func28, Tryd.ntmps28
  go_wp2
  all_goals (try simp only [Exit.inBlock, Exit.then])
  all_goals refine bodyPost_ret (results_tmp rfl _ _ _) rfl ⟨?_, below_alloc (Below.refl _ w) _⟩
  all_goals (refine congrArg (fun b => Ending.returned (Value.bool b)) ?_; unfold mayB; rw [Bool.eq_iff_iff]; simp only [Bool.and_eq_true, decide_eq_true_eq, Bool.false_eq_true, false_iff]; first | omega | trace_state)
/-- lighterageref10.Power. -/
theorem power_calls (n : Nat) (w : World) (h0 : 1 ≤ n) (h1 : n ≤ 1000000000) : Calls Tryd.prog 105 #[.int .i64 (n : Int)] w fun e w' => e = .returned (.int .i64 ((pw n : Nat) : Int)) ∧ w = w' := by
  go_enter Tryd.func105, Tryd.ntmps105
  go_wp2
  go_loopw [3] (fun v wr => ∃ k : Nat, v = .int .i64 ((2 ^ k : Nat) : Int) ∧ 2 ^ k ≤ n ∧ w = wr) (fun v _ => n - (intOf v).toNat)
  case atStart => exact ⟨0, rfl, h0, rfl⟩
  case round =>
    obtain ⟨k, rfl, hk, rfl⟩ := hrel
    have hs : 2 ^ (k + 1) = 2 * 2 ^ k := by rw [Nat.pow_succ]; omega
    have hp : 0 < 2 ^ k := Nat.two_pow_pos k
    have HE : Aside0 (¬ 2 * 2 ^ k ≤ n → pw n = 2 ^ k) := ⟨fun h => by
      unfold pw
      have h4 := Nat.log2_self_le (n := n) (by omega)
      have h5 := Nat.lt_log2_self (n := n)
      have a1 : n.log2 < k + 1 := (Nat.pow_lt_pow_iff_right (a := 2) (by omega)).1 (by omega)
      have a2 : k < n.log2 + 1 := (Nat.pow_lt_pow_iff_right (a := 2) (by omega)).1 (by omega)
      rw [show n.log2 = k by omega]⟩
    have HS := Aside0.mk hs
    clear hs
    by_cases hlt : 2 * 2 ^ k ≤ n
    · clear HE
      generalize 2 ^ k = P at *
      have hltI : 2 * (P : Int) ≤ (n : Int) := by omega
      go_wp2
      go_roundw
      case rel => exact ⟨k + 1, by rw [HS.out]; rfl, by rw [HS.out]; omega, trivial⟩
      case measure => simp [intOf]; omega
    · clear HS
      generalize 2 ^ k = P at *
      have hltI : ¬ 2 * (P : Int) ≤ (n : Int) := by omega
      go_wp2
      go_ret
      exact ⟨by rw [HE.out hlt]; rfl, rfl⟩
def gA (a : Int) : Int := 1 + around a 12
def gB (a b : Int) : Int := gA a + around b 20
def gC (a b c : Int) : Int := gB a b + around c 40
theorem good_range (a b c : Int) : 1 ≤ gA a ∧ gA a ≤ 12 ∧ gA a ≤ gB a b ∧ gB a b ≤ 31 ∧ gB a b ≤ gC a b c ∧ gC a b c ≤ 70 := by
  have h1 := around_range a 12 (by omega)
  have h2 := around_range b 20 (by omega)
  have h3 := around_range c 40 (by omega)
  unfold gC gB gA
  omega
theorem results_cell1 {P : Program} {fn : Func} {p : Tmp} {ty : TypeId} (h : fn.results = #[.cell p ty]) (tmps : Array Value) (w : World) (g : Nat) (t : TypeId) (cs : Array Value) (fr : Nat × Nat) (d : TypeDesc)
    (hp : tmps.getD p undef = .pointer (some ⟨g, 0, none⟩)) (hg : w.heap[g]? = some (.cells cs t fr))
    (hu : P.underlying ty = some d) (hd : (match d with | .struct _ | .array _ _ => true | _ => false) = true) (hi : (P.info? ty).map (·.size) = some cs.size) :
    (results fn tmps).run P w = .ok (.agg cs) w := by
  have hp' : tmps[p]?.getD undef = .pointer (some ⟨g, 0, none⟩) := by simpa using hp
  simp [results, h, hp', asAddr, run_loadVar_row w g t ty cs fr d hg hu hd hi]
theorem at_ar (m : Int) {f : FuncId} {b : Value} {w : World} {R : Ending → World → Prop} (h : Calls Tryd.prog f #[b, .int .i64 m] w R) : Calls Tryd.prog f #[b, .int .i64 m] w R := h
/-- lighterageref10.Good. -/
theorem good_calls (a b c : Int) (w : World) (ha0 : -9223372036854775808 ≤ a) (ha1 : a ≤ 9223372036854775807) (hb0 : -9223372036854775808 ≤ b) (hb1 : b ≤ 9223372036854775807) (hc0 : -9223372036854775808 ≤ c) (hc1 : c ≤ 9223372036854775807) :
    Calls Tryd.prog 23 #[.agg #[.int .i64 a, .int .i64 b, .int .i64 c]] w fun e w' => e = .returned (.agg #[.int .i64 (gA a), .int .i64 (gB a b), .int .i64 (gC a b c)]) ∧ Below w.heap.size w w' := by
  have h1 := around_range a 12 (by omega)
  have h2 := around_range b 20 (by omega)
  have h3 := around_range c 40 (by omega)
  have HG : Aside0 (gA a = 1 + around a 12 ∧ gB a b = 1 + around a 12 + around b 20 ∧ gC a b c = 1 + around a 12 + around b 20 + around c 40) := ⟨rfl, rfl, rfl⟩
  go_enter Tryd.func23, Tryd.ntmps23
  go_wp2_with (first
    | (go_at_call 10; (with_reducible refine at_ar 12 ?_); refine (around_calls a 12 _ ha0 ha1 (by omega) (by omega)).mono ?_; rintro e u0 ⟨rfl, rfl⟩; generalize around a 12 = x at *)
    | (go_at_call 10; (with_reducible refine at_ar 20 ?_); refine (around_calls b 20 _ hb0 hb1 (by omega) (by omega)).mono ?_; rintro e u0 ⟨rfl, rfl⟩; generalize around b 20 = y at *)
    | (go_at_call 10; (with_reducible refine at_ar 40 ?_); refine (around_calls c 40 _ hc0 hc1 (by omega) (by omega)).mono ?_; rintro e u0 ⟨rfl, rfl⟩; generalize around c 40 = z at *))
  obtain ⟨e1, e2, e3⟩ := HG.out
  rw [e1, e2, e3]
  have hb : ((w.alloc (.cells #[.int .i64 a, .int .i64 b, .int .i64 c] 24)).alloc (.cells #[.int .i64 (1 + x), .int .i64 (1 + x + y), .int .i64 (1 + x + y + z)] 24)).heap[w.heap.size + 1]? = some (.cells #[.int .i64 (1 + x), .int .i64 (1 + x + y), .int .i64 (1 + x + y + z)] 24 (0, 0)) := by
    rw [show w.heap.size + 1 = (w.alloc (.cells #[.int .i64 a, .int .i64 b, .int .i64 c] 24)).heap.size by simp]
    exact blk_new _ _
  exact bodyPost_ret (results_cell1 rfl _ _ (w.heap.size + 1) _ _ _ _ rfl hb Tryd.underlying24 rfl (by kernel_rfl)) rfl ⟨rfl, below_alloc (below_alloc (Below.refl _ w) _) _⟩
end Go.Proofs.YtdfahblgnbdndaaDoor
