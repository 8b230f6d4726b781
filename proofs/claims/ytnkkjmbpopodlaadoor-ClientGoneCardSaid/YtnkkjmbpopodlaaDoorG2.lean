/- Plain lemmas and contracts, several texts in one: Ref01, Crc, Ref03, Dig, Fill, Flat. Conditions: their own. -/
import Derived.Test.YtnkkjmbpopodlaaDoorG1
import Derived.Laws.Cover3
import Derived.Test.YtnkkjmbpopodlaaDoorWEqStruct
import Derived.DeepKeys
namespace Go.Proofs.YtnkkjmbpopodlaaDoor
open Go.RowKit Go.Proofs.YtnkkjmbpopodlaaDoorW.PrintWords Go.Proofs.YtnkkjmbpopodlaaDoorW.PrintMore
attribute [local go_sem] max2_int min2_int max_two min_two
set_option linter.unusedVariables false
set_option linter.unusedSimpArgs false

/-- Around: modulo, from 0 on. -/
def around (n m : Int) : Int := if n < 0 then (-(n + 1)) % m else n % m
theorem around_range (n m : Int) (hm : 0 < m) : 0 ≤ around n m ∧ around n m < m := by
  unfold around
  split
  · exact ⟨Int.emod_nonneg _ (by omega), Int.emod_lt_of_pos _ hm⟩
  · exact ⟨Int.emod_nonneg _ (by omega), Int.emod_lt_of_pos _ hm⟩
theorem around_calls (n m : Int) (w : World) (hn0 : -9223372036854775808 ≤ n) (hn1 : n ≤ 9223372036854775807) (hm : 0 < m) (hm' : m ≤ 9223372036854775807) :
    Calls Tryd.prog 12 #[.int .i64 n, .int .i64 m] w fun e w' => e = .returned (.int .i64 (around n m)) ∧ w = w' := by
  have hmz : ((m == 0) = false) := by simp; omega
  by_cases hn : n < 0
  · have e0 : around n m = (-(n + 1)).tmod m := by
      unfold around; rw [if_pos hn, Int.tmod_eq_emod_of_nonneg (by omega)]
    have H := Aside0.mk e0
    clear e0
    go_enter Tryd.func12, Tryd.ntmps12
    go_wp2
    go_ret
    exact ⟨by rw [H.out, Int.neg_tmod]; rfl, rfl⟩
  · have e0 : around n m = n % m := by
      unfold around; rw [if_neg hn]
    have H := Aside0.mk e0
    clear e0
    go_enter Tryd.func12, Tryd.ntmps12
    go_wp2
    go_ret
    exact ⟨by rw [H.out]; rfl, rfl⟩
end Go.Proofs.YtnkkjmbpopodlaaDoor
namespace Go.Proofs.YtnkkjmbpopodlaaDoor
open Go.RowKit Go.Proofs.YtnkkjmbpopodlaaDoorW.PrintWords Go.Proofs.YtnkkjmbpopodlaaDoorW.PrintMore
set_option linter.unusedVariables false
set_option linter.unusedSimpArgs false

theorem cs_int (x : Int) (h0 : 0 ≤ x) (h1 : x < 4294967296) : Go.bits .xor .u32 (x / 2) ((2197175160 * (Go.bits .and .u32 x 1)) % 4294967296) = ((cs x.toNat : Nat) : Int) := by
  have ha : Go.bits .and .u32 x 1 = x % 2 := by
    rw [u32_and x 1 h0 h1 (by omega) (by omega)]
    rw [show (1 : Int).toNat = 2 ^ 1 - 1 from rfl, Nat.and_two_pow_sub_one_eq_mod]
    omega
  rw [ha, u32_xor _ _ (by omega) (by omega) (by omega) (by omega)]
  unfold cs
  rcases Int.emod_two_eq x with h | h
  · rw [h, if_neg (by omega)]
    simp
    omega
  · rw [h, if_pos (by omega)]
    congr 2
    omega

/-- steps$1: one step of what it captured. -/
theorem step_calls (a : Addr) (x : Int) (w : World) (h0 : 0 ≤ x) (h1 : x < 4294967296) (hc : w.cell? a = some (.int .u32 x)) (hf : w.frozen? a = false) :
    Calls Tryd.prog 102 #[.pointer (some a)] w fun e w' => e = .returned (.tuple #[]) ∧ w.setCell a (.int .u32 ((cs x.toNat : Nat) : Int)) = w' := by
  have H := Aside0.mk (cs_int x h0 h1)
  go_enter Tryd.func102, Tryd.ntmps102
  go_wp2
  go_end0
  exact ⟨rfl, by rw [← H.out]⟩

theorem steps_calls (x : Int) (n : Int) (w : World) (h0 : 0 ≤ x) (h1 : x < 4294967296) (hn : 0 ≤ n) (hn' : n < 9223372036854775808) :
    Calls Tryd.prog 97 #[.int .u32 x, .int .i64 n] w fun e w' => e = .returned (.int .u32 ((css x.toNat n.toNat : Nat) : Int)) ∧ Below w.heap.size w w' := by
  obtain ⟨m, rfl⟩ := Int.eq_ofNat_of_zero_le hn
  obtain ⟨y, rfl⟩ := Int.eq_ofNat_of_zero_le h0
  rw [Int.toNat_natCast, Int.toNat_natCast]
  go_enter Tryd.func97, Tryd.ntmps97
  go_wp2
  go_loopw [8] (fun i wr => ∃ k : Nat, k ≤ m ∧ i = .int .i64 k ∧ wr = w.alloc (.cells #[.int .u32 ((css y k : Nat) : Int)] 93)) (fun i _ => m - (intOf i).toNat)
  case atStart => exact ⟨0, Nat.zero_le _, rfl, rfl⟩
  case round =>
    obtain ⟨k, hk, rfl, rfl⟩ := hrel
    have r1 : css y k < 4294967296 := css_lt (by omega) k
    by_cases hlt : k < m
    · go_wp2_with (go_at_call 102; refine (step_calls _ ((css y k : Nat) : Int) _ (by omega) (by omega) (by simp) (by simp)).mono ?_; rintro e w' ⟨rfl, rfl⟩)
      go_roundw
      case rel => exact ⟨k + 1, by omega, by go_num, by simp [css]⟩
      case measure => simp [intOf]; omega
    · have : k = m := by omega
      subst this
      go_wp2
      go_ret
      exact ⟨rfl, (Below.refl _ _).alloc (Nat.le_refl _) _⟩

theorem ones_sub (s : Nat) (h : s < 4294967296) : ((4294967295 ^^^ s : Nat) : Int) = 4294967295 - (s : Int) := by
  have : 4294967295 ^^^ s = 4294967295 - s := by
    have h1 : s ^^^ (2 ^ 32 - 1) = 2 ^ 32 - 1 - s := by
      apply Nat.eq_of_testBit_eq
      intro i
      rw [Nat.testBit_xor, Nat.testBit_two_pow_sub_one, Nat.sub_sub, Nat.add_comm 1 s]
      rw [Nat.testBit_two_pow_sub_succ (by omega)]
      by_cases hi : i < 32
      · simp [hi]
      · have hs : s.testBit i = false := Nat.testBit_lt_two_pow (Nat.lt_of_lt_of_le h (show 2 ^ 32 ≤ 2 ^ i from Nat.pow_le_pow_right (by omega) (by omega)))
        simp [hi, hs]
    rw [Nat.xor_comm]
    exact h1
  rw [this]
  omega

theorem xor_byte (m : Nat) (b : Int) (hm : m < 4294967296) (hb : 0 ≤ b ∧ b < 256) : Go.bits .xor .u32 (m : Int) b = ((m ^^^ b.toNat : Nat) : Int) := by
  rw [u32_xor _ _ (by omega) (by omega) (by omega) (by omega), Int.toNat_natCast]

theorem take_snoc {xs : List Int} {k : Nat} (h : k < xs.length) : xs.take (k + 1) = xs.take k ++ [rd xs k] := by
  rw [List.take_succ_eq_append_getElem h]
  simp [rd, List.getD_eq_getElem?_getD, List.getElem?_eq_getElem h]

theorem un_xor (x : Nat) (h : x < 4294967296) : Op.unary .xor (.int .u32 (x : Int)) = pure (.int .u32 ((4294967295 ^^^ x : Nat) : Int)) := by
  have hm : IntKind.u32.max = 4294967295 := by simp [IntKind.max, IntKind.bits, IntKind.signed]
  rw [unary_xor, intBits_xor, hm, if_neg (by simp [IntKind.signed])]
  rw [u32_xor _ _ (by omega) (by omega) (by omega) (by omega), Int.toNat_natCast]
  rfl

/-- crc.More -/
theorem more_calls (s : Int) (A : Option Addr) (n c : Nat) (xs : List Int) (w : World) (h : RdB w A n xs) (hb : Bytes xs) (h0 : 0 ≤ s) (h1 : s < 4294967296) :
    Calls Tryd.prog 92 #[.int .u32 s, .slice A n c] w fun e w' => e = .returned (.int .u32 ((crc s.toNat xs : Nat) : Int)) ∧ Below w.heap.size w w' := by
  obtain ⟨s, rfl⟩ := Int.eq_ofNat_of_zero_le h0
  obtain rfl : xs.length = n := h.1
  have HR := Aside0.mk h
  have hmax := h.2.1
  clear h
  rw [Int.toNat_natCast]
  have hun := un_xor s (by omega)
  obtain ⟨x0, hx0⟩ : ∃ x0, x0 = 4294967295 ^^^ s := ⟨_, rfl⟩
  rw [← hx0] at hun
  have HX := Aside0.mk hx0
  have hx1 : x0 < 4294967296 := by rw [hx0]; exact xor_lt (by omega) (by omega)
  clear hx0
  go_enter Tryd.func92, Tryd.ntmps92
  go_wp2
  go_loopw [5, 11] (fun x i wr => ∃ k : Nat, k ≤ xs.length ∧ i = .int .i64 k ∧ x = .int .u32 ((cm x0 (xs.take k) : Nat) : Int) ∧ Below w.heap.size w wr) (fun _ i _ => xs.length - (intOf i).toNat)
  case atStart => exact ⟨0, Nat.zero_le _, rfl, rfl, Below.refl _ _⟩
  case round =>
    clear hun
    obtain ⟨k, hk, rfl, rfl, hB⟩ := hrel
    have r1 : cm x0 (xs.take k) < 4294967296 := cm_lt hx1 (hb.take _)
    by_cases hlt : k < xs.length
    · obtain ⟨ad, e, hx⟩ := Kd.at_int (Kd.C_below HR.out hB) (k : Int) (by omega) (by omega)
      subst e
      rw [Int.toNat_natCast] at hx
      have hbk := hb.at_ (k : Int)
      have hby := xor_byte (cm x0 (xs.take k)) (rd xs k) r1 hbk
      have r2 : cm x0 (xs.take k) ^^^ (rd xs k).toNat < 4294967296 := xor_lt r1 (by omega)
      obtain ⟨hbk0, hbk1⟩ := hbk
      have HS : Aside0 (cm x0 (xs.take (k + 1)) = css (cm x0 (xs.take k) ^^^ (rd xs k).toNat) 8) := ⟨by rw [take_snoc hlt, cm_snoc]⟩
      generalize hm : cm x0 (xs.take k) = m at *
      generalize hr : rd xs k = b at *
      clear hm hr
      go_wp2_with (go_at_call 97; refine (steps_calls ((m ^^^ b.toNat : Nat) : Int) 8 _ (by omega) (by omega) (by omega) (by omega)).mono ?_; rw [Int.toNat_natCast]; rintro e w' ⟨rfl, hB'⟩)
      go_roundw
      case rel => exact ⟨k + 1, by omega, by go_num, by rw [HS.out], below_tr' hB hB'⟩
      case measure => simp [intOf]; omega
    · have hun2 := un_xor _ r1
      obtain rfl : k = xs.length := by omega
      have HS : Aside0 (4294967295 ^^^ cm x0 (xs.take xs.length) = crc s xs) := ⟨by rw [List.take_length, HX.out]; rfl⟩
      generalize hm : cm x0 (xs.take xs.length) = m at *
      clear hm
      go_wp2
      go_ret
      exact ⟨by rw [← HS.out]; rfl, hB⟩

/-- crc.Sum -/
theorem sum_calls (A : Option Addr) (n c : Nat) (xs : List Int) (w : World) (h : RdB w A n xs) (hb : Bytes xs) :
    Calls Tryd.prog 75 #[.slice A n c] w fun e w' => e = .returned (.int .u32 ((crc 0 xs : Nat) : Int)) ∧ Below w.heap.size w w' := by
  have H := Aside0.mk h
  clear h
  go_enter Tryd.func75, Tryd.ntmps75
  go_wp2_with (go_at_call 92; refine (more_calls 0 A n c xs _ H.out hb (by omega) (by omega)).mono ?_; rintro e w' ⟨rfl, hB'⟩)
  go_ret
  exact ⟨rfl, hB'⟩

/-- bytes.Equal -/
theorem equal_calls (A B : Option Addr) (n m c d : Nat) (xs ys : List Int) (w : World) (h : RdB w A n xs) (k : RdB w B m ys) (hx : Bytes xs) (hy : Bytes ys) :
    Calls Tryd.prog 73 #[.slice A n c, .slice B m d] w fun e w' => e = .returned (.bool (decide (xs = ys))) ∧ w = w' := by
  have e1 := conv_str h c
  have e2 := conv_str k d
  have E := Aside0.mk (str_beq hx hy)
  clear h k
  go_enter Tryd.func73, Tryd.ntmps73
  go_wp2
  go_ret
  exact ⟨by rw [← E.out]; rfl, rfl⟩

/-- bytes.Clone -/
theorem clone_calls (A : Option Addr) (n c : Nat) (xs : List Int) (w : World) (h : RdB w A n xs) (hn : n ≤ 140737488355328) :
    Calls Tryd.prog 57 #[.slice A n c] w fun e w' => ∃ v, e = .returned v ∧ OwB w' w.heap.size v xs ∧ Below w.heap.size w w' := by
  have H := Aside0.mk h
  have hnil := Lib.run_eql_slice_nil (P := Tryd.prog) w 37 5 A n c 0 0 Tryd.underlying37
  rcases A with _ | ad
  · have h0 : xs = [] := by
      rcases Nat.eq_zero_or_pos n with h0 | h0
      · exact List.eq_nil_of_length_eq_zero (by have := h.1; omega)
      · obtain ⟨ad, e, _⟩ := h.2.2 h0
        cases e
    clear h
    subst h0
    simp only [Option.isNone_none] at hnil
    go_enter Tryd.func57, Tryd.ntmps57
    go_wp2
    go_ret
    exact ⟨_, rfl, Kd.R_nil _ _ _ _ _, Below.refl _ _⟩
  · clear h
    simp only [Option.isNone_some] at hnil
    go_enter Tryd.func57, Tryd.ntmps57
    go_wp2_with (at_builtin; refine appBs (w0 := w) w.heap.size rfl (.tmp 5) (.tmp 6) rfl (.slice (some ⟨w.heap.size, 0, none⟩) 0 0) [] xs (some ad) n c rfl rfl (own_litB w _ [] _ _ rfl rfl (Nat.le_refl _) (by simp)) (Kd.C_alloc H.out _) ((Below.refl _ _).alloc (Nat.le_refl _) _) (by simp) (by simp; omega) ?_; intro v1 w1 hO hB _ _)
    go_ret
    exact ⟨_, rfl, by simpa using hO, hB⟩

theorem le32_snoc (s : Nat) (k : Nat) (hk : k < 4) : (le32 s).take (k + 1) = (le32 s).take k ++ [((s / 256 ^ k : Nat) : Int) % 256] := by
  match k, hk with
  | 0, _ => simp [le32]
  | 1, _ => simp [le32]
  | 2, _ => simp [le32]
  | 3, _ => simp [le32]

/-- crc.Put -/
theorem put_calls (A : Option Addr) (n c : Nat) (xs : List Int) (w : World) (h : RdB w A n xs) (hb : Bytes xs) (hn : n ≤ 70368744177664) :
    Calls Tryd.prog 89 #[.slice A n c] w fun e w' => ∃ v, e = .returned v ∧ OwB w' w.heap.size v (cput xs) ∧ Below w.heap.size w w' := by
  have H := Aside0.mk h
  obtain rfl : xs.length = n := h.1
  clear h
  have hs := crc_lt (s := 0) (by omega) hb
  have HP : Aside0 (xs ++ ([] : List Int) = xs) := ⟨by simp⟩
  go_enter Tryd.func89, Tryd.ntmps89
  go_wp2_with (first | (go_at_call 75; refine (sum_calls A _ c xs _ H.out hb).mono ?_; rintro e w1 ⟨rfl, hB1⟩) | (go_at_call 57; refine (clone_calls A _ c xs _ (Kd.C_below H.out hB1) (by omega)).mono ?_; rintro e w2 ⟨v0, rfl, hO, hB2⟩))
  have hO0 : OwB w2 w.heap.size v0 (xs ++ (le32 (crc 0 xs)).take 0) := by
    rw [List.take_zero, List.append_nil]
    exact Kd.R_lower hO hB1.size
  have hB0 := below_tr' hB1 hB2
  clear hO hB2 hB1 hb H HP
  generalize hS : crc 0 xs = S at *
  have HS := Aside0.mk hS
  clear hS
  go_loopw [3, 4, 9] (fun s v i wr => ∃ k : Nat, k ≤ 4 ∧ i = .int .i64 k ∧ s = .int .u32 ((S / 256 ^ k : Nat) : Int) ∧ OwB wr w.heap.size v (xs ++ (le32 S).take k) ∧ Below w.heap.size w wr) (fun _ _ i _ => 4 - (intOf i).toNat)
  case atStart => exact ⟨0, by omega, rfl, by simp, hO0, hB0⟩
  case round =>
    clear hO0 hB0
    obtain ⟨k, hk, rfl, rfl, hO, hB⟩ := hrel
    have hsz := hB.size
    by_cases hlt : k < 4
    · have HT := Aside0.mk (le32_snoc S k hlt)
      have HL : Aside0 ((xs ++ (le32 S).take k).length < 140737488355328) := ⟨by simp [le32]; omega⟩
      have HQ : Aside0 (((S / 256 ^ k / 256 : Nat) : Int) = ((S / 256 ^ (k + 1) : Nat) : Int)) := ⟨by rw [Nat.div_div_eq_div_mul, Nat.pow_succ]⟩
      have hq : S / 256 ^ k < 4294967296 := Nat.lt_of_le_of_lt (Nat.div_le_self _ _) hs
      generalize hz : S / 256 ^ k = z at *
      clear hz
      go_wp2_with (at_builtin; refine appB (w0 := w) w.heap.size rfl (.tmp 11) (.tmp 14) rfl _ _ _ rfl rfl hO hB hsz HL.out ?_; intro v1 w1 hO1 hB1 _ _)
      go_roundw
      case rel => exact ⟨k + 1, by omega, by go_num, by rw [← HQ.out]; simp, by rw [HT.out, ← List.append_assoc]; exact hO1, hB1⟩
      case measure => simp [intOf]; omega
    · obtain rfl : k = 4 := by omega
      go_wp2
      go_ret
      exact ⟨_, rfl, by rw [cput, HS.out]; exact hO, hB⟩

/-- crc.Take -/
theorem take_calls (A : Option Addr) (n c : Nat) (xs : List Int) (w : World) (h : RdB w A n xs) (hc : n ≤ c) (hb : Bytes xs) (hn : n ≤ 70368744177664) :
    Calls Tryd.prog 56 #[.slice A n c] w fun e w' => ∃ v, e = .returned (.tuple #[v, .int .i64 (ctake xs).2]) ∧ OwB w' w.heap.size v (ctake xs).1 ∧ Below w.heap.size w w' := by
  have H := Aside0.mk h
  obtain rfl : xs.length = n := h.1
  by_cases h4 : xs.length < 4
  · have E : Aside0 (ctake xs = ([], 2)) := ⟨by unfold ctake; rw [if_pos h4]⟩
    clear h
    go_enter Tryd.func56, Tryd.ntmps56
    go_wp2
    go_ret2
    rw [E.out]
    exact ⟨_, rfl, Kd.R_nil _ _ _ _ _, Below.refl _ _⟩
  · obtain ⟨hcut, hrd⟩ := cutTo h hc ((xs.length : Int) - 4) (by omega) (by omega)
    have ej : ((xs.length : Int) - 4).toNat = xs.length - 4 := by omega
    rw [ej] at hrd
    simp only [ej] at hcut
    have HR := Aside0.mk hrd
    have hbt := hb.take (xs.length - 4)
    clear hrd h
    by_cases heq : cput (xs.take (xs.length - 4)) = xs
    · have E : Aside0 (ctake xs = (xs.take (xs.length - 4), 0)) := ⟨by unfold ctake; rw [if_neg h4, if_pos heq]⟩
      have hdec : decide (cput (xs.take (xs.length - 4)) = xs) = true := decide_eq_true heq
      have HE := Aside0.mk heq
      clear heq
      generalize hys : xs.take (xs.length - 4) = ys at *
      clear hys
      go_enter Tryd.func56, Tryd.ntmps56
      go_wp2_with (first | (go_at_call 89; refine (put_calls A _ c ys _ HR.out hbt (by omega)).mono ?_; rintro e w1 ⟨v0, rfl, hO, hB1⟩; obtain ⟨B, d, rfl, hd, hrB⟩ := OwB.reads hO) | (go_at_call 73; refine (equal_calls B A _ _ _ c _ xs _ hrB (Kd.C_below H.out hB1) (cput_bytes hbt) hb).mono ?_; rw [hdec]; rintro e w1 ⟨rfl, rfl⟩) | (go_at_call 57; refine (clone_calls A _ c ys _ (Kd.C_below HR.out hB1) (by omega)).mono ?_; rintro e w2 ⟨v1, rfl, hO1, hB2⟩))
      go_ret2
      rw [E.out]
      exact ⟨_, rfl, Kd.R_lower hO1 hB1.size, below_tr' hB1 hB2⟩
    · have E : Aside0 (ctake xs = ([], 7)) := ⟨by unfold ctake; rw [if_neg h4, if_neg heq]⟩
      have hdec : decide (cput (xs.take (xs.length - 4)) = xs) = false := decide_eq_false heq
      have HE := Aside0.mk heq
      clear heq
      generalize hys : xs.take (xs.length - 4) = ys at *
      clear hys
      go_enter Tryd.func56, Tryd.ntmps56
      go_wp2_with (first | (go_at_call 89; refine (put_calls A _ c ys _ HR.out hbt (by omega)).mono ?_; rintro e w1 ⟨v0, rfl, hO, hB1⟩; obtain ⟨B, d, rfl, hd, hrB⟩ := OwB.reads hO) | (go_at_call 73; refine (equal_calls B A _ _ _ c _ xs _ hrB (Kd.C_below H.out hB1) (cput_bytes hbt) hb).mono ?_; rw [hdec]; rintro e w1 ⟨rfl, rfl⟩))
      go_ret2
      rw [E.out]
      exact ⟨_, rfl, Kd.R_nil _ _ _ _ _, hB1⟩

end Go.Proofs.YtnkkjmbpopodlaaDoor
namespace Go.Proofs.YtnkkjmbpopodlaaDoor
open Go.RowKit Go.Proofs.YtnkkjmbpopodlaaDoorW.PrintWords Go.Proofs.YtnkkjmbpopodlaaDoorW.PrintMore
set_option linter.unusedVariables false
set_option linter.unusedSimpArgs false

theorem cs_odd (x : Nat) (h : x < 4294967296) (ho : x % 2 = 1) : Go.bits .xor .u32 ((x : Int) / 2) 2197175160 = ((cs x : Nat) : Int) := by
  rw [u32_xor _ _ (by omega) (by omega) (by omega) (by omega)]
  unfold cs
  rw [if_pos ho]
  congr 2
theorem cs_even (x : Nat) (ho : ¬ x % 2 = 1) : (x : Int) / 2 = ((cs x : Nat) : Int) := by
  unfold cs
  rw [if_neg ho, Nat.xor_zero]
  omega

set_option maxRecDepth 100000 in
/-- ref03.More -/
theorem rmore_calls (s : Int) (A : Option Addr) (n c : Nat) (xs : List Int) (w : World) (h : RdB w A n xs) (hb : Bytes xs) (h0 : 0 ≤ s) (h1 : s < 4294967296) :
    Calls Tryd.prog 65 #[.int .u32 s, .slice A n c] w fun e w' => e = .returned (.int .u32 ((crc s.toNat xs : Nat) : Int)) ∧ w = w' := by
  obtain ⟨s, rfl⟩ := Int.eq_ofNat_of_zero_le h0
  obtain rfl : xs.length = n := h.1
  have HR := Aside0.mk h
  have hmax := h.2.1
  clear h
  rw [Int.toNat_natCast]
  have HX := Aside0.mk (ones_sub s (by omega))
  obtain ⟨x0, hx0⟩ : ∃ x0, x0 = 4294967295 ^^^ s := ⟨_, rfl⟩
  have hx1 : x0 < 4294967296 := by rw [hx0]; exact xor_lt (by omega) (by omega)
  have HX0 := Aside0.mk hx0
  clear hx0
  go_enter Tryd.func65, Tryd.ntmps65
  go_wp2
  clear h0 h1
  go_loopw [5, 6] (fun x i wr => ∃ k : Nat, k ≤ xs.length ∧ i = .int .i64 k ∧ x = .int .u32 ((cm x0 (xs.take k) : Nat) : Int) ∧ w = wr) (fun _ i _ => xs.length - (intOf i).toNat)
  case atStart => exact ⟨0, Nat.zero_le _, rfl, by rw [← HX.out, ← HX0.out]; rfl, rfl⟩
  case round =>
    obtain ⟨k, hk, rfl, rfl, rfl⟩ := hrel
    have r1 : cm x0 (xs.take k) < 4294967296 := cm_lt hx1 (hb.take _)
    by_cases hlt : k < xs.length
    · obtain ⟨ad, e, hx⟩ := Kd.at_int HR.out (k : Int) (by omega) (by omega)
      subst e
      rw [Int.toNat_natCast] at hx
      have hbk := hb.at_ (k : Int)
      have hby := xor_byte (cm x0 (xs.take k)) (rd xs k) r1 hbk
      have r2 : cm x0 (xs.take k) ^^^ (rd xs k).toNat < 4294967296 := xor_lt r1 (by omega)
      obtain ⟨hbk0, hbk1⟩ := hbk
      have HS : Aside0 (cm x0 (xs.take (k + 1)) = css (cm x0 (xs.take k) ^^^ (rd xs k).toNat) 8) := ⟨by rw [take_snoc hlt, cm_snoc]⟩
      generalize hm : cm x0 (xs.take k) ^^^ (rd xs k).toNat = m at *
      generalize hr : rd xs k = b at *
      clear hr
      go_wp2
      clear hm hby
      go_loopw [5, 7] (fun x i wr => ∃ j : Nat, j ≤ 8 ∧ i = .int .i64 j ∧ x = .int .u32 ((css m j : Nat) : Int) ∧ w = wr) (fun _ i _ => 8 - (intOf i).toNat)
      case atStart => exact ⟨0, by omega, rfl, rfl, rfl⟩
      case round =>
        obtain ⟨j, hj, rfl, rfl, rfl⟩ := hrel
        have r3 : css m j < 4294967296 := css_lt r2 j
        by_cases hlt8 : j < 8
        · have HC : Aside0 (css m (j + 1) = cs (css m j)) := ⟨rfl⟩
          generalize hq : css m j = q at *
          clear hq
          by_cases ho : q % 2 = 1
          · have hodd := cs_odd q r3 ho
            have ht : ((q : Int) % 2 == 1) = true := by simp; omega
            clear ho
            go_wp2
            go_roundw
            case rel => exact ⟨j + 1, by omega, by go_num, by rw [HC.out], trivial⟩
            case measure => simp [intOf]; omega
          · have HE := Aside0.mk (cs_even q ho)
            have ht : ((q : Int) % 2 == 1) = false := by simp; omega
            clear ho
            go_wp2
            go_roundw
            case rel => exact ⟨j + 1, by omega, by go_num, by rw [HC.out, ← HE.out], trivial⟩
            case measure => simp [intOf]; omega
        · obtain rfl : j = 8 := by omega
          go_wp2
          go_roundw
          case rel => exact ⟨k + 1, by omega, by go_num, by rw [HS.out], trivial⟩
          case measure => simp [intOf]; omega
    · obtain rfl : k = xs.length := by omega
      have HO := ones_sub _ r1
      have HS : Aside0 (4294967295 ^^^ cm x0 (xs.take xs.length) = crc s xs) := ⟨by rw [List.take_length, HX0.out]; rfl⟩
      have HO' := Aside0.mk HO
      clear HO
      generalize cm x0 (xs.take xs.length) = m at *
      go_wp2
      go_ret
      exact ⟨by rw [← HS.out, HO'.out]; rfl, rfl⟩

/-- ref03.Put -/
theorem rput_calls (A : Option Addr) (n c : Nat) (xs : List Int) (w : World) (h : RdB w A n xs) (hb : Bytes xs) (hn : n ≤ 70368744177664) :
    Calls Tryd.prog 40 #[.slice A n c] w fun e w' => ∃ v, e = .returned v ∧ OwB w' w.heap.size v (cput xs) ∧ Below w.heap.size w w' := by
  have H := Aside0.mk h
  obtain rfl : xs.length = n := h.1
  clear h
  have hs := crc_lt (s := 0) (by omega) hb
  go_enter Tryd.func40, Tryd.ntmps40
  go_wp2_with (first | (go_at_call 65; refine (rmore_calls 0 A _ c xs _ H.out hb (by omega) (by omega)).mono ?_; rintro e w1 ⟨rfl, rfl⟩) | (at_builtin; refine appBs (w0 := w) w.heap.size rfl (.tmp 8) (.tmp 9) rfl (.slice none 0 0) [] xs A _ c rfl rfl (Kd.R_nil _ _ _ _ _) H.out (Below.refl _ _) (Nat.le_refl _) (by simp; omega) ?_; intro v1 w1 hO hB _ _))
  have hO0 : OwB w1 w.heap.size v1 (xs ++ (le32 (crc 0 xs)).take 0) := by
    rw [List.take_zero, List.append_nil]
    simpa using hO
  clear hO hb H
  generalize hS : crc 0 xs = S at *
  have HS := Aside0.mk hS
  clear hS
  go_loopw [3, 4, 5] (fun s v i wr => ∃ k : Nat, k ≤ 4 ∧ i = .int .i64 k ∧ s = .int .u32 ((S / 256 ^ k : Nat) : Int) ∧ OwB wr w.heap.size v (xs ++ (le32 S).take k) ∧ Below w.heap.size w wr) (fun _ _ i _ => 4 - (intOf i).toNat)
  case atStart => exact ⟨0, by omega, rfl, by simp [HS.out], hO0, hB⟩
  case round =>
    clear hO0 hB
    obtain ⟨k, hk, rfl, rfl, hO, hB⟩ := hrel
    have hsz := hB.size
    by_cases hlt : k < 4
    · have HT := Aside0.mk (le32_snoc S k hlt)
      have HL : Aside0 ((xs ++ (le32 S).take k).length < 140737488355328) := ⟨by simp [le32]; omega⟩
      have HQ : Aside0 (((S / 256 ^ k / 256 : Nat) : Int) = ((S / 256 ^ (k + 1) : Nat) : Int)) := ⟨by rw [Nat.div_div_eq_div_mul, Nat.pow_succ]⟩
      have hq : S / 256 ^ k < 4294967296 := Nat.lt_of_le_of_lt (Nat.div_le_self _ _) hs
      generalize hz : S / 256 ^ k = z at *
      clear hz
      go_wp2_with (at_builtin; refine appB (w0 := w) w.heap.size rfl (.tmp 15) (.tmp 19) rfl _ _ _ rfl rfl hO hB hsz HL.out ?_; intro v1 w1 hO1 hB1 _ _)
      go_roundw
      case rel => exact ⟨k + 1, by omega, by go_num, by rw [← HQ.out]; simp, by rw [HT.out, ← List.append_assoc]; exact hO1, hB1⟩
      case measure => simp [intOf]; omega
    · obtain rfl : k = 4 := by omega
      go_wp2
      go_ret
      exact ⟨_, rfl, by rw [cput, HS.out]; exact hO, hB⟩

end Go.Proofs.YtnkkjmbpopodlaaDoor
namespace Go.Proofs.YtnkkjmbpopodlaaDoor
open Go.RowKit Go.Proofs.YtnkkjmbpopodlaaDoorW.PrintWords Go.Proofs.YtnkkjmbpopodlaaDoorW.PrintMore
set_option linter.unusedVariables false
set_option linter.unusedSimpArgs false
def Nm (nm : List Int) : List Value := nm.map (Value.int .u8)
theorem Nm_len (nm : List Int) : (Nm nm).length = nm.length := by simp [Nm]
theorem Nm_one (nm : List Int) : ∀ v ∈ Nm nm, v.oneCell' = true := by
  intro v hv
  obtain ⟨x, _, rfl⟩ := List.mem_map.1 hv
  rfl

/-- Which messages may be. -/theorem size_d (nm : List Int) (hn : nm.length = 32) : (Tryd.prog.info? 40).map (·.size) = some (Nm nm).length := by rw [Nm_len, hn]; kernel_rfl
section
variable {P : Program} {w : World}
theorem isAgg_run {t : TypeId} {d : TypeDesc} (hu : P.underlying t = some d) : (isAgg t).run P w = .ok (match d with | .struct _ | .array _ _ => true | _ => false) w := by
  unfold isAgg
  simp only [Sem.run_bind, run_underlying hu, Result.andThen_ok]
  cases d <;> rfl
theorem part_one {t : TypeId} {d : TypeDesc} (hu : P.underlying t = some d) (hd : (match d with | .struct _ | .array _ _ => true | _ => false) = false) {cs : Array Value} {off : Nat} {v : Value} (h : cs[off]? = some v) : (part t cs off).run P w = .ok v w := by
  unfold part
  simp only [Sem.run_bind, isAgg_run hu, Result.andThen_ok, hd, Bool.false_eq_true, if_false, h, Sem.run_pure]
/-- Arrays of bytes are the same. -/
theorem eq_items {e : TypeId} {k : IntKind} {d : Nat} (hu : P.underlying e = some (.int k)) {xs ys : List Int} (a b : Array Value) (ha : a = (xs.map (Value.int .u8)).toArray) (hb : b = (ys.map (Value.int .u8)).toArray) (hl : xs.length = ys.length) : ∀ (m i : Nat), i + m = xs.length →
    (Op.eqItems (d + 1) e 1 a b (List.range' i m)).run P w = .ok (decide (xs.drop i = ys.drop i)) w := by
  intro m
  induction m with
  | zero =>
    intro i hi
    rw [List.drop_of_length_le (by omega), List.drop_of_length_le (by omega)]
    simp [Op.eqItems]
  | succ m ih =>
    intro i hi
    have h1 : a[i * 1]? = some (.int .u8 (xs[i]'(by omega))) := by subst ha; simp [List.getElem?_eq_getElem (show i < xs.length by omega)]
    have h2 : b[i * 1]? = some (.int .u8 (ys[i]'(by omega))) := by subst hb; simp [List.getElem?_eq_getElem (show i < ys.length by omega)]
    rw [List.range'_succ]
    simp only [Op.eqItems, Sem.run_bind, part_one hu rfl h1, part_one hu rfl h2, Result.andThen_ok, run_equalIn_int w d e .u8 k _ _ hu]
    rw [List.drop_eq_getElem_cons (show i < xs.length by omega), List.drop_eq_getElem_cons (show i < ys.length by omega)]
    simp only [List.cons.injEq]
    by_cases h : xs[i]'(by omega) = ys[i]'(by omega)
    · simp [h, ih (i + 1) (by omega)]
    · simp [h]
end
theorem digest_info : ∃ i, Tryd.prog.info? 5 = some i := by
  have : (Tryd.prog.info? 5).isSome = true := by kernel_rfl
  exact Option.isSome_iff_exists.1 this
theorem digest_eq {d : Nat} {w : World} {xs ys : List Int} (hx : xs.length = 32) (hy : ys.length = 32) : (Op.equalIn (d + 2) 40 (.agg (Nm xs).toArray) (.agg (Nm ys).toArray)).run Tryd.prog w = .ok (decide (xs = ys)) w := by
  obtain ⟨i, hi⟩ := digest_info
  rw [run_equalIn_array w (d + 1) _ _ Tryd.underlying40 hi, show Tryd.prog.cellsOf 5 = 1 by kernel_rfl, List.range_eq_range']
  have := eq_items (P := Tryd.prog) (w := w) (d := d) Tryd.underlying5 (xs := xs) (ys := ys) _ _ rfl rfl (by omega) 32 0 (by omega)
  simpa [Nm] using this
theorem d_eql {w : World} {nm nm' : List Int} (hn : nm.length = 32) (hn' : nm'.length = 32) :
    (binOp .eql 40 (.agg (Nm nm).toArray) (.agg (Nm nm').toArray)).run Tryd.prog w = .ok (.bool (decide (nm = nm'))) w := by
  rw [run_eql_struct, digest_eq (d := 9998) hn hn']; rfl

/-- [](byte)(s): the walk's world behind it. -/
theorem str_conv (b : ByteArray) (w : World) : (convert 9 37 (.string b)).run Tryd.prog w = .ok (.slice (some ⟨w.heap.size, 0, none⟩) b.size (grownCap w b.size 0 5)) (Lib.bytesWorld w 5 b) :=
  print_bytes 9 37 5 Tryd.underlying9 Tryd.underlying37 Tryd.underlying5 b w
section
variable {ops : Array Oper} {rest : List Oper} {o : Oper} {a : Act} {Q : Exit → Act → World → Prop} {w : World}
/-- []byte(s), the memory behind it hidden. -/
theorem conv_new (hgd : o.guard = none) (x : Operand) (ho : o.op = .convert 9 37 x) {b : ByteArray} (hx : a.eval x = .string b) (hb : b.size ≤ 140737488355328)
    (h : ∀ g c w1, RdB w1 (some ⟨g, 0, none⟩) b.size (bytesOf b) → b.size ≤ c → w.heap.size ≤ g → Below w.heap.size w w1 → wpList Tryd.prog ops Q rest (a.put o.dst (.slice (some ⟨g, 0, none⟩) b.size c)) w1) : wpList Tryd.prog ops Q (o :: rest) a w :=
  conv_arm hgd _ _ x ho hx (str_conv b w) (h _ _ _ (Kd.C_of_reads (d := (0 : Int)) (bytes_reads w 5 b (by omega))) (by simpa using grownCap_ge w b.size 0 5) (Nat.le_refl _) (bytes_below (Below.refl _ _) (Nat.le_refl _) 5 b))
end
theorem Nm_take_rd {nm : List Int} {k : Nat} (h : k < nm.length) : (Nm nm).toArray[k]? = some (.int .u8 (rd nm k)) := by
  simp [Nm, rd, List.getD_eq_getElem?_getD, List.getElem?_eq_getElem h]

/-- Bytes: a digest's bytes. -/
theorem bytes32_calls (nm : List Int) (C : Array Value) (w : World) (hC : C = (Nm nm).toArray) (hn : nm.length = 32) (hb : Bytes nm) :
    Calls Tryd.prog 39 #[.agg C] w fun e w' => ∃ v, e = .returned v ∧ OwB w' w.heap.size v nm ∧ Below w.heap.size w w' := by
  have hblk := blk_new w (.cells C 40)
  have hcell : Aside0 (∀ k : Nat, k < 32 → (w.alloc (.cells C 40)).cell? ⟨w.heap.size, k, none⟩ = some (.int .u8 (rd nm k))) := ⟨fun k hk => by
    rw [blk_cell hblk, hC]
    exact Nm_take_rd (by omega)⟩
  have hsz : (w.alloc (.cells C 40)).heap.size = w.heap.size + 1 := by simp
  have HN := Aside0.mk hn
  clear hC hn hblk
  go_enter Tryd.func39, Tryd.ntmps39
  go_wp2
  obtain ⟨w1, hw1⟩ : ∃ w1, w1 = w.alloc (.cells C 40) := ⟨_, rfl⟩
  rw [← hw1] at hcell hsz ⊢
  have hB1 : Below w.heap.size w w1 := by rw [hw1]; exact (Below.refl _ _).alloc (Nat.le_refl _) _
  clear hw1
  go_loopw [3, 4] (fun v i wr => ∃ k : Nat, k ≤ 32 ∧ i = .int .i64 k ∧ OwB wr w1.heap.size v (nm.take k) ∧ Below w1.heap.size w1 wr) (fun _ i _ => 32 - (intOf i).toNat)
  case atStart => exact ⟨0, by omega, rfl, Kd.R_nil _ _ _ _ _, Below.refl _ _⟩
  case round =>
    obtain ⟨k, hk, rfl, hO, hB⟩ := hrel
    by_cases hlt : k < 32
    · have hc := pw_cell_below hB (hcell.out k hlt)
      have HT : Aside0 (nm.take (k + 1) = nm.take k ++ [rd nm k]) := ⟨take_snoc (by have := HN.out; omega)⟩
      have hl : (nm.take k).length < 140737488355328 := by rw [List.length_take]; omega
      have HO := Aside0.mk hO
      have HL := Aside0.mk hl
      clear hl hO
      generalize rd nm k = x at *
      go_wp2_with (at_builtin; refine appB (w0 := w1) w1.heap.size rfl (.tmp 9) (.tmp 13) rfl _ _ x rfl rfl HO.out hB hB.size HL.out ?_; intro v2 w2 hO2 hB2 _ _)
      go_roundw
      case rel => exact ⟨k + 1, by omega, by go_num, by rw [HT.out]; exact hO2, hB2⟩
      case measure => simp [intOf]; omega
    · obtain rfl : k = 32 := by omega
      go_wp2
      go_ret
      exact ⟨_, rfl, by rw [List.take_of_length_le (by have := HN.out; omega)] at hO; exact Kd.R_lower hO hB1.size, below_tr' hB1 hB⟩

def fillN (xs : List Int) (n k : Nat) : List Int := xs.take k ++ List.replicate (n - k) 0
theorem fillN_len {xs : List Int} {n k : Nat} (h : k ≤ n) (hx : n ≤ xs.length) : (fillN xs n k).length = n := by
  rw [fillN, List.length_append, List.length_take, List.length_replicate]
  omega
theorem fillN_set {xs : List Int} {n k : Nat} (h : k < n) (hx : n ≤ xs.length) : (fillN xs n k).set k (rd xs k) = fillN xs n (k + 1) := by
  unfold fillN
  rw [take_snoc (by omega), List.set_append_right _ _ (by rw [List.length_take]; omega), List.length_take, show k - min k xs.length = 0 by omega, show n - k = (n - (k + 1)) + 1 by omega, List.replicate_succ, List.set_cons_zero, List.append_assoc]
  rfl
theorem Nm_set (xs : List Int) (k : Nat) (x : Int) : (Nm xs).toArray.setIfInBounds k (.int .u8 x) = (Nm (xs.set k x)).toArray := by
  simp [Nm, List.map_set]

end Go.Proofs.YtnkkjmbpopodlaaDoor
namespace Go.Proofs.YtnkkjmbpopodlaaDoor
open Go.RowKit Go.Proofs.YtnkkjmbpopodlaaDoorW.PrintWords Go.Proofs.YtnkkjmbpopodlaaDoorW.PrintMore
set_option linter.unusedVariables false
set_option linter.unusedSimpArgs false
def fillAt (xs : List Int) (i : Nat) : Int := if 0 < xs.length then rd xs ((i % xs.length : Nat) : Int) else 0
def fillL (xs : List Int) (m : Nat) : List Int := (List.range m).map (fillAt xs)
theorem fillL_len (xs : List Int) (m : Nat) : (fillL xs m).length = m := by simp [fillL]
theorem fillL_succ (xs : List Int) (m : Nat) : fillL xs (m + 1) = fillL xs m ++ [fillAt xs m] := by simp [fillL, List.range_succ]
theorem fillAt_range {xs : List Int} (h : Bytes xs) (i : Nat) : 0 ≤ fillAt xs i ∧ fillAt xs i < 256 := by
  unfold fillAt
  split
  · exact h.at_ _
  · omega
theorem fillL_bytes {xs : List Int} (h : Bytes xs) (m : Nat) : Bytes (fillL xs m) := fun x hx => by
  obtain ⟨i, _, rfl⟩ := List.mem_map.1 hx
  exact fillAt_range h i
def FillInvN (xs : List Int) (m : Nat) (w : World) (v i : Value) (wr : World) : Prop := ∃ k : Nat, k ≤ m ∧ i = .int .i64 k ∧ OwB wr w.heap.size v (fillL xs k) ∧ Below w.heap.size w wr
theorem fillN_calls (A : Option Addr) (n c : Nat) (xs : List Int) (m : Int) (w : World) (h : RdB w A n xs) (hb : Bytes xs) (h0 : 0 ≤ m) (h1 : m ≤ 1099511627776) :
    Calls Tryd.prog 38 #[.slice A n c, .int .i64 m] w fun e w' => ∃ B d, e = .returned (.slice B m.toNat d) ∧ Aside0 (OwB w' w.heap.size (.slice B m.toNat d) (fillL xs m.toNat)) ∧ m.toNat ≤ d ∧ Aside0 (RdB w' B m.toNat (fillL xs m.toNat)) ∧ Below w.heap.size w w' := by
  obtain ⟨m, rfl⟩ := Int.eq_ofNat_of_zero_le h0
  have HX := Aside0.mk h
  obtain rfl : xs.length = n := h.1
  have hmax := h.2.1
  clear h
  go_enter Tryd.func38, Tryd.ntmps38
  go_wp2
  go_loopw [5, 6] (fun v i wr => FillInvN xs m w v i wr) (fun _ i _ => m - (intOf i).toNat)
  case atStart => exact ⟨0, by omega, rfl, Kd.R_nil _ _ _ _ _, Below.refl _ _⟩
  case round =>
    obtain ⟨k, hk, rfl, hO, hB⟩ := hrel
    have HO := Aside0.mk hO
    have HB := Aside0.mk hB
    have HYL := Aside0.mk (fillL_len xs k)
    clear hO hB
    by_cases hlt : k < m
    · have HS := Aside0.mk (fillL_succ xs k)
      by_cases hx0 : 0 < xs.length
      · have hmz : ((xs.length : Int) == 0) = false := by rw [beq_eq_false_iff_ne]; omega
        have e1 : ((k : Int).tmod (xs.length : Int)) = ((k % xs.length : Nat) : Int) := by rw [Int.tmod_eq_emod_of_nonneg (by omega)]; rfl
        have hr : k % xs.length < xs.length := Nat.mod_lt _ hx0
        have HA : Aside0 (fillAt xs k = rd xs ((k % xs.length : Nat) : Int)) := ⟨by unfold fillAt; rw [if_pos hx0]⟩
        obtain ⟨ad, ea⟩ : ∃ ad, A = some ad := by obtain ⟨ad, e, _⟩ := Kd.at_int HX.out 0 (by omega) (by omega); exact ⟨ad, e⟩
        subst ea
        have hcell := rdB_at (Kd.C_below HX.out HB.out) (k % xs.length) hr
        have hby := hb.at_ ((k % xs.length : Nat) : Int)
        generalize rd xs ((k % xs.length : Nat) : Int) = x at *
        generalize hkr : k % xs.length = kr at *
        have hx0I : (0 : Int) < (xs.length : Int) := by omega
        go_wp2_with (at_builtin; refine appB (w0 := w) w.heap.size rfl (.tmp 15) (.tmp 23) rfl _ _ x rfl rfl HO.out HB.out HB.out.size (by have := HYL.out; omega) ?_; intro v5 w5 hO5 hB5 _ _)
        go_roundw
        case rel => exact ⟨k + 1, by omega, by go_num, by rw [HS.out, HA.out]; exact hO5, hB5⟩
        case measure => simp [intOf]; omega
      · have hx0I : ¬ (0 : Int) < (xs.length : Int) := by omega
        have hxl : xs.length = 0 := by omega
        have HA : Aside0 (fillAt xs k = 0) := ⟨by unfold fillAt; rw [if_neg hx0]⟩
        go_wp2_with (at_builtin; refine appB (w0 := w) w.heap.size rfl (.tmp 25) (.tmp 26) rfl _ _ 0 rfl rfl HO.out HB.out HB.out.size (by have := HYL.out; omega) ?_; intro v5 w5 hO5 hB5 _ _)
        go_roundw
        case rel => exact ⟨k + 1, by omega, by go_num, by rw [HS.out, HA.out]; exact hO5, hB5⟩
        case measure => simp [intOf]; omega
    · obtain rfl : k = m := by omega
      go_wp2
      go_ret
      obtain ⟨B, d, rfl, hd, hr⟩ := OwB.reads HO.out
      have HO' := HO.out
      rw [HYL.out] at hd hr HO'
      rw [HYL.out]
      exact ⟨B, d, rfl, ⟨HO'⟩, hd, ⟨hr⟩, HB.out⟩
end Go.Proofs.YtnkkjmbpopodlaaDoor
namespace Go.Proofs.YtnkkjmbpopodlaaDoor
open Go.RowKit Go.Proofs.YtnkkjmbpopodlaaDoorW.PrintWords Go.Proofs.YtnkkjmbpopodlaaDoorW.PrintMore
set_option linter.unusedVariables false
set_option linter.unusedSimpArgs false
set_option maxRecDepth 100000
theorem l32 (l : List Int) (h : l.length = 32) : ∃ x0 x1 x2 x3 x4 x5 x6 x7 x8 x9 x10 x11 x12 x13 x14 x15 x16 x17 x18 x19 x20 x21 x22 x23 x24 x25 x26 x27 x28 x29 x30 x31, l = [x0, x1, x2, x3, x4, x5, x6, x7, x8, x9, x10, x11, x12, x13, x14, x15, x16, x17, x18, x19, x20, x21, x22, x23, x24, x25, x26, x27, x28, x29, x30, x31] := by
  match l, h with
  | [x0, x1, x2, x3, x4, x5, x6, x7, x8, x9, x10, x11, x12, x13, x14, x15, x16, x17, x18, x19, x20, x21, x22, x23, x24, x25, x26, x27, x28, x29, x30, x31], _ => exact ⟨_, _, _, _, _, _, _, _, _, _, _, _, _, _, _, _, _, _, _, _, _, _, _, _, _, _, _, _, _, _, _, _, rfl⟩
/-- Elements that are their cells. -/
def Kf {α : Type} (sz : Nat) (p : α → Prop) (enc : α → List Value) (hl : ∀ x, p x → (enc x).length = sz) (h1 : ∀ x, ∀ v ∈ enc x, v.oneCell' = true) : Kd α where
  sz := sz
  E := []
  K := fun _ x cs => p x ∧ cs = enc x
  M := fun _ _ _ x cs => p x ∧ cs = enc x
  K_len := fun h => by rw [h.2]; exact hl _ h.1
  K_one := fun h u hu => by rw [h.2] at hu; exact h1 _ u hu
  K_below := fun _ h => h
  K_of_M := fun h => h
  M_mono := fun _ h => h
  M_bound := fun h => h
  M_move := fun _ h => h
  M_lower := fun _ h => h
section
variable {α : Type} {sz : Nat} {p : α → Prop} {enc : α → List Value} {hl : ∀ x, p x → (enc x).length = sz} {h1 : ∀ x, ∀ v ∈ enc x, v.oneCell' = true}
/-- An element that is read. -/
theorem kf_at {w : World} {A : Option Addr} {n : Nat} {xs : List α} (h : (Kf sz p enc hl h1).C w A n xs) (d : α) (i : Nat) (hi : i < n) :
    ∃ ad, A = some ad ∧ p (xs.getD i d) ∧ ∀ j u, (enc (xs.getD i d))[j]? = some u → w.cell? (ad.add (i * sz + j)) = some u := by
  obtain ⟨ad, c, e, _, hr, hc⟩ := ReadsRow.get_ h d (i : Int) (by omega) (by omega)
  obtain ⟨hp, rfl⟩ := hr
  rw [Int.toNat_natCast] at hp hc
  exact ⟨ad, e, hp, hc⟩
theorem kf_all {w : World} {A : Option Addr} {n : Nat} {xs : List α} (h : (Kf sz p enc hl h1).C w A n xs) : ∀ x ∈ xs, p x := by
  intro x hx
  obtain ⟨i, hi⟩ := List.mem_iff_getElem?.1 hx
  have hl := (List.getElem?_eq_some_iff.1 hi).1
  obtain ⟨_, _, hp, _⟩ := kf_at h x i (by have := h.1; omega)
  rwa [List.getD_eq_getElem?_getD, hi] at hp
/-- Owned rows move with the blocks of their own type. -/
theorem kf_move {e : Nat} {w w1 : World} {base : Nat} {v : Value} {xs : List α} (h : (Kf sz p enc hl h1).R e w base (fun _ => True) v xs) (hm : ∀ k cells, base ≤ k → w.heap[k]? = some (.cells cells e (0, 0)) → w1.heap[k]? = w.heap[k]?) : (Kf sz p enc hl h1).R e w1 base (fun _ => True) v xs :=
  Kd.R_mono (Kd.R_move (Kd.R_bound h) (fun k hk => by
    obtain ⟨_, hb, _, q, hq, cells, hc⟩ := hk
    rcases List.mem_cons.1 hq with rfl | hq
    · exact hm k cells hb hc
    · cases hq)) (fun _ hk => hk.1)
end
theorem add_add (a : Addr) (i j : Nat) : (a.add i).add j = a.add (i + j) := by
  unfold Addr.add
  by_cases hi : i = 0
  · subst hi; simp
  · by_cases hj : j = 0
    · subst hj; simp
    · simp [hi, hj, Nat.add_assoc]
section
variable {P : Program}
/-- A whole variable at any address. -/
theorem ld_any {w : World} {q : Addr} {cs : List Value} (hc : ∀ j u, cs[j]? = some u → w.cell? (q.add j) = some u) (ty : TypeId) (d : TypeDesc) (hu : P.underlying ty = some d) (hd : (match d with | .struct _ | .array _ _ => true | _ => false) = true) (hi : (P.info? ty).map (·.size) = some cs.length) :
    (Instr.loadAt ty (.pointer (some q))).run P w = .ok (.agg cs.toArray) w := by
  have hl : (loadCells q cs.length).run P w = .ok cs.toArray w := run_loadCells_list (P := P) w q cs hc
  have hv : (loadVar ty q).run P w = .ok (.agg cs.toArray) w := by
    cases hq : P.info? ty with
    | none => simp [hq] at hi
    | some i =>
      have hs : i.size = cs.length := by simpa [hq] using hi
      have hagg : (isAgg ty).run P w = .ok true w := by
        unfold isAgg
        rw [Sem.run_bind, run_underlying hu w]
        cases d <;> simp_all
      simp [loadVar, Sem.run_bind, hagg, sizeOf, typeInfo, hq, hs, hl]
  simp only [Instr.loadAt, Instr.sureAddr, Sem.run_bind, Sem.run_pure, Result.andThen_ok, hv]
/-- An element's whole load. -/
theorem ld_elem {w : World} {ad : Addr} {k : Nat} {cs : List Value} (hc : ∀ j u, cs[j]? = some u → w.cell? (ad.add (k + j)) = some u) (ty : TypeId) (d : TypeDesc) (hu : P.underlying ty = some d) (hd : (match d with | .struct _ | .array _ _ => true | _ => false) = true) (hi : (P.info? ty).map (·.size) = some cs.length) :
    (Instr.loadAt ty (.pointer (some (ad.add k)))).run P w = .ok (.agg cs.toArray) w :=
  ld_any (fun j u h => by rw [add_add]; exact hc j u h) ty d hu hd hi
variable {ops : Array Oper} {Q : Exit → Act → World → Prop} {o : Oper} {a : Act}
/-- append of one element, in a drawn region. -/
theorem do_appR {α : Type} (d : Kd α) {w0 W : World} {i : Nat} {N : Tmp} {K : Act → World → Prop} (base : Nat) (hi : ops[i]? = some o) (hN : o.dst = some N) (hw : Region.wanted o (yielded ops a.tmps) = true) (s x : Operand) (t e : TypeId) (z : Value) (bytes : Nat)
    (ho : o.op = .call { callee := .builtin .append, args := #[s, x], argTypes := #[t, t] })
    (ht : P.underlying t = some (.slice e)) (hinfo : (P.info? e).map (fun i => (i.zero, i.size, i.bytes)) = some (some z, d.sz, bytes)) (hz : z.cells.size = d.sz) (hs0 : 0 < d.sz) (hb0 : 0 < bytes)
    (v : Value) (xs : List α) (p : α) (cs : List Value) (hs : a.eval s = v) (hx : a.eval x = .slice (some ⟨W.heap.size, 0, none⟩) 1 1) (hp : d.M W base (fun _ => False) p cs)
    (HO : d.R e W base (fun _ => True) v xs) (HB : Below base w0 W) (hbase : base ≤ W.heap.size) (hl : (xs.length + 1) * bytes ≤ 140737488355328)
    (h : ∀ v1 w1, d.R e w1 base (fun _ => True) v1 (xs ++ [p]) → Below base w0 w1 → W.grownBy w1 v.ownBlock → (v1.ownBlock = v.ownBlock ∨ ∃ b, v1.ownBlock = some b ∧ W.heap.size ≤ b) → K (a.put (some N) v1) w1) :
    wpOp P ops Q i K a (W.alloc (.cells cs.toArray e)) := by
  refine do_ hi hw ?_
  have := Kd.R_append_step (P := P) (Q := Q) (Kc := K) (o := o) (a := a) (ops := ops) d base hw s x t e z bytes ho ht hinfo hz hs0 hb0 v xs p cs (fun _ => True) (fun _ => False) hs hx hp (fun _ h => h.elim) (fun _ _ => trivial) HO HB hbase hl (fun v1 w1 h1 h2 h3 h4 => by
    rw [hN]; exact h v1 w1 h1 h2 h3 h4)
  rwa [if_pos hw] at this
end
end Go.Proofs.YtnkkjmbpopodlaaDoor
