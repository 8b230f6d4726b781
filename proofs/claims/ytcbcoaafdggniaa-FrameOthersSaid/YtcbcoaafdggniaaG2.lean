/- Plain lemmas and contracts, several texts in one: Ref01, Crc, Ref03, Frm1, Frm2, Frm3, Frm4, Frm5, Frm6. Conditions: their own. -/
import Derived.Test.YtcbcoaafdggniaaG1
import Derived.WalkSmall
namespace Go.Proofs.Ytcbcoaafdggniaa
open Go.RowKit Go.Proofs.YtcbcoaafdggniaaW.PrintWords Go.Proofs.YtcbcoaafdggniaaW.PrintMore
attribute [local go_sem] max2_int min2_int max_two min_two
set_option linter.unusedVariables false
set_option linter.unusedSimpArgs false

/-- Few: the first bytes, in memory of their own. -/
theorem few_calls (A : Option Addr) (n c : Nat) (xs : List Int) (m : Int) (w : World) (h : RdB w A n xs) (hc : n ≤ c) (h0 : 0 ≤ m) (h1 : m ≤ 1099511627776) :
    Calls Try.prog 8 #[.slice A n c, .int .i64 m] w fun e w' => ∃ v, e = .returned v ∧ OwB w' w.heap.size v (xs.take m.toNat) ∧ Below w.heap.size w w' := by
  obtain ⟨j, hj⟩ : ∃ j : Int, (if m < (n : Int) then m else (n : Int)) = j := ⟨_, rfl⟩
  have hj0 : 0 ≤ j ∧ j ≤ n ∧ j ≤ m := by rw [← hj]; split <;> omega
  have HT : Aside0 (xs.take j.toNat = xs.take m.toNat) := ⟨by
    rw [← hj]
    split
    · rfl
    · rw [List.take_of_length_le (by have := h.1; omega), List.take_of_length_le (by have := h.1; omega)]⟩
  obtain ⟨hj1, hj2, hj3⟩ := hj0
  obtain ⟨hcut, hrd⟩ := cutTo h hc j hj1 hj2
  have HR := Aside0.mk hrd
  have HJ : Aside0 (0 ≤ j ∧ j ≤ n ∧ j ≤ m) := ⟨⟨hj1, hj2, hj3⟩⟩
  clear hrd h h0 hj1 hj2 hj3
  go_enter Try.func8, Try.ntmps8
  go_wp2_with (at_builtin; refine appBs (w0 := w) w.heap.size rfl (.tmp 6) (.tmp 12) rfl (.slice none 0 0) [] _ _ _ _ rfl rfl (Kd.R_nil _ _ _ _ _) HR.out (Below.refl _ _) (Nat.le_refl _) (by have := HJ.out; simp; omega) ?_; intro v1 w1 hO hB _ _)
  go_ret
  exact ⟨_, rfl, by rw [← HT.out]; simpa using hO, hB⟩

/-- The same, the list under a name of its own. -/
theorem few_new (A : Option Addr) (n c : Nat) (xs : List Int) (m : Int) (w : World) (h : RdB w A n xs) (hc : n ≤ c) (hb : Bytes xs) (h0 : 0 ≤ m) (h1 : m ≤ 1099511627776) :
    Calls Try.prog 8 #[.slice A n c, .int .i64 m] w fun e w' => ∃ B d ys, e = .returned (.slice B ys.length d) ∧ Aside0 (ys = xs.take m.toNat) ∧ Bytes ys ∧ Aside0 (OwB w' w.heap.size (.slice B ys.length d) ys) ∧ ys.length ≤ d ∧ ys.length ≤ m.toNat ∧ Aside0 (RdB w' B ys.length ys) ∧ Below w.heap.size w w' :=
  (few_calls A n c xs m w h hc h0 h1).mono fun e w' ⟨v, he, hO, hB⟩ => by
    obtain ⟨B, d, rfl, hd, hr⟩ := OwB.reads hO
    exact ⟨B, d, _, he, ⟨rfl⟩, hb.take _, ⟨hO⟩, hd, List.length_take_le _ _, ⟨hr⟩, hB⟩

/-- Around: modulo, from 0 on. -/
def around (n m : Int) : Int := if n < 0 then (-(n + 1)) % m else n % m
theorem around_range (n m : Int) (hm : 0 < m) : 0 ≤ around n m ∧ around n m < m := by
  unfold around
  split
  · exact ⟨Int.emod_nonneg _ (by omega), Int.emod_lt_of_pos _ hm⟩
  · exact ⟨Int.emod_nonneg _ (by omega), Int.emod_lt_of_pos _ hm⟩
theorem around_calls (n m : Int) (w : World) (hn0 : -9223372036854775808 ≤ n) (hn1 : n ≤ 9223372036854775807) (hm : 0 < m) (hm' : m ≤ 9223372036854775807) :
    Calls Try.prog 16 #[.int .i64 n, .int .i64 m] w fun e w' => e = .returned (.int .i64 (around n m)) ∧ w = w' := by
  have hmz : ((m == 0) = false) := by simp; omega
  by_cases hn : n < 0
  · have e0 : around n m = (-(n + 1)).tmod m := by
      unfold around; rw [if_pos hn, Int.tmod_eq_emod_of_nonneg (by omega)]
    have H := Aside0.mk e0
    clear e0
    go_enter Try.func16, Try.ntmps16
    go_wp2
    go_ret
    exact ⟨by rw [H.out, Int.neg_tmod]; rfl, rfl⟩
  · have e0 : around n m = n % m := by
      unfold around; rw [if_neg hn]
    have H := Aside0.mk e0
    clear e0
    go_enter Try.func16, Try.ntmps16
    go_wp2
    go_ret
    exact ⟨by rw [H.out]; rfl, rfl⟩
end Go.Proofs.Ytcbcoaafdggniaa
namespace Go.Proofs.Ytcbcoaafdggniaa
open Go.RowKit Go.Proofs.YtcbcoaafdggniaaW.PrintWords Go.Proofs.YtcbcoaafdggniaaW.PrintMore
set_option linter.unusedVariables false
set_option linter.unusedSimpArgs false

theorem cs_int (x : Int) (h0 : 0 ≤ x) (h1 : x < 4294967296) : Go.bits .xor .u32 (x / 2) ((2197175160 * (Go.bits .and .u32 x 1)) % 4294967296) = ((cs x.toNat : Nat) : Int) := by
  have ha : Go.bits .and .u32 x 1 = x % 2 := by
    rw [u32_and x 1 h0 h1 (by omega) (by omega)]
    rw [show (1 : Int).toNat = 2 ^ 1 - 1 from rfl, Nat.and_two_pow_sub_one_eq_mod]
    omega
  rw [ha, u32_xor _ _ (by omega) (by omega) (by omega) (by omega)]
  unfold cs
  rcases Int.emod_two_eq x with h | h
  · rw [h, if_neg (by omega)]
    simp
    omega
  · rw [h, if_pos (by omega)]
    congr 2
    omega

/-- steps$1: one step of what it captured. -/
theorem step_calls (a : Addr) (x : Int) (w : World) (h0 : 0 ≤ x) (h1 : x < 4294967296) (hc : w.cell? a = some (.int .u32 x)) (hf : w.frozen? a = false) :
    Calls Try.prog 45 #[.pointer (some a)] w fun e w' => e = .returned (.tuple #[]) ∧ w.setCell a (.int .u32 ((cs x.toNat : Nat) : Int)) = w' := by
  have H := Aside0.mk (cs_int x h0 h1)
  go_enter Try.func45, Try.ntmps45
  go_wp2
  go_end0
  exact ⟨rfl, by rw [← H.out]⟩

theorem steps_calls (x : Int) (n : Int) (w : World) (h0 : 0 ≤ x) (h1 : x < 4294967296) (hn : 0 ≤ n) (hn' : n < 9223372036854775808) :
    Calls Try.prog 42 #[.int .u32 x, .int .i64 n] w fun e w' => e = .returned (.int .u32 ((css x.toNat n.toNat : Nat) : Int)) ∧ Below w.heap.size w w' := by
  obtain ⟨m, rfl⟩ := Int.eq_ofNat_of_zero_le hn
  obtain ⟨y, rfl⟩ := Int.eq_ofNat_of_zero_le h0
  rw [Int.toNat_natCast, Int.toNat_natCast]
  go_enter Try.func42, Try.ntmps42
  go_wp2
  go_loopw [8] (fun i wr => ∃ k : Nat, k ≤ m ∧ i = .int .i64 k ∧ wr = w.alloc (.cells #[.int .u32 ((css y k : Nat) : Int)] 44)) (fun i _ => m - (intOf i).toNat)
  case atStart => exact ⟨0, Nat.zero_le _, rfl, rfl⟩
  case round =>
    obtain ⟨k, hk, rfl, rfl⟩ := hrel
    have r1 : css y k < 4294967296 := css_lt (by omega) k
    by_cases hlt : k < m
    · go_wp2_with (go_at_call 45; refine (step_calls _ ((css y k : Nat) : Int) _ (by omega) (by omega) (by simp) (by simp)).mono ?_; rintro e w' ⟨rfl, rfl⟩)
      go_roundw
      case rel => exact ⟨k + 1, by omega, by go_num, by simp [css]⟩
      case measure => simp [intOf]; omega
    · have : k = m := by omega
      subst this
      go_wp2
      go_ret
      exact ⟨rfl, (Below.refl _ _).alloc (Nat.le_refl _) _⟩

theorem ones_sub (s : Nat) (h : s < 4294967296) : ((4294967295 ^^^ s : Nat) : Int) = 4294967295 - (s : Int) := by
  have : 4294967295 ^^^ s = 4294967295 - s := by
    have h1 : s ^^^ (2 ^ 32 - 1) = 2 ^ 32 - 1 - s := by
      apply Nat.eq_of_testBit_eq
      intro i
      rw [Nat.testBit_xor, Nat.testBit_two_pow_sub_one, Nat.sub_sub, Nat.add_comm 1 s]
      rw [Nat.testBit_two_pow_sub_succ (by omega)]
      by_cases hi : i < 32
      · simp [hi]
      · have hs : s.testBit i = false := Nat.testBit_lt_two_pow (Nat.lt_of_lt_of_le h (show 2 ^ 32 ≤ 2 ^ i from Nat.pow_le_pow_right (by omega) (by omega)))
        simp [hi, hs]
    rw [Nat.xor_comm]
    exact h1
  rw [this]
  omega

theorem xor_byte (m : Nat) (b : Int) (hm : m < 4294967296) (hb : 0 ≤ b ∧ b < 256) : Go.bits .xor .u32 (m : Int) b = ((m ^^^ b.toNat : Nat) : Int) := by
  rw [u32_xor _ _ (by omega) (by omega) (by omega) (by omega), Int.toNat_natCast]

theorem take_snoc {xs : List Int} {k : Nat} (h : k < xs.length) : xs.take (k + 1) = xs.take k ++ [rd xs k] := by
  rw [List.take_succ_eq_append_getElem h]
  simp [rd, List.getD_eq_getElem?_getD, List.getElem?_eq_getElem h]

theorem un_xor (x : Nat) (h : x < 4294967296) : Op.unary .xor (.int .u32 (x : Int)) = pure (.int .u32 ((4294967295 ^^^ x : Nat) : Int)) := by
  have hm : IntKind.u32.max = 4294967295 := by simp [IntKind.max, IntKind.bits, IntKind.signed]
  rw [unary_xor, intBits_xor, hm, if_neg (by simp [IntKind.signed])]
  rw [u32_xor _ _ (by omega) (by omega) (by omega) (by omega), Int.toNat_natCast]
  rfl

/-- crc.More -/
theorem more_calls (s : Int) (A : Option Addr) (n c : Nat) (xs : List Int) (w : World) (h : RdB w A n xs) (hb : Bytes xs) (h0 : 0 ≤ s) (h1 : s < 4294967296) :
    Calls Try.prog 36 #[.int .u32 s, .slice A n c] w fun e w' => e = .returned (.int .u32 ((crc s.toNat xs : Nat) : Int)) ∧ Below w.heap.size w w' := by
  obtain ⟨s, rfl⟩ := Int.eq_ofNat_of_zero_le h0
  obtain rfl : xs.length = n := h.1
  have HR := Aside0.mk h
  have hmax := h.2.1
  clear h
  rw [Int.toNat_natCast]
  have hun := un_xor s (by omega)
  obtain ⟨x0, hx0⟩ : ∃ x0, x0 = 4294967295 ^^^ s := ⟨_, rfl⟩
  rw [← hx0] at hun
  have HX := Aside0.mk hx0
  have hx1 : x0 < 4294967296 := by rw [hx0]; exact xor_lt (by omega) (by omega)
  clear hx0
  go_enter Try.func36, Try.ntmps36
  go_wp2
  go_loopw [5, 11] (fun x i wr => ∃ k : Nat, k ≤ xs.length ∧ i = .int .i64 k ∧ x = .int .u32 ((cm x0 (xs.take k) : Nat) : Int) ∧ Below w.heap.size w wr) (fun _ i _ => xs.length - (intOf i).toNat)
  case atStart => exact ⟨0, Nat.zero_le _, rfl, rfl, Below.refl _ _⟩
  case round =>
    clear hun
    obtain ⟨k, hk, rfl, rfl, hB⟩ := hrel
    have r1 : cm x0 (xs.take k) < 4294967296 := cm_lt hx1 (hb.take _)
    by_cases hlt : k < xs.length
    · obtain ⟨ad, e, hx⟩ := Kd.at_int (Kd.C_below HR.out hB) (k : Int) (by omega) (by omega)
      subst e
      rw [Int.toNat_natCast] at hx
      have hbk := hb.at_ (k : Int)
      have hby := xor_byte (cm x0 (xs.take k)) (rd xs k) r1 hbk
      have r2 : cm x0 (xs.take k) ^^^ (rd xs k).toNat < 4294967296 := xor_lt r1 (by omega)
      obtain ⟨hbk0, hbk1⟩ := hbk
      have HS : Aside0 (cm x0 (xs.take (k + 1)) = css (cm x0 (xs.take k) ^^^ (rd xs k).toNat) 8) := ⟨by rw [take_snoc hlt, cm_snoc]⟩
      generalize hm : cm x0 (xs.take k) = m at *
      generalize hr : rd xs k = b at *
      clear hm hr
      go_wp2_with (go_at_call 42; refine (steps_calls ((m ^^^ b.toNat : Nat) : Int) 8 _ (by omega) (by omega) (by omega) (by omega)).mono ?_; rw [Int.toNat_natCast]; rintro e w' ⟨rfl, hB'⟩)
      go_roundw
      case rel => exact ⟨k + 1, by omega, by go_num, by rw [HS.out], below_tr' hB hB'⟩
      case measure => simp [intOf]; omega
    · have hun2 := un_xor _ r1
      obtain rfl : k = xs.length := by omega
      have HS : Aside0 (4294967295 ^^^ cm x0 (xs.take xs.length) = crc s xs) := ⟨by rw [List.take_length, HX.out]; rfl⟩
      generalize hm : cm x0 (xs.take xs.length) = m at *
      clear hm
      go_wp2
      go_ret
      exact ⟨by rw [← HS.out]; rfl, hB⟩

/-- crc.Sum -/
theorem sum_calls (A : Option Addr) (n c : Nat) (xs : List Int) (w : World) (h : RdB w A n xs) (hb : Bytes xs) :
    Calls Try.prog 23 #[.slice A n c] w fun e w' => e = .returned (.int .u32 ((crc 0 xs : Nat) : Int)) ∧ Below w.heap.size w w' := by
  have H := Aside0.mk h
  clear h
  go_enter Try.func23, Try.ntmps23
  go_wp2_with (go_at_call 36; refine (more_calls 0 A n c xs _ H.out hb (by omega) (by omega)).mono ?_; rintro e w' ⟨rfl, hB'⟩)
  go_ret
  exact ⟨rfl, hB'⟩

/-- bytes.Equal -/
theorem equal_calls (A B : Option Addr) (n m c d : Nat) (xs ys : List Int) (w : World) (h : RdB w A n xs) (k : RdB w B m ys) (hx : Bytes xs) (hy : Bytes ys) :
    Calls Try.prog 28 #[.slice A n c, .slice B m d] w fun e w' => e = .returned (.bool (decide (xs = ys))) ∧ w = w' := by
  have e1 := conv_str h c
  have e2 := conv_str k d
  have E := Aside0.mk (str_beq hx hy)
  clear h k
  go_enter Try.func28, Try.ntmps28
  go_wp2
  go_ret
  exact ⟨by rw [← E.out]; rfl, rfl⟩

/-- bytes.Clone -/
theorem clone_calls (A : Option Addr) (n c : Nat) (xs : List Int) (w : World) (h : RdB w A n xs) (hn : n ≤ 140737488355328) :
    Calls Try.prog 26 #[.slice A n c] w fun e w' => ∃ v, e = .returned v ∧ OwB w' w.heap.size v xs ∧ Below w.heap.size w w' := by
  have H := Aside0.mk h
  have hnil := Lib.run_eql_slice_nil (P := Try.prog) w 22 5 A n c 0 0 Try.underlying22
  rcases A with _ | ad
  · have h0 : xs = [] := by
      rcases Nat.eq_zero_or_pos n with h0 | h0
      · exact List.eq_nil_of_length_eq_zero (by have := h.1; omega)
      · obtain ⟨ad, e, _⟩ := h.2.2 h0
        cases e
    clear h
    subst h0
    simp only [Option.isNone_none] at hnil
    go_enter Try.func26, Try.ntmps26
    go_wp2
    go_ret
    exact ⟨_, rfl, Kd.R_nil _ _ _ _ _, Below.refl _ _⟩
  · clear h
    simp only [Option.isNone_some] at hnil
    go_enter Try.func26, Try.ntmps26
    go_wp2_with (at_builtin; refine appBs (w0 := w) w.heap.size rfl (.tmp 5) (.tmp 6) rfl (.slice (some ⟨w.heap.size, 0, none⟩) 0 0) [] xs (some ad) n c rfl rfl (own_litB w _ [] _ _ rfl rfl (Nat.le_refl _) (by simp)) (Kd.C_alloc H.out _) ((Below.refl _ _).alloc (Nat.le_refl _) _) (by simp) (by simp; omega) ?_; intro v1 w1 hO hB _ _)
    go_ret
    exact ⟨_, rfl, by simpa using hO, hB⟩

theorem le32_snoc (s : Nat) (k : Nat) (hk : k < 4) : (le32 s).take (k + 1) = (le32 s).take k ++ [((s / 256 ^ k : Nat) : Int) % 256] := by
  match k, hk with
  | 0, _ => simp [le32]
  | 1, _ => simp [le32]
  | 2, _ => simp [le32]
  | 3, _ => simp [le32]

end Go.Proofs.Ytcbcoaafdggniaa
namespace Go.Proofs.Ytcbcoaafdggniaa
open Go.RowKit Go.Proofs.YtcbcoaafdggniaaW.PrintWords Go.Proofs.YtcbcoaafdggniaaW.PrintMore
set_option linter.unusedVariables false
set_option linter.unusedSimpArgs false

theorem cs_odd (x : Nat) (h : x < 4294967296) (ho : x % 2 = 1) : Go.bits .xor .u32 ((x : Int) / 2) 2197175160 = ((cs x : Nat) : Int) := by
  rw [u32_xor _ _ (by omega) (by omega) (by omega) (by omega)]
  unfold cs
  rw [if_pos ho]
  congr 2
theorem cs_even (x : Nat) (ho : ¬ x % 2 = 1) : (x : Int) / 2 = ((cs x : Nat) : Int) := by
  unfold cs
  rw [if_neg ho, Nat.xor_zero]
  omega

set_option maxRecDepth 100000 in
/-- ref03.More -/
theorem rmore_calls (s : Int) (A : Option Addr) (n c : Nat) (xs : List Int) (w : World) (h : RdB w A n xs) (hb : Bytes xs) (h0 : 0 ≤ s) (h1 : s < 4294967296) :
    Calls Try.prog 43 #[.int .u32 s, .slice A n c] w fun e w' => e = .returned (.int .u32 ((crc s.toNat xs : Nat) : Int)) ∧ w = w' := by
  obtain ⟨s, rfl⟩ := Int.eq_ofNat_of_zero_le h0
  obtain rfl : xs.length = n := h.1
  have HR := Aside0.mk h
  have hmax := h.2.1
  clear h
  rw [Int.toNat_natCast]
  have HX := Aside0.mk (ones_sub s (by omega))
  obtain ⟨x0, hx0⟩ : ∃ x0, x0 = 4294967295 ^^^ s := ⟨_, rfl⟩
  have hx1 : x0 < 4294967296 := by rw [hx0]; exact xor_lt (by omega) (by omega)
  have HX0 := Aside0.mk hx0
  clear hx0
  go_enter Try.func43, Try.ntmps43
  go_wp2
  clear h0 h1
  go_loopw [5, 6] (fun x i wr => ∃ k : Nat, k ≤ xs.length ∧ i = .int .i64 k ∧ x = .int .u32 ((cm x0 (xs.take k) : Nat) : Int) ∧ w = wr) (fun _ i _ => xs.length - (intOf i).toNat)
  case atStart => exact ⟨0, Nat.zero_le _, rfl, by rw [← HX.out, ← HX0.out]; rfl, rfl⟩
  case round =>
    obtain ⟨k, hk, rfl, rfl, rfl⟩ := hrel
    have r1 : cm x0 (xs.take k) < 4294967296 := cm_lt hx1 (hb.take _)
    by_cases hlt : k < xs.length
    · obtain ⟨ad, e, hx⟩ := Kd.at_int HR.out (k : Int) (by omega) (by omega)
      subst e
      rw [Int.toNat_natCast] at hx
      have hbk := hb.at_ (k : Int)
      have hby := xor_byte (cm x0 (xs.take k)) (rd xs k) r1 hbk
      have r2 : cm x0 (xs.take k) ^^^ (rd xs k).toNat < 4294967296 := xor_lt r1 (by omega)
      obtain ⟨hbk0, hbk1⟩ := hbk
      have HS : Aside0 (cm x0 (xs.take (k + 1)) = css (cm x0 (xs.take k) ^^^ (rd xs k).toNat) 8) := ⟨by rw [take_snoc hlt, cm_snoc]⟩
      generalize hm : cm x0 (xs.take k) ^^^ (rd xs k).toNat = m at *
      generalize hr : rd xs k = b at *
      clear hr
      go_wp2
      clear hm hby
      go_loopw [5, 7] (fun x i wr => ∃ j : Nat, j ≤ 8 ∧ i = .int .i64 j ∧ x = .int .u32 ((css m j : Nat) : Int) ∧ w = wr) (fun _ i _ => 8 - (intOf i).toNat)
      case atStart => exact ⟨0, by omega, rfl, rfl, rfl⟩
      case round =>
        obtain ⟨j, hj, rfl, rfl, rfl⟩ := hrel
        have r3 : css m j < 4294967296 := css_lt r2 j
        by_cases hlt8 : j < 8
        · have HC : Aside0 (css m (j + 1) = cs (css m j)) := ⟨rfl⟩
          generalize hq : css m j = q at *
          clear hq
          by_cases ho : q % 2 = 1
          · have hodd := cs_odd q r3 ho
            have ht : ((q : Int) % 2 == 1) = true := by simp; omega
            clear ho
            go_wp2
            go_roundw
            case rel => exact ⟨j + 1, by omega, by go_num, by rw [HC.out], trivial⟩
            case measure => simp [intOf]; omega
          · have HE := Aside0.mk (cs_even q ho)
            have ht : ((q : Int) % 2 == 1) = false := by simp; omega
            clear ho
            go_wp2
            go_roundw
            case rel => exact ⟨j + 1, by omega, by go_num, by rw [HC.out, ← HE.out], trivial⟩
            case measure => simp [intOf]; omega
        · obtain rfl : j = 8 := by omega
          go_wp2
          go_roundw
          case rel => exact ⟨k + 1, by omega, by go_num, by rw [HS.out], trivial⟩
          case measure => simp [intOf]; omega
    · obtain rfl : k = xs.length := by omega
      have HO := ones_sub _ r1
      have HS : Aside0 (4294967295 ^^^ cm x0 (xs.take xs.length) = crc s xs) := ⟨by rw [List.take_length, HX0.out]; rfl⟩
      have HO' := Aside0.mk HO
      clear HO
      generalize cm x0 (xs.take xs.length) = m at *
      go_wp2
      go_ret
      exact ⟨by rw [← HS.out, HO'.out]; rfl, rfl⟩

/-- ref03.Put -/
theorem rput_calls (A : Option Addr) (n c : Nat) (xs : List Int) (w : World) (h : RdB w A n xs) (hb : Bytes xs) (hn : n ≤ 70368744177664) :
    Calls Try.prog 38 #[.slice A n c] w fun e w' => ∃ v, e = .returned v ∧ OwB w' w.heap.size v (cput xs) ∧ Below w.heap.size w w' := by
  have H := Aside0.mk h
  obtain rfl : xs.length = n := h.1
  clear h
  have hs := crc_lt (s := 0) (by omega) hb
  go_enter Try.func38, Try.ntmps38
  go_wp2_with (first | (go_at_call 43; refine (rmore_calls 0 A _ c xs _ H.out hb (by omega) (by omega)).mono ?_; rintro e w1 ⟨rfl, rfl⟩) | (at_builtin; refine appBs (w0 := w) w.heap.size rfl (.tmp 8) (.tmp 9) rfl (.slice none 0 0) [] xs A _ c rfl rfl (Kd.R_nil _ _ _ _ _) H.out (Below.refl _ _) (Nat.le_refl _) (by simp; omega) ?_; intro v1 w1 hO hB _ _))
  have hO0 : OwB w1 w.heap.size v1 (xs ++ (le32 (crc 0 xs)).take 0) := by
    rw [List.take_zero, List.append_nil]
    simpa using hO
  clear hO hb H
  generalize hS : crc 0 xs = S at *
  have HS := Aside0.mk hS
  clear hS
  go_loopw [3, 4, 5] (fun s v i wr => ∃ k : Nat, k ≤ 4 ∧ i = .int .i64 k ∧ s = .int .u32 ((S / 256 ^ k : Nat) : Int) ∧ OwB wr w.heap.size v (xs ++ (le32 S).take k) ∧ Below w.heap.size w wr) (fun _ _ i _ => 4 - (intOf i).toNat)
  case atStart => exact ⟨0, by omega, rfl, by simp [HS.out], hO0, hB⟩
  case round =>
    clear hO0 hB
    obtain ⟨k, hk, rfl, rfl, hO, hB⟩ := hrel
    have hsz := hB.size
    by_cases hlt : k < 4
    · have HT := Aside0.mk (le32_snoc S k hlt)
      have HL : Aside0 ((xs ++ (le32 S).take k).length < 140737488355328) := ⟨by simp [le32]; omega⟩
      have HQ : Aside0 (((S / 256 ^ k / 256 : Nat) : Int) = ((S / 256 ^ (k + 1) : Nat) : Int)) := ⟨by rw [Nat.div_div_eq_div_mul, Nat.pow_succ]⟩
      have hq : S / 256 ^ k < 4294967296 := Nat.lt_of_le_of_lt (Nat.div_le_self _ _) hs
      generalize hz : S / 256 ^ k = z at *
      clear hz
      go_wp2_with (at_builtin; refine appB (w0 := w) w.heap.size rfl (.tmp 15) (.tmp 19) rfl _ _ _ rfl rfl hO hB hsz HL.out ?_; intro v1 w1 hO1 hB1 _ _)
      go_roundw
      case rel => exact ⟨k + 1, by omega, by go_num, by rw [← HQ.out]; simp, by rw [HT.out, ← List.append_assoc]; exact hO1, hB1⟩
      case measure => simp [intOf]; omega
    · obtain rfl : k = 4 := by omega
      go_wp2
      go_ret
      exact ⟨_, rfl, by rw [cput, HS.out]; exact hO, hB⟩

end Go.Proofs.Ytcbcoaafdggniaa
namespace Go.Proofs.Ytcbcoaafdggniaa
open Go.RowKit Go.Proofs.YtcbcoaafdggniaaW.PrintWords Go.Proofs.YtcbcoaafdggniaaW.PrintMore
set_option linter.unusedVariables false
set_option linter.unusedSimpArgs false
theorem le32_cells (n : Nat) (hn : n < 4294967296) : #[Value.int .u8 ((n : Int) % 256), Value.int .u8 ((n : Int) / 256 % 256), Value.int .u8 ((n : Int) / 65536 % 256), Value.int .u8 ((n : Int) / 16777216)] = ((le32 n).map (Value.int .u8)).toArray := by
  unfold le32
  simp only [List.map_cons, List.map_nil]
  rw [show ((n % 256 : Nat) : Int) = (n : Int) % 256 by omega, show ((n / 256 % 256 : Nat) : Int) = (n : Int) / 256 % 256 by omega, show ((n / 65536 % 256 : Nat) : Int) = (n : Int) / 65536 % 256 by omega, show ((n / 16777216 % 256 : Nat) : Int) = (n : Int) / 16777216 by omega]
theorem number_calls (n : Nat) (hn : n < 4294967296) (w : World) :
    Calls Try.prog 22 #[.int .u32 (n : Int)] w fun e w' => e = .returned (.slice (some ⟨w.heap.size, 0, none⟩) 4 4) ∧ w' = w.alloc (.cells ((le32 n).map (Value.int .u8)).toArray 5) := by
  go_enter Try.func22, Try.ntmps22
  go_wp2
  refine bodyPost_ret (results_tmp rfl _ _ _) rfl ?_
  exact ⟨rfl, by rw [le32_cells n hn]⟩
theorem rnumber_calls (n : Nat) (hn : n < 4294967296) (w : World) :
    Calls Try.prog 19 #[.int .i64 (n : Int)] w fun e w' => e = .returned (.slice (some ⟨w.heap.size, 0, none⟩) 4 4) ∧ w' = w.alloc (.cells ((le32 n).map (Value.int .u8)).toArray 5) := by
  go_enter Try.func19, Try.ntmps19
  go_wp2
  refine bodyPost_ret (results_tmp rfl _ _ _) rfl ?_
  exact ⟨rfl, by rw [le32_cells n hn]⟩
end Go.Proofs.Ytcbcoaafdggniaa
namespace Go.Proofs.Ytcbcoaafdggniaa
open Go.RowKit Go.Proofs.YtcbcoaafdggniaaW.PrintWords Go.Proofs.YtcbcoaafdggniaaW.PrintMore
set_option linter.unusedVariables false
set_option linter.unusedSimpArgs false
/-- n<<8 | x. -/
theorem or_byte (n x : Nat) (hn : n < 16777216) (hx : x < 256) : Go.bits .or .i64 ((n : Int) * 256) (x : Int) = ((n * 256 + x : Nat) : Int) := by
  have h := Nat.shiftLeft_add_eq_or_of_lt (i := 8) (b := x) (by omega) n
  rw [Nat.shiftLeft_eq, show 2 ^ 8 = 256 from rfl] at h
  rw [h]
  simp only [Go.bits]
  rw [BitVec.toNat_or, BitVec.toNat_ofInt, BitVec.toNat_ofInt]
  have hb : ((2 ^ IntKind.i64.bits : Nat) : Int) = 18446744073709551616 := by decide
  have e1 : (((n : Int) * 256) % ((2 ^ IntKind.i64.bits : Nat) : Int)).toNat = n * 256 := by rw [hb]; omega
  have e2 : ((x : Int) % ((2 ^ IntKind.i64.bits : Nat) : Int)).toNat = x := by rw [hb]; omega
  rw [e1, e2, ← h, IntKind.wrap_i64]
  omega
/-- The number that a frame tells, if it is one. -/
def lenL (f : List Int) : Option Nat := if f.length < 10 ∨ rd f 0 ≠ 76 ∨ 1 < rd f 1 then none else some ((rd f 2).toNat + 256 * (rd f 3).toNat + 65536 * (rd f 4).toNat + 16777216 * (rd f 5).toNat)
def accL (f : List Int) : Nat → Nat
  | 0 => 0
  | j + 1 => accL f j * 256 + (rd f ((5 - j : Nat) : Int)).toNat
theorem accL_lt {f : List Int} (hb : Bytes f) : ∀ j, accL f j < 256 ^ j
  | 0 => by show 0 < 1; omega
  | j + 1 => by
    have h1 := accL_lt hb j
    have h2 := hb.at_ ((5 - j : Nat) : Int)
    have h3 : (rd f ((5 - j : Nat) : Int)).toNat < 256 := by omega
    have h4 : (256 : Nat) ^ (j + 1) = 256 ^ j * 256 := Nat.pow_succ ..
    show accL f j * 256 + (rd f ((5 - j : Nat) : Int)).toNat < 256 ^ (j + 1)
    omega
theorem accL_4 (f : List Int) : accL f 4 = (rd f 2).toNat + 256 * (rd f 3).toNat + 65536 * (rd f 4).toNat + 16777216 * (rd f 5).toNat := by
  show (((0 * 256 + (rd f 5).toNat) * 256 + (rd f 4).toNat) * 256 + (rd f 3).toNat) * 256 + (rd f 2).toNat = _
  omega
def lenV (f : List Int) : Value := match lenL f with
  | some n => .tuple #[.int .i64 (n : Int), .int .i64 0]
  | none => .tuple #[.int .i64 0, .int .i64 2]
theorem lenV_none {f : List Int} (h : lenL f = none) : lenV f = .tuple #[.int .i64 0, .int .i64 2] := by unfold lenV; rw [h]
set_option maxRecDepth 20000 in
theorem length_calls (A : Option Addr) (N c : Nat) (f : List Int) (w : World) (h : RdB w A N f) (hb : Bytes f) (hN : N ≤ 1099511627776) :
    Calls Try.prog 12 #[.slice A N c] w fun e w' => e = .returned (lenV f) ∧ w = w' := by
  obtain rfl : f.length = N := h.1
  have HX := Aside0.mk h
  clear h
  by_cases h10 : f.length < 10
  · have hI : (f.length : Int) < 10 := by omega
    rw [lenV_none (by unfold lenL; rw [if_pos (.inl h10)])]
    go_enter Try.func12, Try.ntmps12
    go_wp2
    refine bodyPost_ret (results_tmp2 rfl _ _ _) rfl ⟨rfl, rfl⟩
  · have hI : ¬ (f.length : Int) < 10 := by omega
    obtain ⟨ad, ea⟩ : ∃ ad, A = some ad := by obtain ⟨ad, e, _⟩ := Kd.at_int HX.out 0 (by omega) (by omega); exact ⟨ad, e⟩
    subst ea
    have hc0 : w.cell? ad = some (.int .u8 (rd f 0)) := by
      have := rdB_at HX.out 0 (by omega)
      rwa [show ad.add 0 = ad from if_pos rfl] at this
    have hc1 : w.cell? ⟨ad.block, ad.off + 1, none⟩ = some (.int .u8 (rd f 1)) := rdB_at HX.out 1 (by omega)
    have hp0 : (0 : Int) < (f.length : Int) := by omega
    have hp1 : (1 : Int) < (f.length : Int) := by omega
    by_cases h76 : rd f 0 = 76
    · by_cases h1 : 1 < rd f 1
      · rw [lenV_none (by unfold lenL; rw [if_pos (.inr (.inr h1))])]
        rw [h76] at hc0
        go_enter Try.func12, Try.ntmps12
        go_wp2
        refine bodyPost_ret (results_tmp2 rfl _ _ _) rfl ⟨rfl, rfl⟩
      · have HL : Aside0 (lenL f = some (accL f 4)) := ⟨by unfold lenL; rw [if_neg (by omega), accL_4]⟩
        have HV : Aside0 (lenV f = .tuple #[.int .i64 ((accL f 4 : Nat) : Int), .int .i64 0]) := ⟨by unfold lenV; rw [HL.out]⟩
        rw [HV.out]
        rw [h76] at hc0
        have HAL := Aside0.mk (accL_lt hb)
        clear HL HV
        go_enter Try.func12, Try.ntmps12
        go_wp2
        clear hc0 hc1
        go_loopw [4, 5] (fun n i wr => ∃ j : Nat, j ≤ 4 ∧ n = .int .i64 ((accL f j : Nat) : Int) ∧ i = .int .i64 (5 - (j : Int)) ∧ w = wr) (fun _ i _ => (intOf i).toNat)
        case atStart => exact ⟨0, by omega, rfl, rfl, rfl⟩
        case round =>
          obtain ⟨j, hj, rfl, rfl, rfl⟩ := hrel
          by_cases hj4 : j < 4
          · have hgI : (1 : Int) < 5 - (j : Int) := by omega
            have hlt := HAL.out j
            have hac : accL f j < 16777216 := by
              have : (256 : Nat) ^ j ≤ 256 ^ 3 := Nat.pow_le_pow_right (by omega) (by omega)
              omega
            have hs : accL f (j + 1) = accL f j * 256 + (rd f ((5 - j : Nat) : Int)).toNat := rfl
            have hx := hb.at_ ((5 - j : Nat) : Int)
            obtain ⟨x, hx0⟩ := Int.eq_ofNat_of_zero_le hx.1
            rw [hx0, Int.toNat_natCast] at hs
            have HS := Aside0.mk hs
            have hcell := rdB_at HX.out (5 - j) (by omega)
            rw [hx0] at hcell hx
            have hor := or_byte (accL f j) x hac (by omega)
            rw [← hs] at hor
            have hi0 : (0 : Int) ≤ 5 - (j : Int) := by omega
            have hi1 : 5 - (j : Int) < (f.length : Int) := by omega
            have hi2 : (5 - (j : Int)).toNat = 5 - j := by omega
            clear hs hx0 hlt hj HAL
            generalize hbq : accL f (j + 1) = b at *
            have HBQ := Aside0.mk hbq
            clear hbq
            generalize accL f j = a at *
            go_wp2
            go_roundw
            case rel => exact ⟨j + 1, by omega, by rw [HBQ.out], by go_num, trivial⟩
            case measure => simp [intOf]; omega
          · obtain rfl : j = 4 := by omega
            have hgI : ¬ (1 : Int) < 5 - ((4 : Nat) : Int) := by omega
            go_wp2
            (try simp only [Exit.inBlock, Exit.then])
            refine bodyPost_ret (results_tmp2 rfl _ _ _) rfl ⟨rfl, rfl⟩
    · have h76I : ¬ rd f 0 = 76 := h76
      rw [lenV_none (by unfold lenL; rw [if_pos (.inr (.inl h76))])]
      go_enter Try.func12, Try.ntmps12
      go_wp2
      refine bodyPost_ret (results_tmp2 rfl _ _ _) rfl ⟨rfl, rfl⟩
end Go.Proofs.Ytcbcoaafdggniaa
namespace Go.Proofs.Ytcbcoaafdggniaa
open Go.RowKit Go.Proofs.YtcbcoaafdggniaaW.PrintWords Go.Proofs.YtcbcoaafdggniaaW.PrintMore
set_option linter.unusedVariables false
set_option linter.unusedSimpArgs false
theorem lenL_some {f : List Int} {n : Nat} (h : lenL f = some n) : 10 ≤ f.length ∧ rd f 0 = 76 ∧ rd f 1 ≤ 1 ∧ lenV f = .tuple #[.int .i64 (n : Int), .int .i64 0] := by
  have hv : lenV f = .tuple #[.int .i64 (n : Int), .int .i64 0] := by unfold lenV; rw [h]
  unfold lenL at h
  split at h
  · cases h
  · rename_i hn
    exact ⟨by omega, by omega, by omega, hv⟩
def packedB (f : List Int) : Bool := match lenL f with
  | some _ => rd f 1 == 1
  | none => false
theorem packed_calls (A : Option Addr) (N c : Nat) (f : List Int) (w : World) (h : RdB w A N f) (hb : Bytes f) (hN : N ≤ 1099511627776) :
    Calls Try.prog 14 #[.slice A N c] w fun e w' => e = .returned (.bool (packedB f)) ∧ w = w' := by
  obtain rfl : f.length = N := h.1
  have HX := Aside0.mk h
  clear h
  rcases hl : lenL f with _ | n
  · have HV := Aside0.mk (lenV_none hl)
    rw [show packedB f = false by unfold packedB; rw [hl]]
    clear hl
    go_enter Try.func14, Try.ntmps14
    go_wp2_with (go_at_call 12; (with_reducible refine at_cw w ?_); refine (length_calls A f.length c f w HX.out hb hN).mono ?_; rw [HV.out]; rintro e u0 ⟨rfl, rfl⟩)
    (try simp only [Exit.inBlock, Exit.then])
    refine bodyPost_ret (results_tmp rfl _ _ _) rfl ⟨rfl, rfl⟩
  · obtain ⟨h10, _, _, hv⟩ := lenL_some hl
    have HV := Aside0.mk hv
    rw [show packedB f = (rd f 1 == 1) by unfold packedB; rw [hl]]
    obtain ⟨ad, ea⟩ : ∃ ad, A = some ad := by obtain ⟨ad, e, _⟩ := Kd.at_int HX.out 0 (by omega) (by omega); exact ⟨ad, e⟩
    subst ea
    have hc1 : w.cell? ⟨ad.block, ad.off + 1, none⟩ = some (.int .u8 (rd f 1)) := rdB_at HX.out 1 (by omega)
    have hp1 : (1 : Int) < (f.length : Int) := by omega
    clear hl hv
    go_enter Try.func14, Try.ntmps14
    go_wp2_with (go_at_call 12; (with_reducible refine at_cw w ?_); refine (length_calls (some ad) f.length c f w HX.out hb hN).mono ?_; rw [HV.out]; rintro e u0 ⟨rfl, rfl⟩)
    (try simp only [Exit.inBlock, Exit.then])
    refine bodyPost_ret (results_tmp rfl _ _ _) rfl ⟨rfl, rfl⟩
end Go.Proofs.Ytcbcoaafdggniaa
namespace Go.Proofs.Ytcbcoaafdggniaa
open Go.RowKit Go.Proofs.YtcbcoaafdggniaaW.PrintWords Go.Proofs.YtcbcoaafdggniaaW.PrintMore
set_option linter.unusedVariables false
set_option linter.unusedSimpArgs false
def lenI (f : List Int) : Int := match lenL f with
  | some n => (n : Int)
  | none => -1
theorem lenI_none {f : List Int} (h : lenL f = none) : lenI f = -1 := by unfold lenI; rw [h]
theorem rlen_num (x2 x3 x4 x5 : Int) (b2 : 0 ≤ x2 ∧ x2 < 256) (b3 : 0 ≤ x3 ∧ x3 < 256) (b4 : 0 ≤ x4 ∧ x4 < 256) (b5 : 0 ≤ x5 ∧ x5 < 256) :
    wrap64 (wrap64 (wrap64 (wrap64 x2 + wrap64 (256 * wrap64 x3)) + wrap64 (65536 * wrap64 x4)) + wrap64 (16777216 * wrap64 x5)) = x2 + 256 * x3 + 65536 * x4 + 16777216 * x5 := by
  have e : ∀ y : Int, 0 ≤ y → y < 1000000000000 → wrap64 y = y := fun y h1 h2 => by unfold wrap64; omega
  rw [e x2 (by omega) (by omega), e x3 (by omega) (by omega), e x4 (by omega) (by omega), e x5 (by omega) (by omega), e (256 * x3) (by omega) (by omega), e (65536 * x4) (by omega) (by omega), e (16777216 * x5) (by omega) (by omega), e (x2 + 256 * x3) (by omega) (by omega), e (x2 + 256 * x3 + 65536 * x4) (by omega) (by omega), e _ (by omega) (by omega)]
set_option maxRecDepth 20000 in
theorem rlength_calls (A : Option Addr) (N c : Nat) (f : List Int) (w : World) (h : RdB w A N f) (hb : Bytes f) (hN : N ≤ 1099511627776) :
    Calls Try.prog 18 #[.slice A N c] w fun e w' => e = .returned (.int .i64 (lenI f)) ∧ Below w.heap.size w w' := by
  obtain rfl : f.length = N := h.1
  have HX := Aside0.mk h
  clear h
  by_cases h10 : f.length < 10
  · have hI : (f.length : Int) < 10 := by omega
    rw [lenI_none (by unfold lenL; rw [if_pos (.inl h10)])]
    go_enter Try.func18, Try.ntmps18
    go_wp2
    refine bodyPost_ret (results_tmp rfl _ _ _) rfl ⟨rfl, Below.refl _ _⟩
  · have hI : ¬ (f.length : Int) < 10 := by omega
    obtain ⟨ad, ea⟩ : ∃ ad, A = some ad := by obtain ⟨ad, e, _⟩ := Kd.at_int HX.out 0 (by omega) (by omega); exact ⟨ad, e⟩
    subst ea
    have hc0 : w.cell? ad = some (.int .u8 (rd f 0)) := by
      have := rdB_at HX.out 0 (by omega)
      rwa [show ad.add 0 = ad from if_pos rfl] at this
    have hc1 : w.cell? ⟨ad.block, ad.off + 1, none⟩ = some (.int .u8 (rd f 1)) := rdB_at HX.out 1 (by omega)
    have hp0 : (0 : Int) < (f.length : Int) := by omega
    have hp1 : (1 : Int) < (f.length : Int) := by omega
    by_cases h76 : rd f 0 = 76
    · by_cases h1 : 1 < rd f 1
      · rw [lenI_none (by unfold lenL; rw [if_pos (.inr (.inr h1))])]
        rw [h76] at hc0
        go_enter Try.func18, Try.ntmps18
        go_wp2
        refine bodyPost_ret (results_tmp rfl _ _ _) rfl ⟨rfl, Below.refl _ _⟩
      · have hl : lenL f = some ((rd f 2).toNat + 256 * (rd f 3).toNat + 65536 * (rd f 4).toNat + 16777216 * (rd f 5).toNat) := by unfold lenL; rw [if_neg (by omega)]
        have b2 := hb.at_ 2
        have b3 := hb.at_ 3
        have b4 := hb.at_ 4
        have b5 := hb.at_ 5
        have HL : Aside0 (lenI f = rd f 2 + 256 * rd f 3 + 65536 * rd f 4 + 16777216 * rd f 5) := ⟨by unfold lenI; rw [hl]; show ((_ : Nat) : Int) = _; omega⟩
        have HC2 : Aside0 (w.drew.cell? ⟨ad.block, ad.off + 2, none⟩ = some (.int .u8 (rd f 2))) := ⟨rdB_at HX.out 2 (by omega)⟩
        have HC3 : Aside0 (w.drew.cell? ⟨ad.block, ad.off + 3, none⟩ = some (.int .u8 (rd f 3))) := ⟨rdB_at HX.out 3 (by omega)⟩
        have HC4 : Aside0 (w.drew.cell? ⟨ad.block, ad.off + 4, none⟩ = some (.int .u8 (rd f 4))) := ⟨rdB_at HX.out 4 (by omega)⟩
        have HC5 : Aside0 (w.drew.cell? ⟨ad.block, ad.off + 5, none⟩ = some (.int .u8 (rd f 5))) := ⟨rdB_at HX.out 5 (by omega)⟩
        have hp2 : (2 : Int) < (f.length : Int) := by omega
        have hp3 : (3 : Int) < (f.length : Int) := by omega
        have hp4 : (4 : Int) < (f.length : Int) := by omega
        have hp5 : (5 : Int) < (f.length : Int) := by omega
        rw [h76] at hc0
        rw [HL.out]
        clear hl
        generalize rd f 2 = x2 at *
        generalize rd f 3 = x3 at *
        generalize rd f 4 = x4 at *
        generalize rd f 5 = x5 at *
        go_enter Try.func18, Try.ntmps18
        go_wp2_with fail
        refine seq_start [] (.take 0 (.take 1 (.take 2 (.take 3 (.take 4 (.take 5 (.take 6 (.take 7 (.take 8 (.take 9 (.take 10 (.take 11 (.take 12 (.take 13 (.take 14 (.take 15 (.take 16 (.take 17 (.take 18 (.take 19 (.take 20 (.take 21 (.take 22 .done))))))))))))))))))))))) (by kernel_rfl) (by kernel_rfl) (fun _ _ d _ _ h => by cases d <;> exact h) ?_
        refine seq_take (v := ?_) (a' := ?_) rfl rfl (by rfl) (fun w' hw' => ?_) ?_ ?_
        rotate_left 2
        · go_simp
          with_reducible rfl
        · simp only [Act.put, List.setIfInBounds_toArray, List.set_cons_zero, List.set_cons_succ, Go.Proofs.YtcbcoaafdggniaaW.PrintLast.i64_w, Go.Proofs.YtcbcoaafdggniaaW.PrintLast.i32_w]
          rfl
        refine seq_take (v := ?_) (a' := ?_) rfl rfl (by rfl) (fun w' hw' => ?_) ?_ ?_
        rotate_left 2
        · go_simp
          with_reducible rfl
        · simp only [Act.put, List.setIfInBounds_toArray, List.set_cons_zero, List.set_cons_succ, Go.Proofs.YtcbcoaafdggniaaW.PrintLast.i64_w, Go.Proofs.YtcbcoaafdggniaaW.PrintLast.i32_w]
          rfl
        refine seq_take (v := ?_) (a' := ?_) rfl rfl (by rfl) (fun w' hw' => ?_) ?_ ?_
        rotate_left 2
        · have hq := pw_cell_below hw' HC2.out; go_simp
          with_reducible rfl
        · simp only [Act.put, List.setIfInBounds_toArray, List.set_cons_zero, List.set_cons_succ, Go.Proofs.YtcbcoaafdggniaaW.PrintLast.i64_w, Go.Proofs.YtcbcoaafdggniaaW.PrintLast.i32_w]
          rfl
        refine seq_take (v := ?_) (a' := ?_) rfl rfl (by rfl) (fun w' hw' => ?_) ?_ ?_
        rotate_left 2
        · go_simp
          with_reducible rfl
        · simp only [Act.put, List.setIfInBounds_toArray, List.set_cons_zero, List.set_cons_succ, Go.Proofs.YtcbcoaafdggniaaW.PrintLast.i64_w, Go.Proofs.YtcbcoaafdggniaaW.PrintLast.i32_w]
          rfl
        refine seq_take (v := ?_) (a' := ?_) rfl rfl (by rfl) (fun w' hw' => ?_) ?_ ?_
        rotate_left 2
        · go_simp
          with_reducible rfl
        · simp only [Act.put, List.setIfInBounds_toArray, List.set_cons_zero, List.set_cons_succ, Go.Proofs.YtcbcoaafdggniaaW.PrintLast.i64_w, Go.Proofs.YtcbcoaafdggniaaW.PrintLast.i32_w]
          rfl
        refine seq_take (v := ?_) (a' := ?_) rfl rfl (by rfl) (fun w' hw' => ?_) ?_ ?_
        rotate_left 2
        · go_simp
          with_reducible rfl
        · simp only [Act.put, List.setIfInBounds_toArray, List.set_cons_zero, List.set_cons_succ, Go.Proofs.YtcbcoaafdggniaaW.PrintLast.i64_w, Go.Proofs.YtcbcoaafdggniaaW.PrintLast.i32_w]
          rfl
        refine seq_take (v := ?_) (a' := ?_) rfl rfl (by rfl) (fun w' hw' => ?_) ?_ ?_
        rotate_left 2
        · have hq := pw_cell_below hw' HC3.out; go_simp
          with_reducible rfl
        · simp only [Act.put, List.setIfInBounds_toArray, List.set_cons_zero, List.set_cons_succ, Go.Proofs.YtcbcoaafdggniaaW.PrintLast.i64_w, Go.Proofs.YtcbcoaafdggniaaW.PrintLast.i32_w]
          rfl
        refine seq_take (v := ?_) (a' := ?_) rfl rfl (by rfl) (fun w' hw' => ?_) ?_ ?_
        rotate_left 2
        · go_simp
          with_reducible rfl
        · simp only [Act.put, List.setIfInBounds_toArray, List.set_cons_zero, List.set_cons_succ, Go.Proofs.YtcbcoaafdggniaaW.PrintLast.i64_w, Go.Proofs.YtcbcoaafdggniaaW.PrintLast.i32_w]
          rfl
        refine seq_take (v := ?_) (a' := ?_) rfl rfl (by rfl) (fun w' hw' => ?_) ?_ ?_
        rotate_left 2
        · go_simp
          with_reducible rfl
        · simp only [Act.put, List.setIfInBounds_toArray, List.set_cons_zero, List.set_cons_succ, Go.Proofs.YtcbcoaafdggniaaW.PrintLast.i64_w, Go.Proofs.YtcbcoaafdggniaaW.PrintLast.i32_w]
          rfl
        refine seq_take (v := ?_) (a' := ?_) rfl rfl (by rfl) (fun w' hw' => ?_) ?_ ?_
        rotate_left 2
        · go_simp
          with_reducible rfl
        · simp only [Act.put, List.setIfInBounds_toArray, List.set_cons_zero, List.set_cons_succ, Go.Proofs.YtcbcoaafdggniaaW.PrintLast.i64_w, Go.Proofs.YtcbcoaafdggniaaW.PrintLast.i32_w]
          rfl
        refine seq_take (v := ?_) (a' := ?_) rfl rfl (by rfl) (fun w' hw' => ?_) ?_ ?_
        rotate_left 2
        · go_simp
          with_reducible rfl
        · simp only [Act.put, List.setIfInBounds_toArray, List.set_cons_zero, List.set_cons_succ, Go.Proofs.YtcbcoaafdggniaaW.PrintLast.i64_w, Go.Proofs.YtcbcoaafdggniaaW.PrintLast.i32_w]
          rfl
        refine seq_take (v := ?_) (a' := ?_) rfl rfl (by rfl) (fun w' hw' => ?_) ?_ ?_
        rotate_left 2
        · go_simp
          with_reducible rfl
        · simp only [Act.put, List.setIfInBounds_toArray, List.set_cons_zero, List.set_cons_succ, Go.Proofs.YtcbcoaafdggniaaW.PrintLast.i64_w, Go.Proofs.YtcbcoaafdggniaaW.PrintLast.i32_w]
          rfl
        refine seq_take (v := ?_) (a' := ?_) rfl rfl (by rfl) (fun w' hw' => ?_) ?_ ?_
        rotate_left 2
        · have hq := pw_cell_below hw' HC4.out; go_simp
          with_reducible rfl
        · simp only [Act.put, List.setIfInBounds_toArray, List.set_cons_zero, List.set_cons_succ, Go.Proofs.YtcbcoaafdggniaaW.PrintLast.i64_w, Go.Proofs.YtcbcoaafdggniaaW.PrintLast.i32_w]
          rfl
        refine seq_take (v := ?_) (a' := ?_) rfl rfl (by rfl) (fun w' hw' => ?_) ?_ ?_
        rotate_left 2
        · go_simp
          with_reducible rfl
        · simp only [Act.put, List.setIfInBounds_toArray, List.set_cons_zero, List.set_cons_succ, Go.Proofs.YtcbcoaafdggniaaW.PrintLast.i64_w, Go.Proofs.YtcbcoaafdggniaaW.PrintLast.i32_w]
          rfl
        refine seq_take (v := ?_) (a' := ?_) rfl rfl (by rfl) (fun w' hw' => ?_) ?_ ?_
        rotate_left 2
        · go_simp
          with_reducible rfl
        · simp only [Act.put, List.setIfInBounds_toArray, List.set_cons_zero, List.set_cons_succ, Go.Proofs.YtcbcoaafdggniaaW.PrintLast.i64_w, Go.Proofs.YtcbcoaafdggniaaW.PrintLast.i32_w]
          rfl
        refine seq_take (v := ?_) (a' := ?_) rfl rfl (by rfl) (fun w' hw' => ?_) ?_ ?_
        rotate_left 2
        · go_simp
          with_reducible rfl
        · simp only [Act.put, List.setIfInBounds_toArray, List.set_cons_zero, List.set_cons_succ, Go.Proofs.YtcbcoaafdggniaaW.PrintLast.i64_w, Go.Proofs.YtcbcoaafdggniaaW.PrintLast.i32_w]
          rfl
        refine seq_take (v := ?_) (a' := ?_) rfl rfl (by rfl) (fun w' hw' => ?_) ?_ ?_
        rotate_left 2
        · go_simp
          with_reducible rfl
        · simp only [Act.put, List.setIfInBounds_toArray, List.set_cons_zero, List.set_cons_succ, Go.Proofs.YtcbcoaafdggniaaW.PrintLast.i64_w, Go.Proofs.YtcbcoaafdggniaaW.PrintLast.i32_w]
          rfl
        refine seq_take (v := ?_) (a' := ?_) rfl rfl (by rfl) (fun w' hw' => ?_) ?_ ?_
        rotate_left 2
        · go_simp
          with_reducible rfl
        · simp only [Act.put, List.setIfInBounds_toArray, List.set_cons_zero, List.set_cons_succ, Go.Proofs.YtcbcoaafdggniaaW.PrintLast.i64_w, Go.Proofs.YtcbcoaafdggniaaW.PrintLast.i32_w]
          rfl
        refine seq_take (v := ?_) (a' := ?_) rfl rfl (by rfl) (fun w' hw' => ?_) ?_ ?_
        rotate_left 2
        · have hq := pw_cell_below hw' HC5.out; go_simp
          with_reducible rfl
        · simp only [Act.put, List.setIfInBounds_toArray, List.set_cons_zero, List.set_cons_succ, Go.Proofs.YtcbcoaafdggniaaW.PrintLast.i64_w, Go.Proofs.YtcbcoaafdggniaaW.PrintLast.i32_w]
          rfl
        refine seq_take (v := ?_) (a' := ?_) rfl rfl (by rfl) (fun w' hw' => ?_) ?_ ?_
        rotate_left 2
        · go_simp
          with_reducible rfl
        · simp only [Act.put, List.setIfInBounds_toArray, List.set_cons_zero, List.set_cons_succ, Go.Proofs.YtcbcoaafdggniaaW.PrintLast.i64_w, Go.Proofs.YtcbcoaafdggniaaW.PrintLast.i32_w]
          rfl
        refine seq_take (v := ?_) (a' := ?_) rfl rfl (by rfl) (fun w' hw' => ?_) ?_ ?_
        rotate_left 2
        · go_simp
          with_reducible rfl
        · simp only [Act.put, List.setIfInBounds_toArray, List.set_cons_zero, List.set_cons_succ, Go.Proofs.YtcbcoaafdggniaaW.PrintLast.i64_w, Go.Proofs.YtcbcoaafdggniaaW.PrintLast.i32_w]
          rfl
        refine seq_take (v := ?_) (a' := ?_) rfl rfl (by rfl) (fun w' hw' => ?_) ?_ ?_
        rotate_left 2
        · go_simp
          with_reducible rfl
        · simp only [Act.put, List.setIfInBounds_toArray, List.set_cons_zero, List.set_cons_succ, Go.Proofs.YtcbcoaafdggniaaW.PrintLast.i64_w, Go.Proofs.YtcbcoaafdggniaaW.PrintLast.i32_w]
          rfl
        refine seq_take (v := ?_) (a' := ?_) rfl rfl (by rfl) (fun w' hw' => ?_) ?_ ?_
        rotate_left 2
        · go_simp
          with_reducible rfl
        · simp only [Act.put, List.setIfInBounds_toArray, List.set_cons_zero, List.set_cons_succ, Go.Proofs.YtcbcoaafdggniaaW.PrintLast.i64_w, Go.Proofs.YtcbcoaafdggniaaW.PrintLast.i32_w]
          rfl
        refine seq_end ?_
        go_wp2
        (try simp only [Exit.inBlock, Exit.then])
        refine bodyPost_ret (results_tmp rfl _ _ _) rfl ?_
        refine ⟨?_, Below.drew (Below.refl _ _)⟩
        show Ending.returned (.int .i64 (wrap64 (wrap64 (wrap64 (wrap64 x2 + wrap64 (256 * wrap64 x3)) + wrap64 (65536 * wrap64 x4)) + wrap64 (16777216 * wrap64 x5)))) = _
        rw [rlen_num x2 x3 x4 x5 b2 b3 b4 b5]
    · have h76I : ¬ rd f 0 = 76 := h76
      rw [lenI_none (by unfold lenL; rw [if_pos (.inr (.inl h76))])]
      go_enter Try.func18, Try.ntmps18
      go_wp2
      refine bodyPost_ret (results_tmp rfl _ _ _) rfl ⟨rfl, Below.refl _ _⟩
end Go.Proofs.Ytcbcoaafdggniaa
namespace Go.Proofs.Ytcbcoaafdggniaa
open Go.RowKit Go.Proofs.YtcbcoaafdggniaaW.PrintWords Go.Proofs.YtcbcoaafdggniaaW.PrintMore
set_option linter.unusedVariables false
set_option linter.unusedSimpArgs false
theorem rsum6_calls (A : Option Addr) (N c : Nat) (xs : List Int) (w : World) (h : RdB w A N xs) (hb : Bytes xs) (hN : N ≤ 1099511627776) :
    Calls Try.prog 29 #[.slice A N c] w fun e w' => ∃ B d, e = .returned (.slice B 4 d) ∧ RdB w' B 4 (le32 (crc 0 xs)) ∧ Below w.heap.size w w' := by
  obtain rfl : xs.length = N := h.1
  have HX := Aside0.mk h
  clear h
  go_enter Try.func29, Try.ntmps29
  go_wp2_with (go_at_call 38; (with_reducible refine at_cw w ?_); refine (rput_calls A xs.length c xs w HX.out hb (by omega)).mono ?_; rintro e w1 ⟨v, rfl, hO, hB⟩; obtain ⟨B, d, rfl, hd, hr⟩ := hO.reads; have hl : (cput xs).length = xs.length + 4 := (by simp [cput, le32]); have hct := cutFrom hr hd (xs.length : Int) (by omega) (by omega); rw [Int.toNat_natCast, hl, show xs.length + 4 - xs.length = 4 by omega, show (cput xs).drop xs.length = le32 (crc 0 xs) by unfold cput; rw [List.drop_left], if_neg (show ¬ d = xs.length by omega)] at hct; obtain ⟨hcut, hr4⟩ := hct; have HR4 := Aside0.mk hr4; have HB := Aside0.mk hB; rw [hl]; clear hO hB hr hr4)
  (try simp only [Exit.inBlock, Exit.then])
  refine bodyPost_ret (results_tmp rfl _ _ _) rfl ⟨_, _, rfl, HR4.out, HB.out⟩
end Go.Proofs.Ytcbcoaafdggniaa
namespace Go.Proofs.Ytcbcoaafdggniaa
open Go.RowKit Go.Proofs.YtcbcoaafdggniaaW.PrintWords Go.Proofs.YtcbcoaafdggniaaW.PrintMore
set_option linter.unusedVariables false
set_option linter.unusedSimpArgs false
theorem must_true (x : Int) (w : World) : Calls Try.prog 25 #[.bool true, .int .i64 x] w fun e w' => e = .returned (.tuple #[]) ∧ w = w' := by
  go_enter Try.func25, Try.ntmps25
  go_wp2
  (try simp only [Exit.inBlock, Exit.then])
  refine bodyPost_end (results_none rfl _ _ _) rfl ⟨rfl, rfl⟩
theorem must_false (x : Int) (w : World) : Calls Try.prog 25 #[.bool false, .int .i64 x] w fun e w' => e = .panicked [{ v := .iface 47 (.agg #[.int .i64 x]), recovered := false }] ∧ w = w' := by
  go_enter Try.func25, Try.ntmps25
  go_wp2
  exact ⟨rfl, rfl, rfl⟩
end Go.Proofs.Ytcbcoaafdggniaa
