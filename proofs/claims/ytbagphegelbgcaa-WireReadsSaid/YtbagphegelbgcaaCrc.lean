/- Contracts of package crc and of lighterageref03. Conditions: each contract's own. -/
import Derived.Test.YtbagphegelbgcaaCrcPure
import Derived.Test.YtbagphegelbgcaaRef01
namespace Go.Proofs.Ytbagphegelbgcaa
open Go.RowKit Go.Proofs.YtbagphegelbgcaaW.PrintWords Go.Proofs.YtbagphegelbgcaaW.PrintMore
set_option linter.unusedVariables false
set_option linter.unusedSimpArgs false

theorem cs_int (x : Int) (h0 : 0 ≤ x) (h1 : x < 4294967296) : Go.bits .xor .u32 (x / 2) ((2197175160 * (Go.bits .and .u32 x 1)) % 4294967296) = ((cs x.toNat : Nat) : Int) := by
  have ha : Go.bits .and .u32 x 1 = x % 2 := by
    rw [u32_and x 1 h0 h1 (by omega) (by omega)]
    rw [show (1 : Int).toNat = 2 ^ 1 - 1 from rfl, Nat.and_two_pow_sub_one_eq_mod]
    omega
  rw [ha, u32_xor _ _ (by omega) (by omega) (by omega) (by omega)]
  unfold cs
  rcases Int.emod_two_eq x with h | h
  · rw [h, if_neg (by omega)]
    simp
    omega
  · rw [h, if_pos (by omega)]
    congr 2
    omega

/-- steps$1: one step of what it captured. -/
theorem step_calls (a : Addr) (x : Int) (w : World) (h0 : 0 ≤ x) (h1 : x < 4294967296) (hc : w.cell? a = some (.int .u32 x)) (hf : w.frozen? a = false) :
    Calls Try.prog 37 #[.pointer (some a)] w fun e w' => e = .returned (.tuple #[]) ∧ w.setCell a (.int .u32 ((cs x.toNat : Nat) : Int)) = w' := by
  have H := Aside0.mk (cs_int x h0 h1)
  go_enter Try.func37, Try.ntmps37
  go_wp2
  go_end0
  exact ⟨rfl, by rw [← H.out]⟩

theorem steps_calls (x : Int) (n : Int) (w : World) (h0 : 0 ≤ x) (h1 : x < 4294967296) (hn : 0 ≤ n) (hn' : n < 9223372036854775808) :
    Calls Try.prog 36 #[.int .u32 x, .int .i64 n] w fun e w' => e = .returned (.int .u32 ((css x.toNat n.toNat : Nat) : Int)) ∧ Below w.heap.size w w' := by
  obtain ⟨m, rfl⟩ := Int.eq_ofNat_of_zero_le hn
  obtain ⟨y, rfl⟩ := Int.eq_ofNat_of_zero_le h0
  rw [Int.toNat_natCast, Int.toNat_natCast]
  go_enter Try.func36, Try.ntmps36
  go_wp2
  go_loopw [8] (fun i wr => ∃ k : Nat, k ≤ m ∧ i = .int .i64 k ∧ wr = w.alloc (.cells #[.int .u32 ((css y k : Nat) : Int)] 60)) (fun i _ => m - (intOf i).toNat)
  case atStart => exact ⟨0, Nat.zero_le _, rfl, rfl⟩
  case round =>
    obtain ⟨k, hk, rfl, rfl⟩ := hrel
    have r1 : css y k < 4294967296 := css_lt (by omega) k
    by_cases hlt : k < m
    · go_wp2_with (go_at_call 37; refine (step_calls _ ((css y k : Nat) : Int) _ (by omega) (by omega) (by simp) (by simp)).mono ?_; rintro e w' ⟨rfl, rfl⟩)
      go_roundw
      case rel => exact ⟨k + 1, by omega, by go_num, by simp [css]⟩
      case measure => simp [intOf]; omega
    · have : k = m := by omega
      subst this
      go_wp2
      go_ret
      exact ⟨rfl, (Below.refl _ _).alloc (Nat.le_refl _) _⟩

theorem ones_sub (s : Nat) (h : s < 4294967296) : ((4294967295 ^^^ s : Nat) : Int) = 4294967295 - (s : Int) := by
  have : 4294967295 ^^^ s = 4294967295 - s := by
    have h1 : s ^^^ (2 ^ 32 - 1) = 2 ^ 32 - 1 - s := by
      apply Nat.eq_of_testBit_eq
      intro i
      rw [Nat.testBit_xor, Nat.testBit_two_pow_sub_one, Nat.sub_sub, Nat.add_comm 1 s]
      rw [Nat.testBit_two_pow_sub_succ (by omega)]
      by_cases hi : i < 32
      · simp [hi]
      · have hs : s.testBit i = false := Nat.testBit_lt_two_pow (Nat.lt_of_lt_of_le h (show 2 ^ 32 ≤ 2 ^ i from Nat.pow_le_pow_right (by omega) (by omega)))
        simp [hi, hs]
    rw [Nat.xor_comm]
    exact h1
  rw [this]
  omega

theorem xor_byte (m : Nat) (b : Int) (hm : m < 4294967296) (hb : 0 ≤ b ∧ b < 256) : Go.bits .xor .u32 (m : Int) b = ((m ^^^ b.toNat : Nat) : Int) := by
  rw [u32_xor _ _ (by omega) (by omega) (by omega) (by omega), Int.toNat_natCast]

theorem take_snoc {xs : List Int} {k : Nat} (h : k < xs.length) : xs.take (k + 1) = xs.take k ++ [rd xs k] := by
  rw [List.take_succ_eq_append_getElem h]
  simp [rd, List.getD_eq_getElem?_getD, List.getElem?_eq_getElem h]

theorem un_xor (x : Nat) (h : x < 4294967296) : Op.unary .xor (.int .u32 (x : Int)) = pure (.int .u32 ((4294967295 ^^^ x : Nat) : Int)) := by
  have hm : IntKind.u32.max = 4294967295 := by simp [IntKind.max, IntKind.bits, IntKind.signed]
  rw [unary_xor, intBits_xor, hm, if_neg (by simp [IntKind.signed])]
  rw [u32_xor _ _ (by omega) (by omega) (by omega) (by omega), Int.toNat_natCast]
  rfl

/-- crc.More -/
theorem more_calls (s : Int) (A : Option Addr) (n c : Nat) (xs : List Int) (w : World) (h : RdB w A n xs) (hb : Bytes xs) (h0 : 0 ≤ s) (h1 : s < 4294967296) :
    Calls Try.prog 35 #[.int .u32 s, .slice A n c] w fun e w' => e = .returned (.int .u32 ((crc s.toNat xs : Nat) : Int)) ∧ Below w.heap.size w w' := by
  obtain ⟨s, rfl⟩ := Int.eq_ofNat_of_zero_le h0
  obtain rfl : xs.length = n := h.1
  have HR := Aside0.mk h
  have hmax := h.2.1
  clear h
  rw [Int.toNat_natCast]
  have hun := un_xor s (by omega)
  obtain ⟨x0, hx0⟩ : ∃ x0, x0 = 4294967295 ^^^ s := ⟨_, rfl⟩
  rw [← hx0] at hun
  have HX := Aside0.mk hx0
  have hx1 : x0 < 4294967296 := by rw [hx0]; exact xor_lt (by omega) (by omega)
  clear hx0
  go_enter Try.func35, Try.ntmps35
  go_wp2
  go_loopw [5, 11] (fun x i wr => ∃ k : Nat, k ≤ xs.length ∧ i = .int .i64 k ∧ x = .int .u32 ((cm x0 (xs.take k) : Nat) : Int) ∧ Below w.heap.size w wr) (fun _ i _ => xs.length - (intOf i).toNat)
  case atStart => exact ⟨0, Nat.zero_le _, rfl, rfl, Below.refl _ _⟩
  case round =>
    clear hun
    obtain ⟨k, hk, rfl, rfl, hB⟩ := hrel
    have r1 : cm x0 (xs.take k) < 4294967296 := cm_lt hx1 (hb.take _)
    by_cases hlt : k < xs.length
    · obtain ⟨ad, e, hx⟩ := Kd.at_int (Kd.C_below HR.out hB) (k : Int) (by omega) (by omega)
      subst e
      rw [Int.toNat_natCast] at hx
      have hbk := hb.at_ (k : Int)
      have hby := xor_byte (cm x0 (xs.take k)) (rd xs k) r1 hbk
      have r2 : cm x0 (xs.take k) ^^^ (rd xs k).toNat < 4294967296 := xor_lt r1 (by omega)
      obtain ⟨hbk0, hbk1⟩ := hbk
      have HS : Aside0 (cm x0 (xs.take (k + 1)) = css (cm x0 (xs.take k) ^^^ (rd xs k).toNat) 8) := ⟨by rw [take_snoc hlt, cm_snoc]⟩
      generalize hm : cm x0 (xs.take k) = m at *
      generalize hr : rd xs k = b at *
      clear hm hr
      go_wp2_with (go_at_call 36; refine (steps_calls ((m ^^^ b.toNat : Nat) : Int) 8 _ (by omega) (by omega) (by omega) (by omega)).mono ?_; rw [Int.toNat_natCast]; rintro e w' ⟨rfl, hB'⟩)
      go_roundw
      case rel => exact ⟨k + 1, by omega, by go_num, by rw [HS.out], below_tr' hB hB'⟩
      case measure => simp [intOf]; omega
    · have hun2 := un_xor _ r1
      obtain rfl : k = xs.length := by omega
      have HS : Aside0 (4294967295 ^^^ cm x0 (xs.take xs.length) = crc s xs) := ⟨by rw [List.take_length, HX.out]; rfl⟩
      generalize hm : cm x0 (xs.take xs.length) = m at *
      clear hm
      go_wp2
      go_ret
      exact ⟨by rw [← HS.out]; rfl, hB⟩

/-- crc.Sum -/
theorem sum_calls (A : Option Addr) (n c : Nat) (xs : List Int) (w : World) (h : RdB w A n xs) (hb : Bytes xs) :
    Calls Try.prog 34 #[.slice A n c] w fun e w' => e = .returned (.int .u32 ((crc 0 xs : Nat) : Int)) ∧ Below w.heap.size w w' := by
  have H := Aside0.mk h
  clear h
  go_enter Try.func34, Try.ntmps34
  go_wp2_with (go_at_call 35; refine (more_calls 0 A n c xs _ H.out hb (by omega) (by omega)).mono ?_; rintro e w' ⟨rfl, hB'⟩)
  go_ret
  exact ⟨rfl, hB'⟩

/-- bytes.Equal -/
theorem equal_calls (A B : Option Addr) (n m c d : Nat) (xs ys : List Int) (w : World) (h : RdB w A n xs) (k : RdB w B m ys) (hx : Bytes xs) (hy : Bytes ys) :
    Calls Try.prog 28 #[.slice A n c, .slice B m d] w fun e w' => e = .returned (.bool (decide (xs = ys))) ∧ w = w' := by
  have e1 := conv_str h c
  have e2 := conv_str k d
  have E := Aside0.mk (str_beq hx hy)
  clear h k
  go_enter Try.func28, Try.ntmps28
  go_wp2
  go_ret
  exact ⟨by rw [← E.out]; rfl, rfl⟩

/-- bytes.Clone -/
theorem clone_calls (A : Option Addr) (n c : Nat) (xs : List Int) (w : World) (h : RdB w A n xs) (hn : n ≤ 140737488355328) :
    Calls Try.prog 29 #[.slice A n c] w fun e w' => ∃ v, e = .returned v ∧ OwB w' w.heap.size v xs ∧ Below w.heap.size w w' := by
  have H := Aside0.mk h
  have hnil := Lib.run_eql_slice_nil (P := Try.prog) w 27 5 A n c 0 0 Try.underlying27
  rcases A with _ | ad
  · have h0 : xs = [] := by
      rcases Nat.eq_zero_or_pos n with h0 | h0
      · exact List.eq_nil_of_length_eq_zero (by have := h.1; omega)
      · obtain ⟨ad, e, _⟩ := h.2.2 h0
        cases e
    clear h
    subst h0
    simp only [Option.isNone_none] at hnil
    go_enter Try.func29, Try.ntmps29
    go_wp2
    go_ret
    exact ⟨_, rfl, Kd.R_nil _ _ _ _ _, Below.refl _ _⟩
  · clear h
    simp only [Option.isNone_some] at hnil
    go_enter Try.func29, Try.ntmps29
    go_wp2_with (at_builtin; refine appBs (w0 := w) w.heap.size rfl (.tmp 5) (.tmp 6) rfl (.slice (some ⟨w.heap.size, 0, none⟩) 0 0) [] xs (some ad) n c rfl rfl (own_litB w _ [] _ _ rfl rfl (Nat.le_refl _) (by simp)) (Kd.C_alloc H.out _) ((Below.refl _ _).alloc (Nat.le_refl _) _) (by simp) (by simp; omega) ?_; intro v1 w1 hO hB _ _)
    go_ret
    exact ⟨_, rfl, by simpa using hO, hB⟩

theorem le32_snoc (s : Nat) (k : Nat) (hk : k < 4) : (le32 s).take (k + 1) = (le32 s).take k ++ [((s / 256 ^ k : Nat) : Int) % 256] := by
  match k, hk with
  | 0, _ => simp [le32]
  | 1, _ => simp [le32]
  | 2, _ => simp [le32]
  | 3, _ => simp [le32]

/-- crc.Put -/
theorem put_calls (A : Option Addr) (n c : Nat) (xs : List Int) (w : World) (h : RdB w A n xs) (hb : Bytes xs) (hn : n ≤ 70368744177664) :
    Calls Try.prog 25 #[.slice A n c] w fun e w' => ∃ v, e = .returned v ∧ OwB w' w.heap.size v (cput xs) ∧ Below w.heap.size w w' := by
  have H := Aside0.mk h
  obtain rfl : xs.length = n := h.1
  clear h
  have hs := crc_lt (s := 0) (by omega) hb
  have HP : Aside0 (xs ++ ([] : List Int) = xs) := ⟨by simp⟩
  go_enter Try.func25, Try.ntmps25
  go_wp2_with (first | (go_at_call 34; refine (sum_calls A _ c xs _ H.out hb).mono ?_; rintro e w1 ⟨rfl, hB1⟩) | (go_at_call 29; refine (clone_calls A _ c xs _ (Kd.C_below H.out hB1) (by omega)).mono ?_; rintro e w2 ⟨v0, rfl, hO, hB2⟩))
  have hO0 : OwB w2 w.heap.size v0 (xs ++ (le32 (crc 0 xs)).take 0) := by
    rw [List.take_zero, List.append_nil]
    exact Kd.R_lower hO hB1.size
  have hB0 := below_tr' hB1 hB2
  clear hO hB2 hB1 hb H HP
  generalize hS : crc 0 xs = S at *
  have HS := Aside0.mk hS
  clear hS
  go_loopw [3, 4, 9] (fun s v i wr => ∃ k : Nat, k ≤ 4 ∧ i = .int .i64 k ∧ s = .int .u32 ((S / 256 ^ k : Nat) : Int) ∧ OwB wr w.heap.size v (xs ++ (le32 S).take k) ∧ Below w.heap.size w wr) (fun _ _ i _ => 4 - (intOf i).toNat)
  case atStart => exact ⟨0, by omega, rfl, by simp, hO0, hB0⟩
  case round =>
    clear hO0 hB0
    obtain ⟨k, hk, rfl, rfl, hO, hB⟩ := hrel
    have hsz := hB.size
    by_cases hlt : k < 4
    · have HT := Aside0.mk (le32_snoc S k hlt)
      have HL : Aside0 ((xs ++ (le32 S).take k).length < 140737488355328) := ⟨by simp [le32]; omega⟩
      have HQ : Aside0 (((S / 256 ^ k / 256 : Nat) : Int) = ((S / 256 ^ (k + 1) : Nat) : Int)) := ⟨by rw [Nat.div_div_eq_div_mul, Nat.pow_succ]⟩
      have hq : S / 256 ^ k < 4294967296 := Nat.lt_of_le_of_lt (Nat.div_le_self _ _) hs
      generalize hz : S / 256 ^ k = z at *
      clear hz
      go_wp2_with (at_builtin; refine appB (w0 := w) w.heap.size rfl (.tmp 11) (.tmp 14) rfl _ _ _ rfl rfl hO hB hsz HL.out ?_; intro v1 w1 hO1 hB1 _ _)
      go_roundw
      case rel => exact ⟨k + 1, by omega, by go_num, by rw [← HQ.out]; simp, by rw [HT.out, ← List.append_assoc]; exact hO1, hB1⟩
      case measure => simp [intOf]; omega
    · obtain rfl : k = 4 := by omega
      go_wp2
      go_ret
      exact ⟨_, rfl, by rw [cput, HS.out]; exact hO, hB⟩

/-- crc.Take -/
theorem take_calls (A : Option Addr) (n c : Nat) (xs : List Int) (w : World) (h : RdB w A n xs) (hc : n ≤ c) (hb : Bytes xs) (hn : n ≤ 70368744177664) :
    Calls Try.prog 31 #[.slice A n c] w fun e w' => ∃ v, e = .returned (.tuple #[v, .int .i64 (ctake xs).2]) ∧ OwB w' w.heap.size v (ctake xs).1 ∧ Below w.heap.size w w' := by
  have H := Aside0.mk h
  obtain rfl : xs.length = n := h.1
  by_cases h4 : xs.length < 4
  · have E : Aside0 (ctake xs = ([], 2)) := ⟨by unfold ctake; rw [if_pos h4]⟩
    clear h
    go_enter Try.func31, Try.ntmps31
    go_wp2
    go_ret2
    rw [E.out]
    exact ⟨_, rfl, Kd.R_nil _ _ _ _ _, Below.refl _ _⟩
  · obtain ⟨hcut, hrd⟩ := cutTo h hc ((xs.length : Int) - 4) (by omega) (by omega)
    have ej : ((xs.length : Int) - 4).toNat = xs.length - 4 := by omega
    rw [ej] at hrd
    simp only [ej] at hcut
    have HR := Aside0.mk hrd
    have hbt := hb.take (xs.length - 4)
    clear hrd h
    by_cases heq : cput (xs.take (xs.length - 4)) = xs
    · have E : Aside0 (ctake xs = (xs.take (xs.length - 4), 0)) := ⟨by unfold ctake; rw [if_neg h4, if_pos heq]⟩
      have hdec : decide (cput (xs.take (xs.length - 4)) = xs) = true := decide_eq_true heq
      have HE := Aside0.mk heq
      clear heq
      generalize hys : xs.take (xs.length - 4) = ys at *
      clear hys
      go_enter Try.func31, Try.ntmps31
      go_wp2_with (first | (go_at_call 25; refine (put_calls A _ c ys _ HR.out hbt (by omega)).mono ?_; rintro e w1 ⟨v0, rfl, hO, hB1⟩; obtain ⟨B, d, rfl, hd, hrB⟩ := OwB.reads hO) | (go_at_call 28; refine (equal_calls B A _ _ _ c _ xs _ hrB (Kd.C_below H.out hB1) (cput_bytes hbt) hb).mono ?_; rw [hdec]; rintro e w1 ⟨rfl, rfl⟩) | (go_at_call 29; refine (clone_calls A _ c ys _ (Kd.C_below HR.out hB1) (by omega)).mono ?_; rintro e w2 ⟨v1, rfl, hO1, hB2⟩))
      go_ret2
      rw [E.out]
      exact ⟨_, rfl, Kd.R_lower hO1 hB1.size, below_tr' hB1 hB2⟩
    · have E : Aside0 (ctake xs = ([], 7)) := ⟨by unfold ctake; rw [if_neg h4, if_neg heq]⟩
      have hdec : decide (cput (xs.take (xs.length - 4)) = xs) = false := decide_eq_false heq
      have HE := Aside0.mk heq
      clear heq
      generalize hys : xs.take (xs.length - 4) = ys at *
      clear hys
      go_enter Try.func31, Try.ntmps31
      go_wp2_with (first | (go_at_call 25; refine (put_calls A _ c ys _ HR.out hbt (by omega)).mono ?_; rintro e w1 ⟨v0, rfl, hO, hB1⟩; obtain ⟨B, d, rfl, hd, hrB⟩ := OwB.reads hO) | (go_at_call 28; refine (equal_calls B A _ _ _ c _ xs _ hrB (Kd.C_below H.out hB1) (cput_bytes hbt) hb).mono ?_; rw [hdec]; rintro e w1 ⟨rfl, rfl⟩))
      go_ret2
      rw [E.out]
      exact ⟨_, rfl, Kd.R_nil _ _ _ _ _, hB1⟩

/-- crc.Put, the list under a name of its own. -/
theorem put_new (A : Option Addr) (n c : Nat) (xs : List Int) (w : World) (h : RdB w A n xs) (hb : Bytes xs) (hn : n ≤ 70368744177664) :
    Calls Try.prog 25 #[.slice A n c] w fun e w' => ∃ B d ys, e = .returned (.slice B ys.length d) ∧ Aside0 (ys = cput xs) ∧ Bytes ys ∧ Aside0 (OwB w' w.heap.size (.slice B ys.length d) ys) ∧ ys.length ≤ d ∧ Aside0 (ys.length = xs.length + 4) ∧ Aside0 (RdB w' B ys.length ys) ∧ Below w.heap.size w w' :=
  (put_calls A n c xs w h hb hn).mono fun e w' ⟨v, he, hO, hB⟩ => by
    obtain ⟨B, d, rfl, hd, hr⟩ := OwB.reads hO
    exact ⟨B, d, _, he, ⟨rfl⟩, cput_bytes hb, ⟨hO⟩, hd, ⟨cput_length xs⟩, ⟨hr⟩, hB⟩
end Go.Proofs.Ytbagphegelbgcaa
