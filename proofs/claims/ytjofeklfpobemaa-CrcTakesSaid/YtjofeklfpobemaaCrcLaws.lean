/- The walks of the laws over crc. Conditions: what each argument reads. -/
import Derived.Test.YtjofeklfpobemaaRef03
namespace Go.Proofs.Ytjofeklfpobemaa
open Go.RowKit Go.Proofs.YtjofeklfpobemaaW.PrintWords Go.Proofs.YtjofeklfpobemaaW.PrintMore
set_option linter.unusedVariables false
set_option linter.unusedSimpArgs false

theorem lives_val : crc 0 [49, 50, 51, 52, 53, 54, 55, 56, 57] = 3808858755 := by decide +kernel
theorem lives_calls (w : World) : Calls Try.prog 13 #[] w fun e w' => e = .returned (.bool true) ∧ Below w.heap.size w w' := by
  have kc := fun (w : World) (C : Array Value) (n c : Nat) => Lib.run_convert_bytes_const (P := Try.prog) w 22 5 C n c Try.underlying22 Try.underlying5
  have hb : Bytes [49, 50, 51, 52, 53, 54, 55, 56, 57] := by intro x hx; simp at hx; omega
  go_enter Try.func13, Try.ntmps13
  go_wp2_with (go_at_call 10; refine (sum_calls _ _ _ [49, 50, 51, 52, 53, 54, 55, 56, 57] _ (rd_lit w _ _ _ _ rfl rfl (by simp)) hb).mono ?_; rw [lives_val]; rintro e w' ⟨rfl, hB⟩)
  go_ret
  exact ⟨rfl, below_tr' ((Below.refl _ _).alloc (Nat.le_refl _) _) hB⟩

theorem crcSums_walk (A : Option Addr) (n c : Nat) (xs : List Int) (s : Int) (w : World) (h : RdB w A n xs) (hc : n ≤ c) (hb : Bytes xs) (h0 : 0 ≤ s) (h1 : s < 4294967296) :
    Calls Try.prog 3 #[.slice A n c, .int .u32 s] w fun e w' => e = .returned (.bool true) ∧ Below w.heap.size w w' := by
  have H := Aside0.mk h
  clear h
  go_enter Try.func3, Try.ntmps3
  go_wp2_with fail
  refine (few_calls A n c xs 60 _ H.out hc (by omega) (by omega)).mono ?_
  rintro e w1 ⟨v, rfl, hO, hB1⟩
  obtain ⟨B, d, rfl, hd, hr⟩ := OwB.reads hO
  have hb1 := hb.take (60 : Int).toNat
  generalize hys : xs.take (60 : Int).toNat = ys at *
  have HR := Aside0.mk hr
  clear hys hO hr
  go_wp2_with (first
    | (go_at_call 10; with_reducible refine (sum_calls _ _ _ ys _ HR.out hb1).mono ?_; rintro e w2 ⟨rfl, hB2⟩)
    | (go_at_call 11; with_reducible refine (rmore_calls 0 _ _ _ ys _ (Kd.C_below HR.out hB2) hb1 (by omega) (by omega)).mono ?_; rintro e w3 ⟨rfl, rfl⟩)
    | (go_at_call 12; with_reducible refine (more_calls s _ _ _ ys _ (Kd.C_below HR.out hB2) hb1 h0 h1).mono ?_; rintro e w3 ⟨rfl, hB3⟩)
    | (go_at_call 11; with_reducible refine (rmore_calls s _ _ _ ys _ (Kd.C_below (Kd.C_below HR.out hB2) hB3) hb1 h0 h1).mono ?_; rintro e w4 ⟨rfl, rfl⟩)
    | (go_at_call 13; with_reducible refine (lives_calls _).mono ?_; rintro e w5 ⟨rfl, hB5⟩))
  go_ret
  exact ⟨rfl, below_tr' hB1 (below_tr' hB2 (below_tr' hB3 hB5))⟩

theorem crcJoins_walk (A B : Option Addr) (n c m d : Nat) (xs ys : List Int) (w : World) (h : RdB w A n xs) (hc : n ≤ c) (hb : Bytes xs) (k : RdB w B m ys) (hd : m ≤ d) (kb : Bytes ys) :
    Calls Try.prog 5 #[.slice A n c, .slice B m d] w fun e w' => e = .returned (.bool true) ∧ Below w.heap.size w w' := by
  have H := Aside0.mk h
  have K := Aside0.mk k
  clear h k
  go_enter Try.func5, Try.ntmps5
  go_wp2_with fail
  refine (few_new A n c xs 30 _ H.out hc hb (by omega) (by omega)).mono ?_
  rintro e w1 ⟨A1, c1, X, rfl, EX, b1, O1, hd1, l1, R1, hB1⟩
  go_wp2_with fail
  refine (few_new B m d ys 30 _ (Kd.C_below K.out hB1) hd kb (by omega) (by omega)).mono ?_
  rintro e w2 ⟨A2, c2, Y, rfl, EY, b2, O2, hd2, l2, R2, hB2⟩
  go_wp2_with fail
  refine (few_new A n c xs 30 _ (Kd.C_below (Kd.C_below H.out hB1) hB2) hc hb (by omega) (by omega)).mono ?_
  rintro e w3 ⟨A3, c3, Z, rfl, EZ, b3, O3, hd3, l3, R3, hB3⟩
  have eZ : Z = X := by rw [EZ.out, EX.out]
  subst eZ
  simp only [Int.reduceToNat] at l1 l2 l3
  have r1 := Aside0.mk (Kd.C_below R1.out hB2)
  have hB12 := below_tr' hB1 hB2
  clear R1 R3 O1 O2 hB1 hB2 EX EY EZ H K
  go_wp2_with (at_builtin; refine appBs (w0 := w2) w2.heap.size rfl (.tmp 14) (.tmp 15) rfl _ Z Y _ _ _ rfl rfl O3.out (Kd.C_below R2.out hB3) hB3 hB3.size (by omega) ?_; intro v4 w4 hO4 hB4 _ _)
  obtain ⟨A4, c4, rfl, hd4, r4⟩ := OwB.reads hO4
  have s1 := Aside0.mk (Kd.C_below r1.out hB4)
  have s2 := Aside0.mk (Kd.C_below R2.out hB4)
  have s4 := Aside0.mk r4
  have hB := below_tr hB12 (show Below w2.heap.size w2 w4 from hB4) hB12.size
  clear r1 R2 r4 O3 hB3 hO4 hd4 hB4 hB12
  have EJ := Aside0.mk (join_law Z Y 0)
  have EM := Aside0.mk (more_law 0 Z Y)
  have EN := Aside0.mk (join_law Z [] 0)
  rw [List.append_nil] at EN
  have bZY := b1.append b2
  have q1 := crc_lt (s := 0) (by omega) b1
  have q2 := crc_lt (s := 0) (by omega) b2
  have q0 := crc_lt (s := 0) (by omega) Bytes.nil
  generalize hZY : Z ++ Y = ZY at *
  clear hZY
  go_wp2_with fail
  refine (rmore_calls 0 _ _ _ ZY _ s4.out bZY (by omega) (by omega)).mono ?_
  simp only [Int.toNat_zero]
  rintro e w5 ⟨rfl, rfl⟩
  go_wp2_with fail
  refine (sum_calls _ _ _ Z _ s1.out b1).mono ?_
  rintro e w5 ⟨rfl, hB5⟩
  go_wp2_with fail
  refine (sum_calls _ _ _ Y _ (Kd.C_below s2.out hB5) b2).mono ?_
  rintro e w6 ⟨rfl, hB6⟩
  go_wp2_with fail
  refine (join_calls _ _ _ _ (by omega) (by omega) (by omega) (by omega) (by omega) (by omega)).mono ?_
  simp only [Int.toNat_natCast]
  rw [EJ.out]
  rintro e w7 ⟨rfl, hB7⟩
  go_wp2_with fail
  have hB67 := below_tr' hB5 (below_tr' hB6 hB7)
  clear hB5 hB6 hB7
  refine (sum_calls _ _ _ Z _ (Kd.C_below s1.out hB67) b1).mono ?_
  rintro e w8 ⟨rfl, hB8⟩
  go_wp2_with fail
  refine (more_calls _ _ _ _ Y _ (Kd.C_below (Kd.C_below s2.out hB67) hB8) b2 (by omega) (by omega)).mono ?_
  simp only [Int.toNat_natCast]
  rw [EM.out]
  rintro e w9 ⟨rfl, hB9⟩
  go_wp2_with fail
  have hB69 := below_tr' hB67 (below_tr' hB8 hB9)
  clear hB67 hB8 hB9
  refine (sum_calls _ _ _ Z _ (Kd.C_below s1.out hB69) b1).mono ?_
  rintro e w10 ⟨rfl, hB10⟩
  go_wp2_with fail
  refine (sum_calls _ _ _ [] _ (Kd.C_nil _ _) Bytes.nil).mono ?_
  rintro e w11 ⟨rfl, hB11⟩
  go_wp2_with fail
  refine (join_calls _ _ 0 _ (by omega) (by omega) (by omega) (by omega) (by omega) (by omega)).mono ?_
  simp only [Int.toNat_natCast, Int.toNat_zero]
  rw [show 8 * 0 = 8 * ([] : List Int).length from rfl, EN.out]
  rintro e w12 ⟨rfl, hB12⟩
  go_wp2_with fail
  have hB612 := below_tr' hB69 (below_tr' hB10 (below_tr' hB11 hB12))
  clear hB69 hB10 hB11 hB12
  refine (sum_calls _ _ _ Z _ (Kd.C_below s1.out hB612) b1).mono ?_
  rintro e w13 ⟨rfl, hB13⟩
  go_wp2_with fail
  refine (lives_calls _).mono ?_
  rintro e w14 ⟨rfl, hB14⟩
  go_wp2_with fail
  go_ret
  exact ⟨rfl, below_tr' hB (below_tr' hB612 (below_tr' hB13 hB14))⟩

theorem xor_ne (a b : Int) (ha : 0 ≤ a ∧ a < 256) (hb : 0 < b ∧ b < 256) : a ≠ Go.bits .xor .u8 a b := by
  rw [u8_xor a b ha.1 ha.2 (by omega) hb.2]
  intro h
  have h1 : a.toNat ^^^ 0 = a.toNat ^^^ b.toNat := by rw [Nat.xor_zero]; omega
  have := xor_left_inj h1
  omega

theorem crcDiffers_walk (A : Option Addr) (n c : Nat) (xs : List Int) (at_ by_ : Int) (w : World) (h : RdB w A n xs) (hc : n ≤ c) (hb : Bytes xs) (ha0 : -9223372036854775808 ≤ at_) (ha1 : at_ ≤ 9223372036854775807) (h0 : 0 ≤ by_) (h1 : by_ < 256) :
    Calls Try.prog 4 #[.slice A n c, .int .i64 at_, .int .u8 by_] w fun e w' => e = .returned (.bool true) ∧ Below w.heap.size w w' := by
  have H := Aside0.mk h
  clear h
  go_enter Try.func4, Try.ntmps4
  go_wp2_with fail
  refine (few_new A n c xs 40 _ H.out hc hb (by omega) (by omega)).mono ?_
  rintro e w1 ⟨A1, c1, X, rfl, EX, b1, O1, hd1, l1, R1, hB1⟩
  clear EX H R1
  simp only [Int.reduceToNat] at l1
  have bX := Aside0.mk (b1.append (Bytes.one (x := 1) (by omega) (by omega)))
  go_upto_if 15 with (at_builtin; refine appB (w0 := w) w.heap.size rfl (.tmp 11) (.tmp 12) rfl _ X 1 rfl rfl O1.out hB1 hB1.size (by omega) ?_; intro v2 w2 hO2 hB2 _ _)
  obtain ⟨A2, c2, rfl, hd2, r2⟩ := OwB.reads hO2
  have EL : (X ++ [1]).length = X.length + 1 := by simp
  generalize hY : X ++ [1] = Y at *
  have O2 := Aside0.mk hO2
  have R2 := Aside0.mk r2
  have lY : 0 < Y.length ∧ Y.length ≤ 41 := by omega
  obtain ⟨lY0, lY1⟩ := lY
  have hBB := hB2
  clear hO2 r2 hY O1 hB1 b1 EL hd1 l1 hB2
  go_cut [2] (fun v2 w' => ∃ y : Int, 0 < y ∧ y < 256 ∧ v2 = .int .u8 y ∧ w2 = w')
  case first =>
    by_cases hz : by_ = 0
    · subst hz
      go_wp2
      go_meet
      case rel => exact ⟨1, by omega, by omega, rfl, rfl⟩
    · have hz' : (by_ == 0) = false := by simp [hz]
      go_wp2
      go_meet
      case rel => exact ⟨by_, by omega, h1, rfl, rfl⟩
  case rest =>
    obtain ⟨y, hy0, hy1, rfl, rfl⟩ := hcut
    go_wp2_with fail
    refine (few_new A2 _ c2 Y 60 _ R2.out hd2 bX.out (by omega) (by omega)).mono ?_
    rintro e w3 ⟨A3, c3, Z, rfl, EZ, b3, O3, hd3, l3, R3, hB3⟩
    obtain rfl : Z = Y := by rw [EZ.out, List.take_of_length_le (by simp; omega)]
    clear EZ R3 l3 hd3
    obtain ⟨g, c3', hv, hg1, hg2⟩ := OwB.place O3.out lY0
    obtain ⟨rfl, _, rfl⟩ : A3 = some ⟨g, 0, none⟩ ∧ True ∧ c3 = c3' := by simpa using hv
    clear hv
    go_wp2_with fail
    refine (around_calls at_ (Z.length : Int) _ ha0 ha1 (by omega) (by omega)).mono ?_
    rintro e w4 ⟨rfl, rfl⟩
    obtain ⟨k0, k1⟩ := around_range at_ (Z.length : Int) (by omega)
    generalize around at_ (Z.length : Int) = k at *
    obtain ⟨hcell, hfz⟩ := OwB.cell O3.out k k0 k1
    have hrk := bX.out.at_ k
    have hne := Aside0.mk (xor_ne (rd Z k) y hrk ⟨hy0, hy1⟩)
    have hxr := Aside0.mk (u8_xor_range (rd Z k) y hrk.1 hrk.2 (by omega) hy1)
    have hdiff : Aside0 (crc 0 (Z.set k.toNat (Go.bits .xor .u8 (rd Z k) y)) ≠ crc 0 Z) := ⟨by
      have := crc_set (a := 0) (by omega) bX.out k.toNat (by omega) hxr.out (by rw [Int.toNat_of_nonneg k0]; exact hne.out)
      exact this⟩
    have bS := Aside0.mk (Bytes.set bX.out k.toNat hxr.out.1 hxr.out.2)
    obtain ⟨hrk0, hrk1⟩ := hrk
    generalize hq : Go.bits .xor .u8 (rd Z k) y = q at *
    generalize hb' : rd Z k = bk at *
    clear hb'
    have O4 := Aside0.mk (OwB.store O3.out k q)
    have O2' := Aside0.mk ((O2.out.below hB3).far (p := ⟨g, k.toNat, none⟩) (by exact O2.out.lt g hg1) (.int .u8 q))
    go_wp2_with fail
    have S4 := Aside0.mk (OwB.parts O4.out).2
    have S2 := Aside0.mk (OwB.parts O2'.out).2
    have hBw := Below.setCell (below_tr' hBB hB3) (p := ⟨g, k.toNat, none⟩) (by have := hBB.size; exact Nat.le_trans this hg1) (.int .u8 q)
    clear O3 O4 O2 O2' R2 hB3 hcell hfz hg1 hg2
    refine (sum_calls _ _ _ _ _ S4.out bS.out).mono ?_
    rintro e w5 ⟨rfl, hB5⟩
    go_wp2_with fail
    refine (sum_calls _ _ _ _ _ (Kd.C_below S2.out hB5) bX.out).mono ?_
    rintro e w6 ⟨rfl, hB6⟩
    have hne2 : ((((crc 0 (Z.set k.toNat q) : Nat) : Int) != ((crc 0 Z : Nat) : Int)) = true) := by
      rw [bne_iff_ne]
      exact fun h => hdiff.out (by omega)
    go_wp2_with fail
    refine (lives_calls _).mono ?_
    rintro e w7 ⟨rfl, hB7⟩
    go_wp2_with fail
    go_ret
    exact ⟨rfl, below_tr hBw (below_tr' hB5 (below_tr' hB6 hB7)) hBw.size⟩

theorem crcTurns_walk (A : Option Addr) (n c : Nat) (xs : List Int) (at_ by_ : Int) (w : World) (h : RdB w A n xs) (hc : n ≤ c) (hb : Bytes xs) (ha0 : -9223372036854775808 ≤ at_) (ha1 : at_ ≤ 9223372036854775807) (h0 : 0 ≤ by_) (h1 : by_ < 256) :
    Calls Try.prog 8 #[.slice A n c, .int .i64 at_, .int .u8 by_] w fun e w' => e = .returned (.bool true) ∧ Below w.heap.size w w' := by
  have H := Aside0.mk h
  clear h
  go_enter Try.func8, Try.ntmps8
  go_wp2_with fail
  refine (few_new A n c xs 40 _ H.out hc hb (by omega) (by omega)).mono ?_
  rintro e w1 ⟨A1, c1, X, rfl, EX, b1, O1, hd1, l1, R1, hB1⟩
  clear EX H O1
  simp only [Int.reduceToNat] at l1
  go_wp2_with fail
  refine (put_new A1 _ c1 X _ R1.out b1 (by omega)).mono ?_
  rintro e w2 ⟨A2, c2, Y, rfl, EY, bY, O2, hd2, l2, R2, hB2⟩
  have lY : 4 ≤ Y.length ∧ Y.length ≤ 44 := by have := l2.out; omega
  obtain ⟨lY0, lY1⟩ := lY
  have hBB := below_tr' hB1 hB2
  have hs1 := hB1.size
  clear R1 hB1 hB2
  go_upto_if 18 with (fail)
  go_cut [2] (fun v2 w' => ∃ y : Int, 0 < y ∧ y < 256 ∧ v2 = .int .u8 y ∧ w2 = w')
  case first =>
    by_cases hz : by_ = 0
    · subst hz
      go_wp2
      go_meet
      case rel => exact ⟨1, by omega, by omega, rfl, rfl⟩
    · have hz' : (by_ == 0) = false := by simp [hz]
      go_wp2
      go_meet
      case rel => exact ⟨by_, by omega, h1, rfl, rfl⟩
  case rest =>
    obtain ⟨y, hy0, hy1, rfl, rfl⟩ := hcut
    obtain ⟨g, c2', hv, hg1, hg2⟩ := OwB.place O2.out (by omega)
    obtain ⟨rfl, _, rfl⟩ : A2 = some ⟨g, 0, none⟩ ∧ True ∧ c2 = c2' := by simpa using hv
    clear hv
    go_wp2_with fail
    refine (around_calls at_ (Y.length : Int) _ ha0 ha1 (by omega) (by omega)).mono ?_
    rintro e w4 ⟨rfl, rfl⟩
    obtain ⟨k0, k1⟩ := around_range at_ (Y.length : Int) (by omega)
    generalize around at_ (Y.length : Int) = k at *
    obtain ⟨hcell, hfz⟩ := OwB.cell O2.out k k0 k1
    have hrk := bY.at_ k
    have hne := Aside0.mk (xor_ne (rd Y k) y hrk ⟨hy0, hy1⟩)
    have hxr := Aside0.mk (u8_xor_range (rd Y k) y hrk.1 hrk.2 (by omega) hy1)
    have hdiff : Aside0 (ctake (Y.set k.toNat (Go.bits .xor .u8 (rd Y k) y)) = ([], 7)) := ⟨by
      have e := EY.out
      have hk : rd Y k = rd (cput X) (k.toNat : Int) := by rw [Int.toNat_of_nonneg k0, e]
      have := ctake_turned b1 k.toNat (by rw [← e]; omega) hxr.out (by rw [← hk]; exact hne.out)
      rw [← this, e]⟩
    have bS := Aside0.mk (Bytes.set bY k.toNat hxr.out.1 hxr.out.2)
    obtain ⟨hrk0, hrk1⟩ := hrk
    generalize hq : Go.bits .xor .u8 (rd Y k) y = q at *
    generalize hb' : rd Y k = bk at *
    clear hb'
    have O4 := Aside0.mk (OwB.store O2.out k q)
    have P4 := (OwB.parts O4.out)
    have S4 := Aside0.mk P4.2
    have hP4 := P4.1
    clear P4
    have hBw := Below.setCell hBB (p := ⟨g, k.toNat, none⟩) (show w.heap.size ≤ g by omega) (.int .u8 q)
    go_wp2_with fail
    refine (take_calls _ _ _ _ _ S4.out hP4 bS.out (by omega)).mono ?_
    rw [hdiff.out]
    rintro e w5 ⟨v, rfl, hO5, hB5⟩
    obtain ⟨A5, c5, rfl, _, _⟩ := OwB.reads hO5
    go_wp2_with fail
    refine (lives_calls _).mono ?_
    rintro e w7 ⟨rfl, hB7⟩
    go_wp2_with fail
    go_ret
    exact ⟨rfl, below_tr hBw (below_tr' hB5 hB7) hBw.size⟩

theorem crcChains_walk (A B C : Option Addr) (n c m d p q : Nat) (xs ys zs : List Int) (w : World) (h : RdB w A n xs) (hc : n ≤ c) (hb : Bytes xs) (k : RdB w B m ys) (hd : m ≤ d) (kb : Bytes ys) (l : RdB w C p zs) (hq : p ≤ q) (lb : Bytes zs) :
    Calls Try.prog 6 #[.slice A n c, .slice B m d, .slice C p q] w fun e w' => e = .returned (.bool true) ∧ Below w.heap.size w w' := by
  have H := Aside0.mk h
  have K := Aside0.mk k
  have L := Aside0.mk l
  clear h k l
  go_enter Try.func6, Try.ntmps6
  go_wp2_with fail
  refine (few_new A n c xs 20 _ H.out hc hb (by omega) (by omega)).mono ?_
  rintro e w1 ⟨A1, c1, X, rfl, EX, b1, O1, hd1, l1, R1, hB1⟩
  go_wp2_with fail
  refine (few_new B m d ys 20 _ (Kd.C_below K.out hB1) hd kb (by omega) (by omega)).mono ?_
  rintro e w2 ⟨A2, c2, Y, rfl, EY, b2, O2, hd2, l2, R2, hB2⟩
  go_wp2_with fail
  refine (few_new C p q zs 20 _ (Kd.C_below (Kd.C_below L.out hB1) hB2) hq lb (by omega) (by omega)).mono ?_
  rintro e w3 ⟨A3, c3, Z, rfl, EZ, b3, O3, hd3, l3, R3, hB3⟩
  simp only [Int.reduceToNat] at l1 l2 l3
  have r1 := Aside0.mk (Kd.C_below (Kd.C_below R1.out hB2) hB3)
  have r2 := Aside0.mk (Kd.C_below R2.out hB3)
  have hB := below_tr' hB1 (below_tr' hB2 hB3)
  clear R1 R2 O1 O2 O3 hB1 hB2 hB3 EX EY EZ H K L
  have E1 := Aside0.mk (join_law X Y 0)
  have E2 := Aside0.mk (join_law (X ++ Y) Z 0)
  have E3 := Aside0.mk (join_law Y Z 0)
  have E4 := Aside0.mk (join_law X (Y ++ Z) 0)
  rw [List.length_append, ← List.append_assoc] at E4
  have E5 := Aside0.mk (more_law 0 X Y)
  have E6 := Aside0.mk (more_law 0 (X ++ Y) Z)
  have q1 := crc_lt (s := 0) (by omega) b1
  have q2 := crc_lt (s := 0) (by omega) b2
  have q3 := crc_lt (s := 0) (by omega) b3
  have q12 := crc_lt (s := 0) (by omega) (b1.append b2)
  have q23 := crc_lt (s := 0) (by omega) (b2.append b3)
  generalize hXYZ : X ++ Y ++ Z = XYZ at *
  generalize hXY : X ++ Y = XY at *
  generalize hYZ : Y ++ Z = YZ at *
  clear hXYZ hXY hYZ
  go_wp2_with fail
  refine (sum_calls _ _ _ X _ r1.out b1).mono ?_
  rintro e w5 ⟨rfl, hB5⟩
  go_wp2_with fail
  refine (sum_calls _ _ _ Y _ (Kd.C_below r2.out hB5) b2).mono ?_
  rintro e w6 ⟨rfl, hB6⟩
  go_wp2_with fail
  refine (join_calls _ _ _ _ (by omega) (by omega) (by omega) (by omega) (by omega) (by omega)).mono ?_
  simp only [Int.toNat_natCast]
  rw [E1.out]
  rintro e w7 ⟨rfl, hB7⟩
  have hB67 := below_tr' hB5 (below_tr' hB6 hB7)
  clear hB5 hB6 hB7
  go_wp2_with fail
  refine (sum_calls _ _ _ Z _ (Kd.C_below R3.out hB67) b3).mono ?_
  rintro e w5 ⟨rfl, hB5⟩
  go_wp2_with fail
  refine (join_calls _ _ _ _ (by omega) (by omega) (by omega) (by omega) (by omega) (by omega)).mono ?_
  simp only [Int.toNat_natCast]
  rw [E2.out]
  rintro e w7 ⟨rfl, hB7⟩
  have hBa := below_tr' hB67 (below_tr' hB5 hB7)
  clear hB67 hB5 hB7
  go_wp2_with fail
  refine (sum_calls _ _ _ X _ (Kd.C_below r1.out hBa) b1).mono ?_
  rintro e w5 ⟨rfl, hB5⟩
  go_wp2_with fail
  refine (sum_calls _ _ _ Y _ (Kd.C_below (Kd.C_below r2.out hBa) hB5) b2).mono ?_
  rintro e w6 ⟨rfl, hB6⟩
  have hBb := below_tr' hBa (below_tr' hB5 hB6)
  clear hBa hB5 hB6
  go_wp2_with fail
  refine (sum_calls _ _ _ Z _ (Kd.C_below R3.out hBb) b3).mono ?_
  rintro e w5 ⟨rfl, hB5⟩
  go_wp2_with fail
  refine (join_calls _ _ _ _ (by omega) (by omega) (by omega) (by omega) (by omega) (by omega)).mono ?_
  simp only [Int.toNat_natCast]
  rw [E3.out]
  rintro e w7 ⟨rfl, hB7⟩
  have hBc := below_tr' hBb (below_tr' hB5 hB7)
  clear hBb hB5 hB7
  go_wp2_with fail
  refine (join_calls _ _ ((Y.length : Int) + (Z.length : Int)) _ (by omega) (by omega) (by omega) (by omega) (by omega) (by omega)).mono ?_
  simp only [Int.toNat_natCast]
  rw [show ((Y.length : Int) + (Z.length : Int)).toNat = Y.length + Z.length by omega, E4.out]
  rintro e w5 ⟨rfl, hB5⟩
  have hBd := below_tr' hBc hB5
  clear hBc hB5
  go_wp2_with fail
  refine (rmore_calls 0 _ _ _ X _ (Kd.C_below r1.out hBd) b1 (by omega) (by omega)).mono ?_
  simp only [Int.toNat_zero]
  rintro e w5 ⟨rfl, rfl⟩
  go_wp2_with fail
  refine (rmore_calls _ _ _ _ Y _ (Kd.C_below r2.out hBd) b2 (by omega) (by omega)).mono ?_
  simp only [Int.toNat_natCast]
  rw [E5.out]
  rintro e w5 ⟨rfl, rfl⟩
  go_wp2_with fail
  refine (rmore_calls _ _ _ _ Z _ (Kd.C_below R3.out hBd) b3 (by omega) (by omega)).mono ?_
  simp only [Int.toNat_natCast]
  rw [E6.out]
  rintro e w5 ⟨rfl, rfl⟩
  go_wp2_with fail
  refine (lives_calls _).mono ?_
  rintro e w14 ⟨rfl, hB14⟩
  go_wp2_with fail
  go_ret
  exact ⟨rfl, below_tr' hB (below_tr' hBd hB14)⟩
end Go.Proofs.Ytjofeklfpobemaa
