/- The law FrameTurns: its walk. Conditions: what each argument reads. -/
import Derived.Test.YtcbcoaafdggniaaFrm13
namespace Go.Proofs.Ytcbcoaafdggniaa
open Go.RowKit Go.Shelf Go.Proofs.YtcbcoaafdggniaaW.PrintWords Go.Proofs.YtcbcoaafdggniaaW.PrintMore
set_option linter.unusedVariables false
set_option linter.unusedSimpArgs false
theorem xor_ne (a b : Int) (ha : 0 ≤ a ∧ a < 256) (hb : 0 < b ∧ b < 256) : a ≠ Go.bits .xor .u8 a b := by
  rw [u8_xor a b ha.1 ha.2 (by omega) hb.2]
  intro h
  have h1 : a.toNat ^^^ 0 = a.toNat ^^^ b.toNat := by rw [Nat.xor_zero]; omega
  have := xor_left_inj h1
  omega
structure TnI (w : World) (B : Option Addr) (n d : Nat) (X : List Int) (wr : World) : Prop where
  len : X.length = n
  by_ : Bytes X
  own : OwB wr w.heap.size (.slice B n d) X
  below : Below w.heap.size w wr
theorem TnI.put {w wr : World} {g n d : Nat} {X : List Int} (h : TnI w (some ⟨g, 0, none⟩) n d X wr) (hg : w.heap.size ≤ g) (j : Nat) {x : Int} (h0 : 0 ≤ x) (h1 : x < 256) : TnI w (some ⟨g, 0, none⟩) n d (X.set j x) (wr.setCell ⟨g, j, none⟩ (.int .u8 x)) := by
  refine ⟨by rw [List.length_set]; exact h.len, h.by_.set j h0 h1, ?_, h.below.setCell (p := ⟨g, j, none⟩) hg _⟩
  have hown : OwB wr w.heap.size (.slice (some ⟨g, 0, none⟩) X.length d) X := by rw [h.len]; exact h.own
  have := hown.store (j : Int) x
  rw [h.len, Int.toNat_natCast] at this
  exact this
set_option maxRecDepth 20000 in
set_option maxHeartbeats 3200000 in
theorem frameTurns_walk (A : Option Addr) (n c : Nat) (xs : List Int) (at_ by_ : Int) (w : World) (h : RdB w A n xs) (hc : n ≤ c) (hb : Bytes xs) (ha0 : -9223372036854775808 ≤ at_) (ha1 : at_ ≤ 9223372036854775807) (h0 : 0 ≤ by_) (h1 : by_ < 256) :
    Calls Try.prog 7 #[.slice A n c, .int .i64 at_, .int .u8 by_] w fun e w' => e = .returned (.bool true) ∧ Below w.heap.size w w' := by
  have H := Aside0.mk h
  clear h
  go_enter Try.func7, Try.ntmps7
  go_wp2_with fail
  refine (few_new A n c xs 40 _ H.out hc hb (by omega) (by omega)).mono ?_
  rintro e w1 ⟨B, d, Y, rfl, EY, bY, OY, hd, lY, RY, hB⟩
  simp only [Int.reduceToNat] at lY
  have hTI : TnI w B Y.length d Y w1 := ⟨rfl, bY, OY.out, hB⟩
  generalize Y.length = m at *
  clear EY H RY OY hB bY
  go_wp2
  go_loopw [8] (fun i wr => ∃ (j : Nat) (X : List Int), j ≤ m ∧ i = .int .i64 j ∧ TnI w B m d X wr) (fun i _ => m - (intOf i).toNat)
  case atStart => exact ⟨0, Y, by omega, rfl, hTI⟩
  case round =>
    clear hTI
    obtain ⟨j, X, hj, rfl, hI⟩ := hrel
    have HI := Aside0.mk hI
    clear hI
    by_cases hlt : j < m
    · obtain ⟨g, cap, hv, hg1, hg2⟩ := OwB.place HI.out.own (by rw [HI.out.len]; omega)
      obtain ⟨rfl, _, rfl⟩ : B = some ⟨g, 0, none⟩ ∧ m = X.length ∧ d = cap := by simpa using hv
      clear hv
      have hown : OwB wr w.heap.size (.slice (some ⟨g, 0, none⟩) X.length d) X := by rw [HI.out.len]; exact HI.out.own
      obtain ⟨hcell, hfz⟩ := OwB.cell hown (j : Int) (by omega) (by rw [HI.out.len]; omega)
      clear hown
      rw [Int.toNat_natCast] at hcell hfz
      have hbj := HI.out.by_.at_ (j : Int)
      have e1 : (rd X (j : Int)).tmod 3 = rd X (j : Int) % 3 := Int.tmod_eq_emod_of_nonneg hbj.1
      generalize hr : rd X (j : Int) = r at *
      clear hr
      go_wp2
      go_roundw
      case rel =>
        refine ⟨j + 1, _, by omega, by go_num, HI.out.put hg1 j ?_ ?_⟩
        all_goals omega
      case measure => simp [intOf]; omega
    · obtain rfl : j = m := by omega
      obtain rfl : X.length = j := HI.out.len
      have GX := Aside0.mk (OwB.gv (m := 40) HI.out.own HI.out.by_ lY)
      have HBw := Aside0.mk HI.out.below
      clear HI hd
      have hsl := seal_len X
      have hsb := sealB_le X
      by_cases hp : isP X
      · have hne : ¬ ((sealL X).length : Int) = (X.length : Int) + 10 := by
          have : sealB X = packL X := by unfold sealB; rw [if_pos hp]
          rw [hsl, this]
          unfold isP at hp
          omega
        have hgt : (9 : Int) < ((sealL X).length : Int) := by omega
        clear hsl
        go_wp2_with (first
          | (go_at_call 10; (with_reducible refine at_cw wr ?_); refine (seal_calls B X.length d X wr GX.out.rd GX.out.at_ GX.out.by_ GX.out.le (by omega)).mono ?_; rintro e w5 ⟨v, rfl, hQ, hB⟩; obtain ⟨AP, cP, rfl, hcP, hrP⟩ := hQ.reads; have L5 : Aside0 (Later wr w5) := ⟨hB⟩; clear hQ hB hrP)
          | (go_at_call 15; (with_reducible refine at_cw w5 ?_); refine (lives_calls w5).mono ?_; rintro e w6 ⟨rfl, hB⟩; have L6 : Aside0 (Later w5 w6) := ⟨hB⟩; clear hB))
        (try simp only [Exit.inBlock, Exit.then])
        refine bodyPost_ret (results_tmp rfl _ _ _) rfl ⟨rfl, ?_⟩
        exact below_tr' HBw.out (Later.trans L5.out L6.out)
      · have hsn : (sealL X).length = X.length + 10 := by
          have : sealB X = X := by unfold sealB; rw [if_neg hp]
          rw [hsl, this, Nat.add_comm]
        have HSN := Aside0.mk hsn
        have HP := Aside0.mk hp
        clear hsl hsb hsn hp
        go_upto_if 48 with (go_at_call 10; (with_reducible refine at_cw wr ?_); refine (seal_calls B X.length d X wr GX.out.rd GX.out.at_ GX.out.by_ GX.out.le (by omega)).mono ?_; rintro e w5 ⟨v, rfl, hQ, hB⟩; obtain ⟨g, cP, rfl, hg1, hg2⟩ := hQ.place (by rw [HSN.out]; omega); have HB5 := Aside0.mk hB; have HO5 := Aside0.mk hQ; rw [HSN.out]; clear hQ hB)
        go_cut [2] (fun v2 w' => ∃ y : Int, 0 < y ∧ y < 256 ∧ v2 = .int .u8 y ∧ w5 = w')
        case first =>
          by_cases hz : by_ = 0
          · subst hz
            go_wp2
            go_meet
            case rel => exact ⟨1, by omega, by omega, rfl, rfl⟩
          · have hz' : (by_ == 0) = false := by simp [hz]
            go_wp2
            go_meet
            case rel => exact ⟨by_, by omega, h1, rfl, rfl⟩
        case rest =>
          obtain ⟨y, hy0, hy1, rfl, rfl⟩ := hcut
          go_wp2_with fail
          refine (around_calls at_ ((X.length : Int) + 4) _ ha0 ha1 (by omega) (by omega)).mono ?_
          rintro e w6 ⟨rfl, rfl⟩
          obtain ⟨k0, k1⟩ := around_range at_ ((X.length : Int) + 4) (by omega)
          generalize around at_ ((X.length : Int) + 4) = kI at *
          obtain ⟨k, rfl⟩ := Int.eq_ofNat_of_zero_le k0
          obtain ⟨hcell, hfz⟩ := OwB.cell (xs := sealL X) HO5.out ((6 + k : Nat) : Int) (by omega) (by rw [HSN.out]; omega)
          rw [Int.toNat_natCast] at hcell hfz
          have hrk := (seal_bytes GX.out.by_).at_ ((6 + k : Nat) : Int)
          have hne := xor_ne (rd (sealL X) ((6 + k : Nat) : Int)) y hrk ⟨hy0, hy1⟩
          have hxr := u8_xor_range (rd (sealL X) ((6 + k : Nat) : Int)) y hrk.1 hrk.2 (by omega) hy1
          have HT := Aside0.mk (open_turned GX.out.by_ lY HP.out k (by omega) hxr hne)
          have hO4 := HO5.out.store ((6 + k : Nat) : Int) (Go.bits .xor .u8 (rd (sealL X) ((6 + k : Nat) : Int)) y)
          rw [Int.toNat_natCast] at hO4
          have HR4 := Aside0.mk hO4.parts.2
          have HY4 := Aside0.mk ((seal_bytes GX.out.by_).set (6 + k) hxr.1 hxr.2)
          have hB4 := Aside0.mk (HB5.out.setCell (p := ⟨g, 6 + k, none⟩) hg1 (.int .u8 (Go.bits .xor .u8 (rd (sealL X) ((6 + k : Nat) : Int)) y)))
          have hcd := (OwB.parts HO5.out).1
          rw [HSN.out] at HR4 hcd
          have htn : (6 + (k : Int)).toNat = 6 + k := by omega
          generalize hq : Go.bits .xor .u8 (rd (sealL X) ((6 + k : Nat) : Int)) y = q at *
          generalize hb' : rd (sealL X) ((6 + k : Nat) : Int) = bk at *
          clear hb'
          clear hO4 hne hxr hrk
          go_wp2_with (first
            | (go_at_call 11; refine (open_calls (some ⟨g, 0, none⟩) (X.length + 10) cP ((sealL X).set (6 + k) q) 100 _ HR4.out HY4.out hcd (by omega)).mono ?_; rw [HT.out]; rintro e w7 hp; obtain ⟨AX, dX, rfl, _, hrX, hbX, hdX, hB⟩ := hp.get; have L7 := Aside0.mk hB; clear hp hB hrX)
            | (go_at_call 15; (with_reducible refine at_cw w7 ?_); refine (lives_calls w7).mono ?_; rintro e w8 ⟨rfl, hB⟩; have L8 : Aside0 (Later w7 w8) := ⟨hB⟩; clear hB))
          (try simp only [Exit.inBlock, Exit.then])
          refine bodyPost_ret (results_tmp rfl _ _ _) rfl ⟨rfl, ?_⟩
          exact below_tr' HBw.out (Below.trans hB4.out (Below.mono (Later.trans L7.out L8.out) (by have := HB5.out.size; simp; omega)))
end Go.Proofs.Ytcbcoaafdggniaa
