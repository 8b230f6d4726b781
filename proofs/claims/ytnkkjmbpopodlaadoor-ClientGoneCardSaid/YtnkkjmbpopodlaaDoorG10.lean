/- Plain lemmas and contracts, several texts in one: Frm1, Frm2, Frm3, Frm4, Frm5, Frm6. Conditions: their own. -/
import Derived.Test.YtnkkjmbpopodlaaDoorG2
import Derived.Test.YtnkkjmbpopodlaaDoorG1
import Derived.WalkSmall
namespace Go.Proofs.YtnkkjmbpopodlaaDoor
open Go.RowKit Go.Proofs.YtnkkjmbpopodlaaDoorW.PrintWords Go.Proofs.YtnkkjmbpopodlaaDoorW.PrintMore
set_option linter.unusedVariables false
set_option linter.unusedSimpArgs false
theorem le32_cells (n : Nat) (hn : n < 4294967296) : #[Value.int .u8 ((n : Int) % 256), Value.int .u8 ((n : Int) / 256 % 256), Value.int .u8 ((n : Int) / 65536 % 256), Value.int .u8 ((n : Int) / 16777216)] = ((le32 n).map (Value.int .u8)).toArray := by
  unfold le32
  simp only [List.map_cons, List.map_nil]
  rw [show ((n % 256 : Nat) : Int) = (n : Int) % 256 by omega, show ((n / 256 % 256 : Nat) : Int) = (n : Int) / 256 % 256 by omega, show ((n / 65536 % 256 : Nat) : Int) = (n : Int) / 65536 % 256 by omega, show ((n / 16777216 % 256 : Nat) : Int) = (n : Int) / 16777216 by omega]
theorem number_calls (n : Nat) (hn : n < 4294967296) (w : World) :
    Calls Tryd.prog 74 #[.int .u32 (n : Int)] w fun e w' => e = .returned (.slice (some ⟨w.heap.size, 0, none⟩) 4 4) ∧ w' = w.alloc (.cells ((le32 n).map (Value.int .u8)).toArray 5) := by
  go_enter Tryd.func74, Tryd.ntmps74
  go_wp2
  refine bodyPost_ret (results_tmp rfl _ _ _) rfl ?_
  exact ⟨rfl, by rw [le32_cells n hn]⟩
theorem rnumber_calls (n : Nat) (hn : n < 4294967296) (w : World) :
    Calls Tryd.prog 36 #[.int .i64 (n : Int)] w fun e w' => e = .returned (.slice (some ⟨w.heap.size, 0, none⟩) 4 4) ∧ w' = w.alloc (.cells ((le32 n).map (Value.int .u8)).toArray 5) := by
  go_enter Tryd.func36, Tryd.ntmps36
  go_wp2
  refine bodyPost_ret (results_tmp rfl _ _ _) rfl ?_
  exact ⟨rfl, by rw [le32_cells n hn]⟩
end Go.Proofs.YtnkkjmbpopodlaaDoor
namespace Go.Proofs.YtnkkjmbpopodlaaDoor
open Go.RowKit Go.Proofs.YtnkkjmbpopodlaaDoorW.PrintWords Go.Proofs.YtnkkjmbpopodlaaDoorW.PrintMore
set_option linter.unusedVariables false
set_option linter.unusedSimpArgs false
/-- n<<8 | x. -/
theorem or_byte (n x : Nat) (hn : n < 16777216) (hx : x < 256) : Go.bits .or .i64 ((n : Int) * 256) (x : Int) = ((n * 256 + x : Nat) : Int) := by
  have h := Nat.shiftLeft_add_eq_or_of_lt (i := 8) (b := x) (by omega) n
  rw [Nat.shiftLeft_eq, show 2 ^ 8 = 256 from rfl] at h
  rw [h]
  simp only [Go.bits]
  rw [BitVec.toNat_or, BitVec.toNat_ofInt, BitVec.toNat_ofInt]
  have hb : ((2 ^ IntKind.i64.bits : Nat) : Int) = 18446744073709551616 := by decide
  have e1 : (((n : Int) * 256) % ((2 ^ IntKind.i64.bits : Nat) : Int)).toNat = n * 256 := by rw [hb]; omega
  have e2 : ((x : Int) % ((2 ^ IntKind.i64.bits : Nat) : Int)).toNat = x := by rw [hb]; omega
  rw [e1, e2, ← h, IntKind.wrap_i64]
  omega
/-- The number that a frame tells, if it is one. -/
def lenL (f : List Int) : Option Nat := if f.length < 10 ∨ rd f 0 ≠ 76 ∨ 1 < rd f 1 then none else some ((rd f 2).toNat + 256 * (rd f 3).toNat + 65536 * (rd f 4).toNat + 16777216 * (rd f 5).toNat)
def accL (f : List Int) : Nat → Nat
  | 0 => 0
  | j + 1 => accL f j * 256 + (rd f ((5 - j : Nat) : Int)).toNat
theorem accL_lt {f : List Int} (hb : Bytes f) : ∀ j, accL f j < 256 ^ j
  | 0 => by show 0 < 1; omega
  | j + 1 => by
    have h1 := accL_lt hb j
    have h2 := hb.at_ ((5 - j : Nat) : Int)
    have h3 : (rd f ((5 - j : Nat) : Int)).toNat < 256 := by omega
    have h4 : (256 : Nat) ^ (j + 1) = 256 ^ j * 256 := Nat.pow_succ ..
    show accL f j * 256 + (rd f ((5 - j : Nat) : Int)).toNat < 256 ^ (j + 1)
    omega
theorem accL_4 (f : List Int) : accL f 4 = (rd f 2).toNat + 256 * (rd f 3).toNat + 65536 * (rd f 4).toNat + 16777216 * (rd f 5).toNat := by
  show (((0 * 256 + (rd f 5).toNat) * 256 + (rd f 4).toNat) * 256 + (rd f 3).toNat) * 256 + (rd f 2).toNat = _
  omega
def lenV (f : List Int) : Value := match lenL f with
  | some n => .tuple #[.int .i64 (n : Int), .int .i64 0]
  | none => .tuple #[.int .i64 0, .int .i64 2]
theorem lenV_none {f : List Int} (h : lenL f = none) : lenV f = .tuple #[.int .i64 0, .int .i64 2] := by unfold lenV; rw [h]
set_option maxRecDepth 20000 in
theorem length_calls (A : Option Addr) (N c : Nat) (f : List Int) (w : World) (h : RdB w A N f) (hb : Bytes f) (hN : N ≤ 1099511627776) :
    Calls Tryd.prog 69 #[.slice A N c] w fun e w' => e = .returned (lenV f) ∧ w = w' := by
  obtain rfl : f.length = N := h.1
  have HX := Aside0.mk h
  clear h
  by_cases h10 : f.length < 10
  · have hI : (f.length : Int) < 10 := by omega
    rw [lenV_none (by unfold lenL; rw [if_pos (.inl h10)])]
    go_enter Tryd.func69, Tryd.ntmps69
    go_wp2
    refine bodyPost_ret (results_tmp2 rfl _ _ _) rfl ⟨rfl, rfl⟩
  · have hI : ¬ (f.length : Int) < 10 := by omega
    obtain ⟨ad, ea⟩ : ∃ ad, A = some ad := by obtain ⟨ad, e, _⟩ := Kd.at_int HX.out 0 (by omega) (by omega); exact ⟨ad, e⟩
    subst ea
    have hc0 : w.cell? ad = some (.int .u8 (rd f 0)) := by
      have := rdB_at HX.out 0 (by omega)
      rwa [show ad.add 0 = ad from if_pos rfl] at this
    have hc1 : w.cell? ⟨ad.block, ad.off + 1, none⟩ = some (.int .u8 (rd f 1)) := rdB_at HX.out 1 (by omega)
    have hp0 : (0 : Int) < (f.length : Int) := by omega
    have hp1 : (1 : Int) < (f.length : Int) := by omega
    by_cases h76 : rd f 0 = 76
    · by_cases h1 : 1 < rd f 1
      · rw [lenV_none (by unfold lenL; rw [if_pos (.inr (.inr h1))])]
        rw [h76] at hc0
        go_enter Tryd.func69, Tryd.ntmps69
        go_wp2
        refine bodyPost_ret (results_tmp2 rfl _ _ _) rfl ⟨rfl, rfl⟩
      · have HL : Aside0 (lenL f = some (accL f 4)) := ⟨by unfold lenL; rw [if_neg (by omega), accL_4]⟩
        have HV : Aside0 (lenV f = .tuple #[.int .i64 ((accL f 4 : Nat) : Int), .int .i64 0]) := ⟨by unfold lenV; rw [HL.out]⟩
        rw [HV.out]
        rw [h76] at hc0
        have HAL := Aside0.mk (accL_lt hb)
        clear HL HV
        go_enter Tryd.func69, Tryd.ntmps69
        go_wp2
        clear hc0 hc1
        go_loopw [4, 5] (fun n i wr => ∃ j : Nat, j ≤ 4 ∧ n = .int .i64 ((accL f j : Nat) : Int) ∧ i = .int .i64 (5 - (j : Int)) ∧ w = wr) (fun _ i _ => (intOf i).toNat)
        case atStart => exact ⟨0, by omega, rfl, rfl, rfl⟩
        case round =>
          obtain ⟨j, hj, rfl, rfl, rfl⟩ := hrel
          by_cases hj4 : j < 4
          · have hgI : (1 : Int) < 5 - (j : Int) := by omega
            have hlt := HAL.out j
            have hac : accL f j < 16777216 := by
              have : (256 : Nat) ^ j ≤ 256 ^ 3 := Nat.pow_le_pow_right (by omega) (by omega)
              omega
            have hs : accL f (j + 1) = accL f j * 256 + (rd f ((5 - j : Nat) : Int)).toNat := rfl
            have hx := hb.at_ ((5 - j : Nat) : Int)
            obtain ⟨x, hx0⟩ := Int.eq_ofNat_of_zero_le hx.1
            rw [hx0, Int.toNat_natCast] at hs
            have HS := Aside0.mk hs
            have hcell := rdB_at HX.out (5 - j) (by omega)
            rw [hx0] at hcell hx
            have hor := or_byte (accL f j) x hac (by omega)
            rw [← hs] at hor
            have hi0 : (0 : Int) ≤ 5 - (j : Int) := by omega
            have hi1 : 5 - (j : Int) < (f.length : Int) := by omega
            have hi2 : (5 - (j : Int)).toNat = 5 - j := by omega
            clear hs hx0 hlt hj HAL
            generalize hbq : accL f (j + 1) = b at *
            have HBQ := Aside0.mk hbq
            clear hbq
            generalize accL f j = a at *
            go_wp2
            go_roundw
            case rel => exact ⟨j + 1, by omega, by rw [HBQ.out], by go_num, trivial⟩
            case measure => simp [intOf]; omega
          · obtain rfl : j = 4 := by omega
            have hgI : ¬ (1 : Int) < 5 - ((4 : Nat) : Int) := by omega
            go_wp2
            (try simp only [Exit.inBlock, Exit.then])
            refine bodyPost_ret (results_tmp2 rfl _ _ _) rfl ⟨rfl, rfl⟩
    · have h76I : ¬ rd f 0 = 76 := h76
      rw [lenV_none (by unfold lenL; rw [if_pos (.inr (.inl h76))])]
      go_enter Tryd.func69, Tryd.ntmps69
      go_wp2
      refine bodyPost_ret (results_tmp2 rfl _ _ _) rfl ⟨rfl, rfl⟩
end Go.Proofs.YtnkkjmbpopodlaaDoor
namespace Go.Proofs.YtnkkjmbpopodlaaDoor
open Go.RowKit Go.Proofs.YtnkkjmbpopodlaaDoorW.PrintWords Go.Proofs.YtnkkjmbpopodlaaDoorW.PrintMore
set_option linter.unusedVariables false
set_option linter.unusedSimpArgs false
theorem lenL_some {f : List Int} {n : Nat} (h : lenL f = some n) : 10 ≤ f.length ∧ rd f 0 = 76 ∧ rd f 1 ≤ 1 ∧ lenV f = .tuple #[.int .i64 (n : Int), .int .i64 0] := by
  have hv : lenV f = .tuple #[.int .i64 (n : Int), .int .i64 0] := by unfold lenV; rw [h]
  unfold lenL at h
  split at h
  · cases h
  · rename_i hn
    exact ⟨by omega, by omega, by omega, hv⟩
def packedB (f : List Int) : Bool := match lenL f with
  | some _ => rd f 1 == 1
  | none => false
theorem packed_calls (A : Option Addr) (N c : Nat) (f : List Int) (w : World) (h : RdB w A N f) (hb : Bytes f) (hN : N ≤ 1099511627776) :
    Calls Tryd.prog 71 #[.slice A N c] w fun e w' => e = .returned (.bool (packedB f)) ∧ w = w' := by
  obtain rfl : f.length = N := h.1
  have HX := Aside0.mk h
  clear h
  rcases hl : lenL f with _ | n
  · have HV := Aside0.mk (lenV_none hl)
    rw [show packedB f = false by unfold packedB; rw [hl]]
    clear hl
    go_enter Tryd.func71, Tryd.ntmps71
    go_wp2_with (go_at_call 69; (with_reducible refine at_cw w ?_); refine (length_calls A f.length c f w HX.out hb hN).mono ?_; rw [HV.out]; rintro e u0 ⟨rfl, rfl⟩)
    (try simp only [Exit.inBlock, Exit.then])
    refine bodyPost_ret (results_tmp rfl _ _ _) rfl ⟨rfl, rfl⟩
  · obtain ⟨h10, _, _, hv⟩ := lenL_some hl
    have HV := Aside0.mk hv
    rw [show packedB f = (rd f 1 == 1) by unfold packedB; rw [hl]]
    obtain ⟨ad, ea⟩ : ∃ ad, A = some ad := by obtain ⟨ad, e, _⟩ := Kd.at_int HX.out 0 (by omega) (by omega); exact ⟨ad, e⟩
    subst ea
    have hc1 : w.cell? ⟨ad.block, ad.off + 1, none⟩ = some (.int .u8 (rd f 1)) := rdB_at HX.out 1 (by omega)
    have hp1 : (1 : Int) < (f.length : Int) := by omega
    clear hl hv
    go_enter Tryd.func71, Tryd.ntmps71
    go_wp2_with (go_at_call 69; (with_reducible refine at_cw w ?_); refine (length_calls (some ad) f.length c f w HX.out hb hN).mono ?_; rw [HV.out]; rintro e u0 ⟨rfl, rfl⟩)
    (try simp only [Exit.inBlock, Exit.then])
    refine bodyPost_ret (results_tmp rfl _ _ _) rfl ⟨rfl, rfl⟩
end Go.Proofs.YtnkkjmbpopodlaaDoor
namespace Go.Proofs.YtnkkjmbpopodlaaDoor
open Go.RowKit Go.Proofs.YtnkkjmbpopodlaaDoorW.PrintWords Go.Proofs.YtnkkjmbpopodlaaDoorW.PrintMore
set_option linter.unusedVariables false
set_option linter.unusedSimpArgs false
def lenI (f : List Int) : Int := match lenL f with
  | some n => (n : Int)
  | none => -1
end Go.Proofs.YtnkkjmbpopodlaaDoor
namespace Go.Proofs.YtnkkjmbpopodlaaDoor
open Go.RowKit Go.Proofs.YtnkkjmbpopodlaaDoorW.PrintWords Go.Proofs.YtnkkjmbpopodlaaDoorW.PrintMore
set_option linter.unusedVariables false
set_option linter.unusedSimpArgs false
theorem rsum6_calls (A : Option Addr) (N c : Nat) (xs : List Int) (w : World) (h : RdB w A N xs) (hb : Bytes xs) (hN : N ≤ 1099511627776) :
    Calls Tryd.prog 37 #[.slice A N c] w fun e w' => ∃ B d, e = .returned (.slice B 4 d) ∧ RdB w' B 4 (le32 (crc 0 xs)) ∧ Below w.heap.size w w' := by
  obtain rfl : xs.length = N := h.1
  have HX := Aside0.mk h
  clear h
  go_enter Tryd.func37, Tryd.ntmps37
  go_wp2_with (go_at_call 40; (with_reducible refine at_cw w ?_); refine (rput_calls A xs.length c xs w HX.out hb (by omega)).mono ?_; rintro e w1 ⟨v, rfl, hO, hB⟩; obtain ⟨B, d, rfl, hd, hr⟩ := hO.reads; have hl : (cput xs).length = xs.length + 4 := (by simp [cput, le32]); have hct := cutFrom hr hd (xs.length : Int) (by omega) (by omega); rw [Int.toNat_natCast, hl, show xs.length + 4 - xs.length = 4 by omega, show (cput xs).drop xs.length = le32 (crc 0 xs) by unfold cput; rw [List.drop_left], if_neg (show ¬ d = xs.length by omega)] at hct; obtain ⟨hcut, hr4⟩ := hct; have HR4 := Aside0.mk hr4; have HB := Aside0.mk hB; rw [hl]; clear hO hB hr hr4)
  (try simp only [Exit.inBlock, Exit.then])
  refine bodyPost_ret (results_tmp rfl _ _ _) rfl ⟨_, _, rfl, HR4.out, HB.out⟩
end Go.Proofs.YtnkkjmbpopodlaaDoor
namespace Go.Proofs.YtnkkjmbpopodlaaDoor
open Go.RowKit Go.Proofs.YtnkkjmbpopodlaaDoorW.PrintWords Go.Proofs.YtnkkjmbpopodlaaDoorW.PrintMore
set_option linter.unusedVariables false
set_option linter.unusedSimpArgs false
theorem must_true (x : Int) (w : World) : Calls Tryd.prog 70 #[.bool true, .int .i64 x] w fun e w' => e = .returned (.tuple #[]) ∧ w = w' := by
  go_enter Tryd.func70, Tryd.ntmps70
  go_wp2
  (try simp only [Exit.inBlock, Exit.then])
  refine bodyPost_end (results_none rfl _ _ _) rfl ⟨rfl, rfl⟩
theorem must_false (x : Int) (w : World) : Calls Tryd.prog 70 #[.bool false, .int .i64 x] w fun e w' => e = .panicked [{ v := .iface 119 (.agg #[.int .i64 x]), recovered := false }] ∧ w = w' := by
  go_enter Tryd.func70, Tryd.ntmps70
  go_wp2
  exact ⟨rfl, rfl, rfl⟩
end Go.Proofs.YtnkkjmbpopodlaaDoor
