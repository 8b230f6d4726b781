/- Contract: lighterageref05.Made. Conditions: what its numbers read. -/
import Derived.Test.YtcbcoaafdggniaaG2
import Derived.Test.YtcbcoaafdggniaaG1
namespace Go.Proofs.Ytcbcoaafdggniaa
open Go.RowKit Go.Proofs.YtcbcoaafdggniaaW.PrintWords Go.Proofs.YtcbcoaafdggniaaW.PrintMore
set_option linter.unusedVariables false
set_option linter.unusedSimpArgs false
/-- Numbers that are read. -/
abbrev RdN (w : World) (A : Option Addr) (n : Nat) (xs : List Int) : Prop := (Kd.int .i64).C w A n xs
theorem rdN_at {w : World} {ad : Addr} {n : Nat} {xs : List Int} (h : RdN w (some ad) n xs) (i : Nat) (hi : i < n) : w.cell? (ad.add i) = some (.int .i64 (xs.getD i 0)) := by
  obtain ⟨_, _, hc⟩ := Kd.reads_of_C (d := (0 : Int)) h
  obtain ⟨ad', he, hx⟩ := hc (by omega)
  injection he with he
  subst he
  exact hx i hi
theorem tmod_low (x m : Int) (hm : 0 < m) (hx : x ≤ 0) : -m < x.tmod m ∧ x.tmod m ≤ 0 := by
  have h := Int.neg_tmod (-x) m
  rw [Int.neg_neg] at h
  rw [h, Int.tmod_eq_emod_of_nonneg (by omega)]
  have h1 := Int.emod_nonneg (-x) (show m ≠ 0 by omega)
  have h2 := Int.emod_lt_of_pos (-x) hm
  omega
theorem tmod_high (x m : Int) (hm : 0 < m) (hx : 0 ≤ x) : 0 ≤ x.tmod m ∧ x.tmod m < m := by
  rw [Int.tmod_eq_emod_of_nonneg hx]
  exact ⟨Int.emod_nonneg x (by omega), Int.emod_lt_of_pos x hm⟩
structure MadeI (w : World) (v : Value) (xs : List Int) (wr : World) : Prop where
  own : OwB wr w.heap.size v xs
  by_ : Bytes xs
  below : Below w.heap.size w wr
set_option maxRecDepth 20000 in
set_option maxHeartbeats 1600000 in
theorem made_calls (A : Option Addr) (N c : Nat) (l : List Int) (w : World) (h : RdN w A N l) :
    Calls Try.prog 9 #[.slice A N c] w fun e w' => ∃ B d xs, e = .returned (.slice B xs.length d) ∧ Bytes xs ∧ Aside0 (OwB w' w.heap.size (.slice B xs.length d) xs) ∧ xs.length ≤ d ∧ xs.length ≤ 359 ∧ Aside0 (RdB w' B xs.length xs) ∧ Below w.heap.size w w' := by
  have HX := Aside0.mk h
  obtain ⟨_, hmax, _⟩ := Kd.reads_of_C (d := (0 : Int)) h
  clear h
  go_enter Try.func9, Try.ntmps9
  go_wp2
  go_loopw [3, 4, 5, 6, 7, 8] (fun v i _ _ _ _ wr => ∃ (j : Nat) (xs : List Int), j ≤ 40 ∧ i = .int .i64 j ∧ xs.length ≤ 359 ∧ MadeI w v xs wr) (fun _ i _ _ _ _ _ => 40 - (intOf i).toNat)
  case atStart => exact ⟨0, [], by omega, rfl, by simp, Kd.R_nil _ _ _ _ _, Bytes.nil, Below.refl _ _⟩
  case round =>
    obtain ⟨j, xs, hj, rfl, hx9, hM⟩ := hrel
    obtain ⟨B, d, rfl, hd, hr⟩ := hM.own.reads
    have HM := Aside0.mk hM
    have HR := Aside0.mk hr
    clear hM hr
    by_cases hjN : j < N
    · have hjI : (j : Int) < (N : Int) := by omega
      by_cases hj4 : j < 40
      · have hj4I : (j : Int) < 40 := by omega
        by_cases hx3 : xs.length < 300
        · have hx3I : (xs.length : Int) < 300 := by omega
          obtain ⟨ad, ea⟩ : ∃ ad, A = some ad := by obtain ⟨ad, e, _⟩ := (Kd.reads_of_C (d := (0 : Int)) HX.out).2.2 (by omega); exact ⟨ad, e⟩
          subst ea
          have hcell := rdN_at (Kd.C_below HX.out HM.out.below) j hjN
          generalize hxe : l.getD j 0 = x at *
          have hby := HM.out.by_
          by_cases hx0 : 0 ≤ x
          · obtain ⟨h40, h41⟩ := tmod_high x 4 (by omega) hx0
            have hr0 : ¬ x.tmod 4 < 0 := by omega
            go_wp2_with (at_builtin; refine appB (w0 := w) w.heap.size rfl (.tmp 41) (.tmp 45) rfl _ _ _ rfl rfl HM.out.own HM.out.below HM.out.below.size (by omega) ?_; intro v5 w5 hO5 hB5 _ _)
            go_roundw
            case rel => exact ⟨j + 1, _, by omega, by go_num, by rw [List.length_append, List.length_singleton]; omega, hO5, hby.append (Bytes.one (by omega) (by omega)), hB5⟩
            case measure => simp [intOf]; omega
          · obtain ⟨h40, h41⟩ := tmod_low x 4 (by omega) (by omega)
            by_cases hz : xs.length = 0
            · have hzI : (xs.length : Int) = 0 := by omega
              by_cases hr0 : x.tmod 4 < 0
              · go_wp2_with (at_builtin; refine appB (w0 := w) w.heap.size rfl (.tmp 41) (.tmp 45) rfl _ _ _ rfl rfl HM.out.own HM.out.below HM.out.below.size (by omega) ?_; intro v5 w5 hO5 hB5 _ _)
                go_roundw
                case rel => exact ⟨j + 1, _, by omega, by go_num, by rw [List.length_append, List.length_singleton]; omega, hO5, hby.append (Bytes.one (by omega) (by omega)), hB5⟩
                case measure => simp [intOf]; omega
              · have hre : x.tmod 4 = 0 := by omega
                go_wp2_with (at_builtin; refine appB (w0 := w) w.heap.size rfl (.tmp 41) (.tmp 45) rfl _ _ _ rfl rfl HM.out.own HM.out.below HM.out.below.size (by omega) ?_; intro v5 w5 hO5 hB5 _ _)
                go_roundw
                case rel => exact ⟨j + 1, _, by omega, by go_num, by rw [List.length_append, List.length_singleton]; omega, hO5, hby.append (Bytes.one (by omega) (by omega)), hB5⟩
                case measure => simp [intOf]; omega
            · have hzI : ¬ (xs.length : Int) = 0 := by omega
              have hzb : ((xs.length : Int) == 0) = false := by rw [beq_eq_false_iff_ne]; omega
              clear h40 h41
              obtain ⟨h60, h61⟩ := tmod_low x 60 (by omega) (by omega)
              obtain ⟨m, hm⟩ : ∃ m : Nat, -(x.tmod 60) = m := ⟨(-(x.tmod 60)).toNat, by omega⟩
              have hwm : wrap64 (-(x.tmod 60)) = (m : Int) := by rw [hm]; unfold wrap64; omega
              obtain ⟨hd0, hd1⟩ := tmod_high (m : Int) (xs.length : Int) (by omega) (by omega)
              obtain ⟨q, hq⟩ := Int.eq_ofNat_of_zero_le hd0
              rw [hq] at hd1
              have hqw : wrap64 (1 + (q : Int)) = 1 + (q : Int) := by unfold wrap64; omega
              go_wp2
              have hm59 : m ≤ 59 := by omega
              clear hd0 hcell hwm hqw hq h60 h61 hm hmax
              obtain ⟨wa, rfl⟩ : ∃ wa, wa = wr := ⟨_, rfl⟩
              go_loopw [3, 8] (fun v k wq => ∃ (t : Nat) (ys : List Int), t ≤ m ∧ k = .int .i64 t ∧ ys.length = xs.length + t ∧ MadeI w v ys wq) (fun _ k _ => m - (intOf k).toNat)
              case atStart => exact ⟨0, xs, by omega, rfl, rfl, HM.out⟩
              case round =>
                obtain ⟨t, ys, ht, rfl, hys, hMy⟩ := hrel
                obtain ⟨B2, d2, rfl, hd2, hr2⟩ := hMy.own.reads
                have HMy := Aside0.mk hMy
                have HR2 := Aside0.mk hr2
                have hby2 := hMy.by_
                have HYS := Aside0.mk hys
                have hyl : ys.length ≤ 418 := by omega
                clear hMy hr2
                by_cases htm : t < m
                · have hp' : xs.length ≤ ys.length := by omega
                  clear hys
                  have htI : (t : Int) < (m : Int) := by omega
                  obtain ⟨p, hp⟩ : ∃ p : Nat, p + (q + 1) = ys.length := ⟨ys.length - (q + 1), by omega⟩
                  have hpI : (ys.length : Int) - (1 + (q : Int)) = (p : Int) := by omega
                  have hpl : p < ys.length := by omega
                  obtain ⟨ay, ey⟩ : ∃ ad, B2 = some ad := by obtain ⟨ad, e, _⟩ := Kd.at_int HR2.out 0 (by omega) (by omega); exact ⟨ad, e⟩
                  subst ey
                  have hcy := rdB_at HR2.out p hpl
                  have hxy := hby2.at_ (p : Int)
                  generalize rd ys (p : Int) = y at *
                  go_wp2_with (at_builtin; refine appB (w0 := w) w.heap.size rfl (.tmp 63) (.tmp 71) rfl _ _ _ rfl rfl HMy.out.own HMy.out.below HMy.out.below.size (by omega) ?_; intro v5 w5 hO5 hB5 _ _)
                  go_roundw
                  case rel => exact ⟨t + 1, _, by omega, by go_num, by rw [List.length_append, List.length_singleton, HYS.out]; omega, hO5, hby2.append (Bytes.one hxy.1 hxy.2), hB5⟩
                  case measure => simp [intOf]; omega
                · have htI : ¬ (t : Int) < (m : Int) := by omega
                  go_wp2
                  go_roundw
                  case rel => exact ⟨j + 1, _, by omega, by go_num, by omega, HMy.out⟩
                  case measure => simp [intOf]; omega
        · have hx3I : ¬ (xs.length : Int) < 300 := by omega
          go_wp2
          (try simp only [Exit.inBlock, Exit.then])
          refine bodyPost_ret (results_tmp rfl _ _ _) rfl ?_
          exact ⟨B, d, xs, rfl, HM.out.by_, ⟨HM.out.own⟩, hd, hx9, HR, HM.out.below⟩
      · have hj4I : ¬ (j : Int) < 40 := by omega
        go_wp2
        (try simp only [Exit.inBlock, Exit.then])
        refine bodyPost_ret (results_tmp rfl _ _ _) rfl ?_
        exact ⟨B, d, xs, rfl, HM.out.by_, ⟨HM.out.own⟩, hd, hx9, HR, HM.out.below⟩
    · have hjI : ¬ (j : Int) < (N : Int) := by omega
      go_wp2
      (try simp only [Exit.inBlock, Exit.then])
      refine bodyPost_ret (results_tmp rfl _ _ _) rfl ?_
      exact ⟨B, d, xs, rfl, HM.out.by_, ⟨HM.out.own⟩, hd, hx9, HR, HM.out.below⟩
end Go.Proofs.Ytcbcoaafdggniaa
