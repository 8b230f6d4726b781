/- Contracts of lighterageref03. Conditions: each contract's own. -/
import Derived.Test.YtdfahblgnbdndaaDoorG2
import Derived.Test.YtdfahblgnbdndaaDoorG1
namespace Go.Proofs.YtdfahblgnbdndaaDoor
open Go.RowKit Go.Proofs.YtdfahblgnbdndaaDoorW.PrintWords Go.Proofs.YtdfahblgnbdndaaDoorW.PrintMore
set_option linter.unusedVariables false
set_option linter.unusedSimpArgs false

theorem cs_odd (x : Nat) (h : x < 4294967296) (ho : x % 2 = 1) : Go.bits .xor .u32 ((x : Int) / 2) 2197175160 = ((cs x : Nat) : Int) := by
  rw [u32_xor _ _ (by omega) (by omega) (by omega) (by omega)]
  unfold cs
  rw [if_pos ho]
  congr 2
theorem cs_even (x : Nat) (ho : ¬ x % 2 = 1) : (x : Int) / 2 = ((cs x : Nat) : Int) := by
  unfold cs
  rw [if_neg ho, Nat.xor_zero]
  omega

set_option maxRecDepth 100000 in
/-- ref03.More -/
theorem rmore_calls (s : Int) (A : Option Addr) (n c : Nat) (xs : List Int) (w : World) (h : RdB w A n xs) (hb : Bytes xs) (h0 : 0 ≤ s) (h1 : s < 4294967296) :
    Calls Tryd.prog 47 #[.int .u32 s, .slice A n c] w fun e w' => e = .returned (.int .u32 ((crc s.toNat xs : Nat) : Int)) ∧ w = w' := by
  obtain ⟨s, rfl⟩ := Int.eq_ofNat_of_zero_le h0
  obtain rfl : xs.length = n := h.1
  have HR := Aside0.mk h
  have hmax := h.2.1
  clear h
  rw [Int.toNat_natCast]
  have HX := Aside0.mk (ones_sub s (by omega))
  obtain ⟨x0, hx0⟩ : ∃ x0, x0 = 4294967295 ^^^ s := ⟨_, rfl⟩
  have hx1 : x0 < 4294967296 := by rw [hx0]; exact xor_lt (by omega) (by omega)
  have HX0 := Aside0.mk hx0
  clear hx0
  go_enter Tryd.func47, Tryd.ntmps47
  go_wp2
  clear h0 h1
  go_loopw [5, 6] (fun x i wr => ∃ k : Nat, k ≤ xs.length ∧ i = .int .i64 k ∧ x = .int .u32 ((cm x0 (xs.take k) : Nat) : Int) ∧ w = wr) (fun _ i _ => xs.length - (intOf i).toNat)
  case atStart => exact ⟨0, Nat.zero_le _, rfl, by rw [← HX.out, ← HX0.out]; rfl, rfl⟩
  case round =>
    obtain ⟨k, hk, rfl, rfl, rfl⟩ := hrel
    have r1 : cm x0 (xs.take k) < 4294967296 := cm_lt hx1 (hb.take _)
    by_cases hlt : k < xs.length
    · obtain ⟨ad, e, hx⟩ := Kd.at_int HR.out (k : Int) (by omega) (by omega)
      subst e
      rw [Int.toNat_natCast] at hx
      have hbk := hb.at_ (k : Int)
      have hby := xor_byte (cm x0 (xs.take k)) (rd xs k) r1 hbk
      have r2 : cm x0 (xs.take k) ^^^ (rd xs k).toNat < 4294967296 := xor_lt r1 (by omega)
      obtain ⟨hbk0, hbk1⟩ := hbk
      have HS : Aside0 (cm x0 (xs.take (k + 1)) = css (cm x0 (xs.take k) ^^^ (rd xs k).toNat) 8) := ⟨by rw [take_snoc hlt, cm_snoc]⟩
      generalize hm : cm x0 (xs.take k) ^^^ (rd xs k).toNat = m at *
      generalize hr : rd xs k = b at *
      clear hr
      go_wp2
      clear hm hby
      go_loopw [5, 7] (fun x i wr => ∃ j : Nat, j ≤ 8 ∧ i = .int .i64 j ∧ x = .int .u32 ((css m j : Nat) : Int) ∧ w = wr) (fun _ i _ => 8 - (intOf i).toNat)
      case atStart => exact ⟨0, by omega, rfl, rfl, rfl⟩
      case round =>
        obtain ⟨j, hj, rfl, rfl, rfl⟩ := hrel
        have r3 : css m j < 4294967296 := css_lt r2 j
        by_cases hlt8 : j < 8
        · have HC : Aside0 (css m (j + 1) = cs (css m j)) := ⟨rfl⟩
          generalize hq : css m j = q at *
          clear hq
          by_cases ho : q % 2 = 1
          · have hodd := cs_odd q r3 ho
            have ht : ((q : Int) % 2 == 1) = true := by simp; omega
            clear ho
            go_wp2
            go_roundw
            case rel => exact ⟨j + 1, by omega, by go_num, by rw [HC.out], trivial⟩
            case measure => simp [intOf]; omega
          · have HE := Aside0.mk (cs_even q ho)
            have ht : ((q : Int) % 2 == 1) = false := by simp; omega
            clear ho
            go_wp2
            go_roundw
            case rel => exact ⟨j + 1, by omega, by go_num, by rw [HC.out, ← HE.out], trivial⟩
            case measure => simp [intOf]; omega
        · obtain rfl : j = 8 := by omega
          go_wp2
          go_roundw
          case rel => exact ⟨k + 1, by omega, by go_num, by rw [HS.out], trivial⟩
          case measure => simp [intOf]; omega
    · obtain rfl : k = xs.length := by omega
      have HO := ones_sub _ r1
      have HS : Aside0 (4294967295 ^^^ cm x0 (xs.take xs.length) = crc s xs) := ⟨by rw [List.take_length, HX0.out]; rfl⟩
      have HO' := Aside0.mk HO
      clear HO
      generalize cm x0 (xs.take xs.length) = m at *
      go_wp2
      go_ret
      exact ⟨by rw [← HS.out, HO'.out]; rfl, rfl⟩

/-- ref03.Put -/
theorem rput_calls (A : Option Addr) (n c : Nat) (xs : List Int) (w : World) (h : RdB w A n xs) (hb : Bytes xs) (hn : n ≤ 70368744177664) :
    Calls Tryd.prog 30 #[.slice A n c] w fun e w' => ∃ v, e = .returned v ∧ OwB w' w.heap.size v (cput xs) ∧ Below w.heap.size w w' := by
  have H := Aside0.mk h
  obtain rfl : xs.length = n := h.1
  clear h
  have hs := crc_lt (s := 0) (by omega) hb
  go_enter Tryd.func30, Tryd.ntmps30
  go_wp2_with (first | (go_at_call 47; refine (rmore_calls 0 A _ c xs _ H.out hb (by omega) (by omega)).mono ?_; rintro e w1 ⟨rfl, rfl⟩) | (at_builtin; refine appBs (w0 := w) w.heap.size rfl (.tmp 8) (.tmp 9) rfl (.slice none 0 0) [] xs A _ c rfl rfl (Kd.R_nil _ _ _ _ _) H.out (Below.refl _ _) (Nat.le_refl _) (by simp; omega) ?_; intro v1 w1 hO hB _ _))
  have hO0 : OwB w1 w.heap.size v1 (xs ++ (le32 (crc 0 xs)).take 0) := by
    rw [List.take_zero, List.append_nil]
    simpa using hO
  clear hO hb H
  generalize hS : crc 0 xs = S at *
  have HS := Aside0.mk hS
  clear hS
  go_loopw [3, 4, 5] (fun s v i wr => ∃ k : Nat, k ≤ 4 ∧ i = .int .i64 k ∧ s = .int .u32 ((S / 256 ^ k : Nat) : Int) ∧ OwB wr w.heap.size v (xs ++ (le32 S).take k) ∧ Below w.heap.size w wr) (fun _ _ i _ => 4 - (intOf i).toNat)
  case atStart => exact ⟨0, by omega, rfl, by simp [HS.out], hO0, hB⟩
  case round =>
    clear hO0 hB
    obtain ⟨k, hk, rfl, rfl, hO, hB⟩ := hrel
    have hsz := hB.size
    by_cases hlt : k < 4
    · have HT := Aside0.mk (le32_snoc S k hlt)
      have HL : Aside0 ((xs ++ (le32 S).take k).length < 140737488355328) := ⟨by simp [le32]; omega⟩
      have HQ : Aside0 (((S / 256 ^ k / 256 : Nat) : Int) = ((S / 256 ^ (k + 1) : Nat) : Int)) := ⟨by rw [Nat.div_div_eq_div_mul, Nat.pow_succ]⟩
      have hq : S / 256 ^ k < 4294967296 := Nat.lt_of_le_of_lt (Nat.div_le_self _ _) hs
      generalize hz : S / 256 ^ k = z at *
      clear hz
      go_wp2_with (at_builtin; refine appB (w0 := w) w.heap.size rfl (.tmp 15) (.tmp 19) rfl _ _ _ rfl rfl hO hB hsz HL.out ?_; intro v1 w1 hO1 hB1 _ _)
      go_roundw
      case rel => exact ⟨k + 1, by omega, by go_num, by rw [← HQ.out]; simp, by rw [HT.out, ← List.append_assoc]; exact hO1, hB1⟩
      case measure => simp [intOf]; omega
    · obtain rfl : k = 4 := by omega
      go_wp2
      go_ret
      exact ⟨_, rfl, by rw [cput, HS.out]; exact hO, hB⟩

/-- ref03.Take: a part of what came in. -/
theorem rtake_calls (A : Option Addr) (n c : Nat) (xs : List Int) (w : World) (h : RdB w A n xs) (hc : n ≤ c) (hb : Bytes xs) (hn : n ≤ 70368744177664) :
    Calls Tryd.prog 52 #[.slice A n c] w fun e w' => ∃ B m d, e = .returned (.tuple #[.slice B m d, .int .i64 (ctake xs).2]) ∧ RdB w B m (ctake xs).1 ∧ m ≤ d ∧ Below w.heap.size w w' := by
  have H := Aside0.mk h
  obtain rfl : xs.length = n := h.1
  by_cases h4 : xs.length < 4
  · have E : Aside0 (ctake xs = ([], 2)) := ⟨by unfold ctake; rw [if_pos h4]⟩
    clear h
    go_enter Tryd.func52, Tryd.ntmps52
    go_wp2
    go_ret2
    rw [E.out]
    exact ⟨_, _, _, rfl, Kd.C_nil _ _, by simp, Below.refl _ _⟩
  · obtain ⟨hcut, hrd⟩ := cutTo h hc ((xs.length : Int) - 4) (by omega) (by omega)
    have ej : ((xs.length : Int) - 4).toNat = xs.length - 4 := by omega
    rw [ej] at hrd
    simp only [ej] at hcut
    have HR := Aside0.mk hrd
    have hbt := hb.take (xs.length - 4)
    have HB := Aside0.mk hbt
    have hneq : (((strOfNums (cput (xs.take (xs.length - 4)))).toList == (strOfNums xs).toList)) = decide (cput (xs.take (xs.length - 4)) = xs) := str_beq (cput_bytes hbt) hb
    clear hrd h
    by_cases heq : cput (xs.take (xs.length - 4)) = xs
    all_goals
      first
      | (have E : Aside0 (ctake xs = (xs.take (xs.length - 4), 0)) := ⟨by unfold ctake; rw [if_neg h4, if_pos heq]⟩
         rw [decide_eq_true heq] at hneq)
      | (have E : Aside0 (ctake xs = ([], 7)) := ⟨by unfold ctake; rw [if_neg h4, if_neg heq]⟩
         rw [decide_eq_false heq] at hneq)
      clear heq
      generalize hys : xs.take (xs.length - 4) = ys at *
      clear hys
      go_enter Tryd.func52, Tryd.ntmps52
      go_wp2
      have hwr : IntKind.i64.wrap ((xs.length : Int) - 4) = (xs.length : Int) - 4 := by rw [IntKind.wrap_i64]; omega
      refine seq_start [] (.take 0 (.take 1 (.take 2 (.take 3 (.take 4 (.take 7 (.take 8 (.run 5 (.take 6 (.take 9 .done)))))))))) (by kernel_rfl) (by kernel_rfl) (fun _ _ d _ _ h => by cases d <;> exact h) ?_
      refine seq_take (v := ?_) (a' := ?_) rfl rfl (by rfl) (fun w' hw' => ?_) ?_ ?_
      rotate_left 2
      · go_simp
        with_reducible rfl
      · simp only [Act.put, List.setIfInBounds_toArray, List.set_cons_zero, List.set_cons_succ, Go.Proofs.YtdfahblgnbdndaaDoorW.PrintLast.i64_w, Go.Proofs.YtdfahblgnbdndaaDoorW.PrintLast.i32_w]
        rfl
      refine seq_take (v := ?_) (a' := ?_) rfl rfl (by rfl) (fun w' hw' => ?_) ?_ ?_
      rotate_left 2
      · go_simp
        with_reducible rfl
      · simp only [Act.put, List.setIfInBounds_toArray, List.set_cons_zero, List.set_cons_succ, Go.Proofs.YtdfahblgnbdndaaDoorW.PrintLast.i64_w, Go.Proofs.YtdfahblgnbdndaaDoorW.PrintLast.i32_w]
        rfl
      refine seq_take (v := ?_) (a' := ?_) rfl rfl (by rfl) (fun w' hw' => ?_) ?_ ?_
      rotate_left 2
      · go_simp
        with_reducible rfl
      · simp only [Act.put, List.setIfInBounds_toArray, List.set_cons_zero, List.set_cons_succ, Go.Proofs.YtdfahblgnbdndaaDoorW.PrintLast.i64_w, Go.Proofs.YtdfahblgnbdndaaDoorW.PrintLast.i32_w]
        rfl
      refine seq_take (v := ?_) (a' := ?_) rfl rfl (by rfl) (fun w' hw' => ?_) ?_ ?_
      rotate_left 2
      · go_simp
        with_reducible rfl
      · simp only [Act.put, List.setIfInBounds_toArray, List.set_cons_zero, List.set_cons_succ, Go.Proofs.YtdfahblgnbdndaaDoorW.PrintLast.i64_w, Go.Proofs.YtdfahblgnbdndaaDoorW.PrintLast.i32_w]
        rfl
      refine seq_take (v := ?_) (a' := ?_) rfl rfl (by rfl) (fun w' hw' => ?_) ?_ ?_
      rotate_left 2
      · go_simp
        with_reducible rfl
      · simp only [Act.put, List.setIfInBounds_toArray, List.set_cons_zero, List.set_cons_succ, Go.Proofs.YtdfahblgnbdndaaDoorW.PrintLast.i64_w, Go.Proofs.YtdfahblgnbdndaaDoorW.PrintLast.i32_w]
        rfl
      refine seq_take (v := ?_) (a' := ?_) rfl rfl (by rfl) (fun w' hw' => ?_) ?_ ?_
      rotate_left 2
      · go_simp
        with_reducible rfl
      · simp only [Act.put, List.setIfInBounds_toArray, List.set_cons_zero, List.set_cons_succ, Go.Proofs.YtdfahblgnbdndaaDoorW.PrintLast.i64_w, Go.Proofs.YtdfahblgnbdndaaDoorW.PrintLast.i32_w]
        rfl
      refine seq_take (v := ?_) (a' := ?_) rfl rfl (by rfl) (fun w' hw' => ?_) ?_ ?_
      rotate_left 2
      · have he := conv_str (Kd.C_below (Kd.C_drew H.out) hw') c; go_simp
        with_reducible rfl
      · simp only [Act.put, List.setIfInBounds_toArray, List.set_cons_zero, List.set_cons_succ, Go.Proofs.YtdfahblgnbdndaaDoorW.PrintLast.i64_w, Go.Proofs.YtdfahblgnbdndaaDoorW.PrintLast.i32_w]
        rfl
      refine seq_run ?_
      refine do_call rfl rfl (by rfl) rfl Tryd.func30 (by kernel_rfl) rfl #[.slice A (xs.length - 4) c] (by simp only [List.map_toArray, List.map_cons, List.map_nil]; rfl) ?_
      with_reducible refine (rput_calls A _ c ys _ (Kd.C_drew HR.out) HB.out (by omega)).mono ?_
      rintro e w1 ⟨v0, rfl, hO, hB1⟩
      refine ⟨_, ?_, rfl, ?_, fun _ => hB1, ?_⟩
      rotate_left
      · simp only [Act.put, List.setIfInBounds_toArray, List.set_cons_zero, List.set_cons_succ, Go.Proofs.YtdfahblgnbdndaaDoorW.PrintLast.i64_w, Go.Proofs.YtdfahblgnbdndaaDoorW.PrintLast.i32_w]
        rfl
      obtain ⟨B, d, hv0, hd, hrB⟩ := OwB.reads hO
      subst hv0
      refine seq_take (v := ?_) (a' := ?_) rfl rfl (by rfl) (fun w' hw' => ?_) ?_ ?_
      rotate_left 2
      · have he := conv_str (Kd.C_below hrB hw') d; go_simp
        with_reducible rfl
      · simp only [Act.put, List.setIfInBounds_toArray, List.set_cons_zero, List.set_cons_succ, Go.Proofs.YtdfahblgnbdndaaDoorW.PrintLast.i64_w, Go.Proofs.YtdfahblgnbdndaaDoorW.PrintLast.i32_w]
        rfl
      refine seq_take (v := ?_) (a' := ?_) rfl rfl (by rfl) (fun w' hw' => ?_) ?_ ?_
      rotate_left 2
      · go_simp
        with_reducible rfl
      · simp only [Act.put, List.setIfInBounds_toArray, List.set_cons_zero, List.set_cons_succ, Go.Proofs.YtdfahblgnbdndaaDoorW.PrintLast.i64_w, Go.Proofs.YtdfahblgnbdndaaDoorW.PrintLast.i32_w]
        rfl
      refine seq_end ?_
      clear hwr
      go_wp2
      go_ret2
      rw [E.out]
      first
      | exact ⟨_, _, _, rfl, HR.out, by omega, (Below.drew (Below.refl _ _)).trans hB1⟩
      | exact ⟨_, _, _, rfl, Kd.C_nil _ _, by simp, (Below.drew (Below.refl _ _)).trans hB1⟩
end Go.Proofs.YtdfahblgnbdndaaDoor
