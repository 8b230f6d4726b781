/- Contracts: lighterageref04's Words, left, Over, Hash; lives. Conditions: each contract's own. -/
import Derived.Test.YtdbgbbodkoppdaaRoll6
namespace Go.Proofs.Ytdbgbbodkoppdaa
open Go.RowKit Go.Proofs.YtdbgbbodkoppdaaW.PrintWords Go.Proofs.YtdbgbbodkoppdaaW.PrintMore
set_option linter.unusedVariables false
set_option linter.unusedSimpArgs false
def WordsInv (w : World) (v x i : Value) (wr : World) : Prop := ∃ k : Nat, k ≤ 256 ∧ i = .int .i64 k ∧ x = .int .u32 (wseq k) ∧ OwW wr w.heap.size v (WT k) ∧ Below w.heap.size w wr
set_option maxRecDepth 20000 in
theorem words_calls (w : World) : Calls Try.prog 23 #[] w fun e w' => ∃ v, e = .returned v ∧ OwW w' w.heap.size v (WT 256) ∧ Below w.heap.size w w' := by
  go_enter Try.func23, Try.ntmps23
  go_wp2
  go_loopw [1, 2, 3] (fun v x i wr => WordsInv w v x i wr) (fun _ _ i _ => 256 - (intOf i).toNat)
  case atStart => exact ⟨0, by omega, rfl, rfl, Kd.R_nil _ _ _ _ _, Below.refl _ _⟩
  case round =>
    obtain ⟨k, hk, rfl, rfl, hO, hB⟩ := hrel
    have HO := Aside0.mk hO
    have HB := Aside0.mk hB
    clear hO hB
    have HL := Aside0.mk (WT_len k)
    by_cases hlt : k < 256
    · have hx := wseq_range k
      have HW : Aside0 (wst (wseq k) = wseq (k + 1)) := ⟨rfl⟩
      have HT : Aside0 (WT (k + 1) = WT k ++ [wseq (k + 1)]) := ⟨WT_succ k⟩
      have hd := wst_div (wseq k) hx
      rw [HW.out] at hd
      generalize wseq k = x at *
      go_wp2_with (at_builtin; refine appW (w0 := w) w.heap.size rfl (.tmp 20) (.tmp 22) rfl _ (WT k) _ rfl rfl HO.out HB.out HB.out.size (by rw [HL.out]; omega) ?_; rw [← HT.out]; intro v5 w5 hO5 hB5 _ _)
      go_roundw
      case rel => exact ⟨k + 1, by omega, by go_num, rfl, hO5, hB5⟩
      case measure => simp [intOf]; omega
    · obtain rfl : k = 256 := by omega
      go_wp2
      go_ret
      exact ⟨_, rfl, HO.out, HB.out⟩
theorem rl_go (x : Int) (h : 0 ≤ x ∧ x < 4294967296) : (x * 2 % 4294967296 + x.tdiv 2147483648 % 4294967296) % 4294967296 = rl x := by
  rw [rl_eq x h, Int.tdiv_eq_ediv_of_nonneg h.1]
  omega
theorem left_calls (x n : Int) (w : World) (hx : 0 ≤ x ∧ x < 4294967296) (hn0 : 0 ≤ n) (hn : n ≤ 1099511627776) :
    Calls Try.prog 38 #[.int .u32 x, .int .i64 n] w fun e w' => e = .returned (.int .u32 (rls x n.toNat)) ∧ w = w' := by
  obtain ⟨n, rfl⟩ := Int.eq_ofNat_of_zero_le hn0
  rw [Int.toNat_natCast]
  go_enter Try.func38, Try.ntmps38
  go_wp2
  go_loopw [0, 5] (fun y i wr => ∃ j : Nat, j ≤ n ∧ i = .int .i64 j ∧ y = .int .u32 (rls x j) ∧ w = wr) (fun _ i _ => n - (intOf i).toNat)
  case atStart => exact ⟨0, by omega, rfl, rfl, rfl⟩
  case round =>
    obtain ⟨j, hj, rfl, rfl, rfl⟩ := hrel
    by_cases hlt : j < n
    · have hy := rls_range hx j
      have HR : Aside0 (rls x (j + 1) = rl (rls x j)) := ⟨rfl⟩
      generalize rls x j = y at *
      go_wp2
      go_roundw
      case rel => exact ⟨j + 1, by omega, by go_num, by rw [HR.out, rl_eq y hy], trivial⟩
      case measure => simp [intOf]; omega
    · obtain rfl : j = n := by omega
      go_wp2
      go_ret
      exact ⟨rfl, rfl⟩
def OvInv (xs : List Int) (f : Nat) (w : World) (a i : Value) (wr : World) : Prop := ∃ (j : Nat) (y : Int), f ≤ j ∧ j ≤ xs.length ∧ i = .int .i64 j ∧ a = .int .u32 y ∧ (0 ≤ y ∧ y < 4294967296) ∧ xr y (hx (xs.drop j)) = hov xs ∧ w = wr
set_option maxRecDepth 20000 in
theorem over_calls (A B : Option Addr) (cw n c : Nat) (xs : List Int) (w : World) (hw : RdW w A 256 (WT 256)) (h : RdB w B n xs) (hb : Bytes xs) (hn : n ≤ 1099511627776) :
    Calls Try.prog 33 #[.slice A 256 cw, .slice B n c] w fun e w' => e = .returned (.int .u32 (hov xs)) ∧ w = w' := by
  obtain rfl : xs.length = n := h.1
  have HX := Aside0.mk h
  have HW := Aside0.mk hw
  obtain ⟨aw, ea⟩ : ∃ aw, A = some aw := by obtain ⟨ad, e, _⟩ := Kd.at_int hw 0 (by omega) (by omega); exact ⟨ad, e⟩
  subst ea
  clear h hw
  go_enter Try.func33, Try.ntmps33
  go_wp2
  all_goals
    (go_loopw [5, 7] (fun a i wr => OvInv xs (xs.length - 16) w a i wr) (fun _ i _ => xs.length - (intOf i).toNat)
     case atStart => exact ⟨xs.length - 16, 0, by omega, by omega, by congr 1; omega, rfl, by omega, xr_zero (hx_range _), rfl⟩
     case round =>
      obtain ⟨j, y, hfj, hj, rfl, rfl, hy, hinv, rfl⟩ := hrel
      by_cases hlt : j < xs.length
      · obtain ⟨ad, eb⟩ : ∃ ad, B = some ad := by obtain ⟨ad, e, _⟩ := Kd.at_int HX.out 0 (by omega) (by omega); exact ⟨ad, e⟩
        subst eb
        have hcell := rdB_at HX.out j hlt
        have hby := hb.at_ (j : Int)
        have HS : Aside0 (hx (xs.drop j) = xr (rls (bword (rd xs j)) (xs.length - 1 - j)) (hx (xs.drop (j + 1)))) := ⟨by
          rw [List.drop_eq_getElem_cons hlt]
          show xr (rls (bword xs[j]) (xs.drop (j + 1)).length) _ = _
          rw [List.length_drop, show xs.length - (j + 1) = xs.length - 1 - j by omega]
          unfold Go.Proofs.YtdbgbbodkoppdaaW.PrintWords.rd
          rw [Int.toNat_natCast, List.getD_eq_getElem?_getD, List.getElem?_eq_getElem hlt]
          rfl⟩
        have HI := Aside0.mk hinv
        clear hinv
        generalize rd xs j = x at *
        obtain ⟨m, rfl⟩ := Int.eq_ofNat_of_zero_le hby.1
        have hm : m < 256 := by omega
        have hcw := rdW_at HW.out m hm
        rw [WT_at 256 m (by omega) (by omega)] at hcw
        have hwr := bword_range m
        have HD := hx_range (xs.drop (j + 1))
        generalize bword (m : Int) = z at *
        go_wp2_with (go_at_call 38; refine (left_calls z ((xs.length : Int) - 1 - j) _ hwr (by omega) (by omega)).mono ?_; rintro e u1 ⟨rfl, rfl⟩)
        go_roundw
        case rel =>
          have hz := rls_range hwr (xs.length - 1 - j)
          have ez : ((xs.length : Int) - 1 - j).toNat = xs.length - 1 - j := by omega
          refine ⟨j + 1, xr y (rls z (xs.length - 1 - j)), by omega, by omega, by go_num, by first | rfl | (rw [ez]; rfl), xr_range hy hz, ?_, rfl⟩
          rw [xr_assoc hy hz HD, ← HS.out, HI.out]
        case measure => simp [intOf]; omega
      · obtain rfl : j = xs.length := by omega
        rw [List.drop_of_length_le (Nat.le_refl _)] at hinv
        rw [show hx [] = 0 by rfl, xr_zero' hy] at hinv
        subst hinv
        go_wp2
        go_ret
        exact ⟨rfl, rfl⟩)
end Go.Proofs.Ytdbgbbodkoppdaa
