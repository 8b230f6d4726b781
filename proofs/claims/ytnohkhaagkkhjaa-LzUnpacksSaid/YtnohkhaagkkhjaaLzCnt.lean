/- How many tokens there are; a run's tokens. Plain lemmas. -/
import Derived.Test.YtnohkhaagkkhjaaLzUn
namespace Go.Proofs.Ytnohkhaagkkhjaa
open Go.RowKit Go.Proofs.YtnohkhaagkkhjaaW.PrintWords Go.Proofs.YtnohkhaagkkhjaaW.PrintMore
set_option linter.unusedVariables false
set_option linter.unusedSimpArgs false
def cntF : Nat → List Int → Option Nat
  | 0, _ => some 0
  | f + 1, q => if q = [] then some 0 else match tk q with
    | none => none
    | some t => (cntF f (q.drop t.1)).map (· + 1)
theorem cntF_fuel : ∀ (f f' : Nat) (q : List Int), q.length ≤ f → q.length ≤ f' → cntF f q = cntF f' q
  | 0, 0, q, _, _ => rfl
  | 0, f' + 1, q, h, _ => by
    obtain rfl : q = [] := List.eq_nil_of_length_eq_zero (by omega)
    simp only [cntF, if_true]
  | f + 1, 0, q, _, h => by
    obtain rfl : q = [] := List.eq_nil_of_length_eq_zero (by omega)
    simp only [cntF, if_true]
  | f + 1, f' + 1, q, h, h' => by
    by_cases hq : q = []
    · subst hq; simp only [cntF, if_true]
    · simp only [cntF, if_neg hq]
      rcases ht : tk q with _ | ⟨s, n, d⟩
      · rfl
      · have hs := tk_size ht
        have hl : (q.drop s).length ≤ f ∧ (q.drop s).length ≤ f' := by rw [List.length_drop]; omega
        simp only [cntF_fuel f f' (q.drop s) hl.1 hl.2]
/-- How many tokens, if each is whole. -/
def cnt (q : List Int) : Option Nat := cntF q.length q
theorem cnt_nil : cnt [] = some 0 := rfl
theorem cnt_none {q : List Int} (hq : q ≠ []) (h : tk q = none) : cnt q = none := by
  obtain ⟨m, hm⟩ := len_succ hq
  unfold cnt
  rw [hm]
  simp only [cntF, if_neg hq, h]
theorem cnt_step {q : List Int} {s n d : Nat} (hq : q ≠ []) (h : tk q = some (s, n, d)) : cnt q = (cnt (q.drop s)).map (· + 1) := by
  obtain ⟨m, hm⟩ := len_succ hq
  have hs := tk_size h
  unfold cnt
  rw [hm]
  simp only [cntF, if_neg hq, h]
  rw [cntF_fuel m (q.drop s).length (q.drop s) (by rw [List.length_drop]; omega) (Nat.le_refl _)]
theorem cnt_lit {own : List Int} (h0 : 0 < own.length) (h1 : own.length ≤ 128) (q : List Int) : cnt (litL own ++ q) = (cnt q).map (· + 1) := by
  have e : litL own ++ q = ((own.length : Int) - 1) :: (own ++ q) := by
    rw [litL_cons h0, show min own.length 128 = own.length by omega, List.take_length, List.drop_length, litL_nil]
    simp
  rw [e, cnt_step (by simp) (tk_lit (m := own.length) h0 h1 rfl q), drop_lit rfl]
theorem cnt_tok {n d : Nat} (h1 : 4 ≤ n) (h2 : n ≤ 131) (h3 : 1 ≤ d) (h4 : d ≤ 1024) (q : List Int) : cnt (tok ((n : Int), (d : Int)) ++ q) = (cnt q).map (· + 1) := by
  rw [cnt_step (by simp [tok]) (tk_tok h1 h2 h3 h4 q)]
  rfl
section
variable {c : Int} {k : Nat}
theorem rd_rep {i : Nat} (h : i < k) : rd (List.replicate k c) (i : Int) = c := by
  rw [rd_getD, List.getElem?_replicate, if_pos h]
  rfl
theorem runL_rep {i p : Nat} (hi : i ≤ k) (hp : p < i) : runL (List.replicate k c) i p = min 131 (k - i) := by
  have h1 := runL_le (List.replicate k c) i p
  have h2 := runL_len (List.replicate k c) i p (by rw [List.length_replicate]; exact hi)
  rw [List.length_replicate] at h2
  have h3 := runL_ge (b := List.replicate k c) (i := i) (k := p) (m := min 131 (k - i)) (fun x hx => ⟨by omega, by rw [List.length_replicate]; omega, by rw [rd_rep (by omega), rd_rep (by omega)]⟩) (by omega)
  omega
theorem lzM_rep {i : Nat} (hi : i ≤ k) : lzM (List.replicate k c) i = if i = 0 ∨ min 131 (k - i) < 4 then (0, 0) else (((min 131 (k - i) : Nat) : Int), 1) := by
  obtain ⟨m, hm⟩ : ∃ m, m = min 131 (k - i) := ⟨_, rfl⟩
  have key : ∀ n, n ≤ i → (List.range n).foldl (rstep (List.replicate k c) i) (0, 0) = if n = 0 ∨ m < 4 then (0, 0) else ((m : Int), 1) := by
    intro n
    induction n with
    | zero => intro _; rfl
    | succ n ih =>
      intro hn
      rw [List.range_succ, List.foldl_append, ih (by omega), List.foldl_cons, List.foldl_nil]
      by_cases h4 : m < 4
      · rw [show (if n = 0 ∨ m < 4 then ((0 : Int), (0 : Int)) else ((m : Int), 1)) = (0, 0) from if_pos (.inr h4)]
        unfold rstep
        rw [runL_rep hi (by omega), ← hm, if_neg (by omega), if_pos (.inr h4)]
      · by_cases hn0 : n = 0
        · rw [show (if n = 0 ∨ m < 4 then ((0 : Int), (0 : Int)) else ((m : Int), 1)) = (0, 0) from if_pos (.inl hn0)]
          unfold rstep
          rw [runL_rep hi (by omega), ← hm, if_pos ⟨by omega, by show (0 : Int) < (m : Int); omega⟩, if_neg (by omega), hn0]
          rfl
        · rw [show (if n = 0 ∨ m < 4 then ((0 : Int), (0 : Int)) else ((m : Int), 1)) = ((m : Int), 1) from if_neg (by omega)]
          unfold rstep
          rw [runL_rep hi (by omega), ← hm, if_neg (by show ¬ (3 < m ∧ (m : Int) < (m : Int)); omega), if_neg (by omega)]
  unfold lzM
  rw [key _ (by omega), ← hm]
  by_cases h0 : i = 0
  · rw [if_pos (.inl (by omega)), if_pos (.inl h0)]
  · by_cases h4 : m < 4
    · rw [if_pos (.inr h4), if_pos (.inr h4)]
    · rw [if_neg (by omega), if_neg (by omega)]
theorem tail_rep (n : Nat) : ∀ (i : Nat) (own : List Int), k - i = n → i ≤ k → (i = 0 ∨ n < 4) → (i = 0 → n ≤ 4) → packR (List.replicate k c) i own [] = litL (own ++ List.replicate n c) := by
  induction n with
  | zero =>
    intro i own h1 h2 _ _
    rw [packR_end (by rw [List.length_replicate]; omega)]
    simp
  | succ n ih =>
    intro i own h1 h2 h3 h4
    have hz : (lzM (List.replicate k c) i).1 = 0 := by
      rw [lzM_rep h2, if_pos (by omega)]
    rw [packR_lit (by rw [List.length_replicate]; omega) hz, rd_rep (by omega), ih (i + 1) _ (by omega) (by omega) (by omega) (by omega)]
    rw [List.append_assoc, List.replicate_succ]
    rfl
theorem cnt_own (n : Nat) : ∀ i, k - i ≤ n → 1 ≤ i → i ≤ k → cnt (packR (List.replicate k c) i [] []) = some ((k - i + 130) / 131) := by
  induction n with
  | zero =>
    intro i h1 _ h2
    rw [packR_end (by rw [List.length_replicate]; omega), show (k - i + 130) / 131 = 0 by omega]
    rfl
  | succ n ih =>
    intro i h1 h3 h2
    by_cases h4 : k - i < 4
    · rw [tail_rep (k - i) i [] rfl h2 (.inr h4) (by omega), List.nil_append]
      by_cases h0 : k - i = 0
      · rw [h0]; rfl
      · rw [← List.append_nil (litL _), cnt_lit (by rw [List.length_replicate]; omega) (by rw [List.length_replicate]; omega), cnt_nil, show (k - i + 130) / 131 = 1 by omega]
        rfl
    · have hr := lzM_rep (c := c) h2
      rw [if_neg (by omega)] at hr
      rw [packR_tok (n := min 131 (k - i)) (by rw [List.length_replicate]; omega) (by rw [hr]) (by omega), packR_out, hr, List.nil_append, litL_nil, List.nil_append]
      rw [show (((min 131 (k - i) : Nat) : Int), (1 : Int)) = (((min 131 (k - i) : Nat) : Int), ((1 : Nat) : Int)) from rfl, cnt_tok (by omega) (by omega) (by omega) (by omega), ih _ (by omega) (by omega) (by omega)]
      show some ((k - (i + min 131 (k - i)) + 130) / 131 + 1) = some _
      congr 1
      omega
theorem cnt_rep : cnt (packL (List.replicate k c)) = some (if 4 < k then 1 + (k - 1 + 130) / 131 else min k 1) := by
  by_cases h4 : 4 < k
  · rw [if_pos h4]
    have hz : (lzM (List.replicate k c) 0).1 = 0 := by rw [lzM_rep (by omega), if_pos (.inl rfl)]
    show cnt (packR (List.replicate k c) 0 [] []) = _
    have hr := lzM_rep (c := c) (k := k) (i := 1) (by omega)
    rw [if_neg (by omega)] at hr
    rw [packR_lit (by rw [List.length_replicate]; omega) hz, packR_tok (n := min 131 (k - 1)) (by rw [List.length_replicate]; omega) (by rw [hr]) (by omega), packR_out, hr, List.nil_append, List.append_assoc, cnt_lit (by simp) (by simp)]
    rw [show (((min 131 (k - 1) : Nat) : Int), (1 : Int)) = (((min 131 (k - 1) : Nat) : Int), ((1 : Nat) : Int)) from rfl, cnt_tok (by omega) (by omega) (by omega) (by omega), cnt_own k _ (by omega) (by omega) (by omega)]
    show some ((k - (0 + 1 + min 131 (k - 1)) + 130) / 131 + 1 + 1) = some _
    congr 1
    omega
  · rw [if_neg h4]
    show cnt (packR (List.replicate k c) 0 [] []) = _
    rw [tail_rep k 0 [] (by omega) (by omega) (.inl rfl) (fun _ => by omega), List.nil_append]
    by_cases h0 : k = 0
    · subst h0; rfl
    · rw [← List.append_nil (litL _), cnt_lit (by rw [List.length_replicate]; omega) (by rw [List.length_replicate]; omega), cnt_nil, show min k 1 = 1 by omega]
      rfl
end
end Go.Proofs.Ytnohkhaagkkhjaa
