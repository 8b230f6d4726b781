/- Where bytes are cut: by going along, and by looking for the first chunk. Plain laws. -/
import Derived.Test.YtdfahblgnbdndaaDoorG5
namespace Go.Proofs.YtdfahblgnbdndaaDoor
open Go.RowKit Go.Proofs.YtdfahblgnbdndaaDoorW.PrintWords Go.Proofs.YtdfahblgnbdndaaDoorW.PrintMore
set_option linter.unusedVariables false
set_option linter.unusedSimpArgs false
section
variable (mn mx p : Nat)
/-- Is there a cut behind these? -/
def cutAt (c : List Int) : Bool := decide (c.length = mx) || (decide (mn ≤ c.length) && decide (hov c % (p : Int) = 0))
/-- Bytes gone along: the chunks, what is left. -/
def wrL : List Int → List Int → List (List Int) × List Int
  | cur, [] => ([], cur)
  | cur, x :: b => if cutAt mn mx p (cur ++ [x]) then ((cur ++ [x]) :: (wrL [] b).1, (wrL [] b).2) else wrL (cur ++ [x]) b
def al (cur b : List Int) : List (List Int) := (wrL mn mx p cur b).1 ++ (if (wrL mn mx p cur b).2 = [] then [] else [(wrL mn mx p cur b).2])
/-- The first chunk's size, from k bytes on. -/
def fi (b : List Int) (k : Nat) : Nat := if k < b.length then (if k = mx ∨ hov (b.take k) % (p : Int) = 0 then k else fi b (k + 1)) else b.length
termination_by b.length - k
def chF : Nat → List Int → List (List Int)
  | 0, _ => []
  | f + 1, b => if b = [] then [] else b.take (fi mx p b mn) :: chF f (b.drop (fi mx p b mn))
def chunks (b : List Int) : List (List Int) := chF mn mx p b.length b
end
section
variable {mn mx p : Nat}
theorem fi_end {b : List Int} {k : Nat} (h : ¬ k < b.length) : fi mx p b k = b.length := by rw [fi, if_neg h]
theorem fi_here {b : List Int} {k : Nat} (h : k < b.length) (h2 : k = mx ∨ hov (b.take k) % (p : Int) = 0) : fi mx p b k = k := by rw [fi, if_pos h, if_pos h2]
theorem fi_next {b : List Int} {k : Nat} (h : k < b.length) (h2 : ¬ (k = mx ∨ hov (b.take k) % (p : Int) = 0)) : fi mx p b k = fi mx p b (k + 1) := by rw [fi, if_pos h, if_neg h2]
theorem fi_range (b : List Int) (m : Nat) : ∀ k, b.length - k ≤ m → fi mx p b k ≤ b.length ∧ (k ≤ b.length → k ≤ fi mx p b k) := by
  induction m with
  | zero =>
    intro k hk
    rw [fi_end (by omega)]
    exact ⟨Nat.le_refl _, fun h => h⟩
  | succ m ih =>
    intro k hk
    by_cases h : k < b.length
    · by_cases h2 : k = mx ∨ hov (b.take k) % (p : Int) = 0
      · rw [fi_here h h2]
        exact ⟨by omega, fun _ => Nat.le_refl _⟩
      · rw [fi_next h h2]
        have := ih (k + 1) (by omega)
        exact ⟨this.1, fun _ => by have := this.2 (by omega); omega⟩
    · rw [fi_end h]
      exact ⟨Nat.le_refl _, fun h => h⟩
theorem fi_pos {b : List Int} (hb : b ≠ []) (hm : 1 ≤ mn) : 1 ≤ fi mx p b mn ∧ fi mx p b mn ≤ b.length := by
  have h := fi_range (mx := mx) (p := p) b (b.length - mn) mn (Nat.le_refl _)
  refine ⟨?_, h.1⟩
  by_cases h1 : mn ≤ b.length
  · have := h.2 h1; omega
  · rw [fi_end (by omega)]
    exact List.length_pos_iff.2 hb
theorem cutAt_iff {c : List Int} : cutAt mn mx p c = true ↔ c.length = mx ∨ (mn ≤ c.length ∧ hov c % (p : Int) = 0) := by simp [cutAt]
theorem al_first (h1 : 1 ≤ mn) (h2 : mn ≤ mx) : ∀ (b cur : List Int), cur ++ b ≠ [] → al mn mx p cur b = (cur ++ b).take (fi mx p (cur ++ b) (max mn (cur.length + 1))) :: al mn mx p [] ((cur ++ b).drop (fi mx p (cur ++ b) (max mn (cur.length + 1))))
  | [], cur, hne => by
    rw [List.append_nil] at hne ⊢
    rw [fi_end (by omega), List.take_length, List.drop_length]
    have e1 : al mn mx p cur [] = [cur] := by unfold al wrL; simp [hne]
    have e2 : al mn mx p [] [] = [] := by unfold al wrL; simp
    rw [e1, e2]
  | x :: t, cur, hne => by
    have hB : cur ++ x :: t = (cur ++ [x]) ++ t := by simp
    rw [hB]
    have hl : (cur ++ [x]).length = cur.length + 1 := by simp
    by_cases hc : cutAt mn mx p (cur ++ [x]) = true
    · have e : al mn mx p cur (x :: t) = (cur ++ [x]) :: al mn mx p [] t := by
        unfold al
        rw [show wrL mn mx p cur (x :: t) = ((cur ++ [x]) :: (wrL mn mx p [] t).1, (wrL mn mx p [] t).2) by rw [wrL, if_pos hc]]
        rfl
      have h3 := cutAt_iff.1 hc
      have hmn : mn ≤ cur.length + 1 := by omega
      have hf : fi mx p ((cur ++ [x]) ++ t) (max mn (cur.length + 1)) = cur.length + 1 := by
        rw [Nat.max_eq_right hmn]
        by_cases hk : cur.length + 1 < ((cur ++ [x]) ++ t).length
        · refine fi_here hk ?_
          rw [← hl, List.take_left]
          rcases h3 with h3 | ⟨_, h3⟩
          · exact .inl h3
          · exact .inr h3
        · rw [fi_end hk]
          simp at hk ⊢
          omega
      rw [e, hf, ← hl, List.take_left, List.drop_left]
    · have e : al mn mx p cur (x :: t) = al mn mx p (cur ++ [x]) t := by
        unfold al
        rw [show wrL mn mx p cur (x :: t) = wrL mn mx p (cur ++ [x]) t by rw [wrL, if_neg hc]]
      rw [e, al_first h1 h2 t (cur ++ [x]) (by simp)]
      have h3 : ¬ (cur.length + 1 = mx ∨ (mn ≤ cur.length + 1 ∧ hov (cur ++ [x]) % (p : Int) = 0)) := by
        rw [← hl]
        exact fun h => hc (cutAt_iff.2 h)
      have hf : fi mx p ((cur ++ [x]) ++ t) (max mn (cur.length + 1)) = fi mx p ((cur ++ [x]) ++ t) (max mn ((cur ++ [x]).length + 1)) := by
        rw [hl]
        by_cases hmn : mn ≤ cur.length + 1
        · rw [Nat.max_eq_right hmn, Nat.max_eq_right (by omega)]
          by_cases hk : cur.length + 1 < ((cur ++ [x]) ++ t).length
          · refine fi_next hk ?_
            rw [← hl, List.take_left, hl]
            rintro (h | h)
            · exact h3 (.inl h)
            · exact h3 (.inr ⟨hmn, h⟩)
          · rw [fi_end hk, fi_end (by omega)]
        · rw [Nat.max_eq_left (by omega), Nat.max_eq_left (by omega)]
      rw [hf]
theorem al_chF (h1 : 1 ≤ mn) (h2 : mn ≤ mx) : ∀ (n : Nat) (b : List Int), b.length ≤ n → al mn mx p [] b = chF mn mx p n b
  | 0, b, h => by
    obtain rfl : b = [] := List.eq_nil_of_length_eq_zero (by omega)
    unfold al wrL chF
    simp
  | n + 1, b, h => by
    by_cases hb : b = []
    · subst hb
      unfold al wrL chF
      simp
    · have hr := fi_pos (mx := mx) (p := p) hb h1
      have := al_first (p := p) h1 h2 b [] (by simpa using hb)
      simp only [List.nil_append, List.length_nil, Nat.zero_add] at this
      rw [Nat.max_eq_left h1] at this
      rw [this, chF, if_neg hb, al_chF h1 h2 n _ (by rw [List.length_drop]; omega)]
/-- Both say the same. -/
theorem al_chunks (h1 : 1 ≤ mn) (h2 : mn ≤ mx) (b : List Int) : al mn mx p [] b = chunks mn mx p b := al_chF h1 h2 b.length b (Nat.le_refl _)
theorem wrL_append : ∀ (a b cur : List Int), wrL mn mx p cur (a ++ b) = ((wrL mn mx p cur a).1 ++ (wrL mn mx p (wrL mn mx p cur a).2 b).1, (wrL mn mx p (wrL mn mx p cur a).2 b).2)
  | [], b, cur => by simp [wrL]
  | x :: a, b, cur => by
    rw [List.cons_append]
    by_cases hc : cutAt mn mx p (cur ++ [x]) = true
    · rw [wrL, if_pos hc, wrL_append a b [], show wrL mn mx p cur (x :: a) = ((cur ++ [x]) :: (wrL mn mx p [] a).1, (wrL mn mx p [] a).2) by rw [wrL, if_pos hc]]
      rfl
    · rw [wrL, if_neg hc, wrL_append a b, show wrL mn mx p cur (x :: a) = wrL mn mx p (cur ++ [x]) a by rw [wrL, if_neg hc]]
/-- A chunk that was cut, gone along alone. -/
theorem wrL_whole : ∀ (b cur : List Int) (c : List Int) (l : List (List Int)), (wrL mn mx p cur b).1 = c :: l → ∃ t, c = cur ++ t ∧ t ≠ [] ∧ cutAt mn mx p c = true ∧ wrL mn mx p cur t = ([c], []) ∧ ∃ b2, b = t ++ b2 ∧ (wrL mn mx p [] b2).1 = l ∧ (wrL mn mx p [] b2).2 = (wrL mn mx p cur b).2
  | [], cur, c, l, h => by simp [wrL] at h
  | x :: b, cur, c, l, h => by
    by_cases hc : cutAt mn mx p (cur ++ [x]) = true
    · have e : wrL mn mx p cur (x :: b) = ((cur ++ [x]) :: (wrL mn mx p [] b).1, (wrL mn mx p [] b).2) := by rw [wrL, if_pos hc]
      rw [e] at h ⊢
      simp only [List.cons.injEq] at h
      obtain ⟨rfl, rfl⟩ := h
      refine ⟨[x], rfl, by simp, hc, by rw [wrL, if_pos hc]; simp [wrL], b, rfl, rfl, rfl⟩
    · have e : wrL mn mx p cur (x :: b) = wrL mn mx p (cur ++ [x]) b := by rw [wrL, if_neg hc]
      rw [e] at h ⊢
      obtain ⟨t, h1, h2, h3, h4, b2, h5, h6⟩ := wrL_whole b (cur ++ [x]) c l h
      refine ⟨x :: t, by rw [h1]; simp, by simp, h3, by rw [wrL, if_neg hc]; exact h4, b2, by rw [h5]; rfl, h6⟩
/-- The chunks together, and what is left, are the bytes. -/
theorem wrL_flat : ∀ (b cur : List Int), (wrL mn mx p cur b).1.flatten ++ (wrL mn mx p cur b).2 = cur ++ b
  | [], cur => by simp [wrL]
  | x :: b, cur => by
    by_cases hc : cutAt mn mx p (cur ++ [x]) = true
    · rw [show wrL mn mx p cur (x :: b) = ((cur ++ [x]) :: (wrL mn mx p [] b).1, (wrL mn mx p [] b).2) by rw [wrL, if_pos hc]]
      have := wrL_flat b []
      rw [List.flatten_cons, List.append_assoc, this]
      simp
    · rw [show wrL mn mx p cur (x :: b) = wrL mn mx p (cur ++ [x]) b by rw [wrL, if_neg hc], wrL_flat b (cur ++ [x])]
      simp
theorem al_flat (b : List Int) : (al mn mx p [] b).flatten = b := by
  have := wrL_flat (mn := mn) (mx := mx) (p := p) b []
  unfold al
  rw [List.flatten_append]
  split
  · rename_i h
    rw [h] at this
    simpa using this
  · simpa using this
/-- Each chunk's size; what is left is shorter than the greatest. -/
theorem wrL_sizes (h2 : mn ≤ mx) : ∀ (b cur : List Int), cur.length < mx → (∀ c ∈ (wrL mn mx p cur b).1, mn ≤ c.length ∧ 1 ≤ c.length ∧ c.length ≤ mx) ∧ (wrL mn mx p cur b).2.length < mx
  | [], cur, h => by simp [wrL, h]
  | x :: b, cur, h => by
    have hl : (cur ++ [x]).length = cur.length + 1 := by simp
    by_cases hc : cutAt mn mx p (cur ++ [x]) = true
    · rw [show wrL mn mx p cur (x :: b) = ((cur ++ [x]) :: (wrL mn mx p [] b).1, (wrL mn mx p [] b).2) by rw [wrL, if_pos hc]]
      have hr := wrL_sizes h2 b [] (by simp; omega)
      refine ⟨fun c hm => ?_, hr.2⟩
      rcases List.mem_cons.1 hm with rfl | hm
      · have := cutAt_iff.1 hc
        omega
      · exact hr.1 c hm
    · rw [show wrL mn mx p cur (x :: b) = wrL mn mx p (cur ++ [x]) b by rw [wrL, if_neg hc]]
      refine wrL_sizes h2 b (cur ++ [x]) ?_
      have h3 : ¬ (cur ++ [x]).length = mx := fun h => hc (cutAt_iff.2 (.inl h))
      omega
end
end Go.Proofs.YtdfahblgnbdndaaDoor
