/- Numbers that Good makes; chunks' number and sizes. Plain lemmas. -/
import Derived.Test.YtdfahblgnbdndaaDoorCut9
namespace Go.Proofs.YtdfahblgnbdndaaDoor
open Go.RowKit Go.Shelf Go.Proofs.YtdfahblgnbdndaaDoorW.PrintWords Go.Proofs.YtdfahblgnbdndaaDoorW.PrintMore
set_option linter.unusedVariables false
set_option linter.unusedSimpArgs false
/-- Numbers that Good makes. -/
theorem good_nat (a b c : Int) : ∃ a0 b0 c0 : Nat, gA a = a0 ∧ gB a b = b0 ∧ gC a b c = c0 ∧ 1 ≤ a0 ∧ a0 ≤ b0 ∧ b0 ≤ c0 ∧ c0 ≤ 70 ∧ mayB a0 b0 c0 = true := by
  obtain ⟨h1, h2, h3, h4, h5, h6⟩ := good_range a b c
  obtain ⟨a0, ha⟩ := Int.eq_ofNat_of_zero_le (show (0 : Int) ≤ gA a by omega)
  obtain ⟨b0, hb⟩ := Int.eq_ofNat_of_zero_le (show (0 : Int) ≤ gB a b by omega)
  obtain ⟨c0, hc⟩ := Int.eq_ofNat_of_zero_le (show (0 : Int) ≤ gC a b c by omega)
  refine ⟨a0, b0, c0, ha, hb, hc, by omega, by omega, by omega, by omega, ?_⟩
  unfold mayB
  simp
  omega
theorem al_count {a c p : Nat} {xs : List Int} : (al a c p [] xs).length ≤ xs.length + 1 := by
  unfold al
  rw [List.length_append]
  have := wrL_count a c p xs []
  split <;> simp <;> omega
/-- Each chunk's size. -/
theorem al_sizes {a c p : Nat} {xs : List Int} (h1 : 1 ≤ a) (h2 : a ≤ c) : ∀ k, k < (al a c p [] xs).length → 1 ≤ ((al a c p [] xs).getD k []).length ∧ ((al a c p [] xs).getD k []).length ≤ c ∧ (k + 1 < (al a c p [] xs).length → a ≤ ((al a c p [] xs).getD k []).length) := by
  obtain ⟨hs, hr⟩ := wrL_sizes (p := p) h2 xs [] (by simp; omega)
  intro k hk
  unfold al at hk ⊢
  rw [List.getD_eq_getElem?_getD]
  by_cases hl : k < (wrL a c p [] xs).1.length
  · rw [List.getElem?_append_left hl, List.getElem?_eq_getElem hl]
    have := hs _ (List.getElem_mem hl)
    simp only [Option.getD_some]
    omega
  · rw [List.getElem?_append_right (by omega)]
    rw [List.length_append] at hk
    split at hk
    · simp at hk; omega
    · rename_i hne
      simp only [List.length_append, if_neg hne, List.length_singleton] at hk ⊢
      obtain rfl : k = (wrL a c p [] xs).1.length := by omega
      simp
      have := List.length_pos_iff.2 hne
      omega
theorem take_flat {CH : List (List Int)} {k : Nat} (h : k < CH.length) : (CH.take (k + 1)).flatten = (CH.take k).flatten ++ CH.getD k [] := by
  have e : CH.take (k + 1) = CH.take k ++ [CH.getD k []] := by
    rw [List.take_add_one, List.getD_eq_getElem?_getD, List.getElem?_eq_getElem h]; rfl
  rw [e, List.flatten_append]
  simp
theorem al_mem_le {a c p : Nat} {xs : List Int} (h1 : 1 ≤ a) (h2 : a ≤ c) : ∀ x ∈ al a c p [] xs, 1 ≤ x.length ∧ x.length ≤ c := by
  intro x hx
  obtain ⟨k, hk⟩ := List.mem_iff_getElem?.1 hx
  have hl := (List.getElem?_eq_some_iff.1 hk).1
  have := al_sizes (p := p) (xs := xs) h1 h2 k hl
  rw [List.getD_eq_getElem?_getD, hk] at this
  exact ⟨this.1, this.2.1⟩
theorem lens_getD (L : List (List Int)) (k : Nat) (h : k < L.length) : (lens L).getD k 0 = ((L.getD k []).length : Int) := by
  simp [lens, List.getD_eq_getElem?_getD, h]
theorem lens_len (L : List (List Int)) : (lens L).length = L.length := by simp [lens]
theorem mayB_nat {a b c : Int} (h : mayB a b c = true) : ∃ a0 b0 c0 : Nat, a = a0 ∧ b = b0 ∧ c = c0 ∧ 1 ≤ a0 ∧ a0 ≤ b0 ∧ b0 ≤ c0 ∧ c0 ≤ 4096 := by
  unfold mayB at h
  simp at h
  obtain ⟨a0, rfl⟩ := Int.eq_ofNat_of_zero_le (show (0 : Int) ≤ a by omega)
  obtain ⟨b0, rfl⟩ := Int.eq_ofNat_of_zero_le (show (0 : Int) ≤ b by omega)
  obtain ⟨c0, rfl⟩ := Int.eq_ofNat_of_zero_le (show (0 : Int) ≤ c by omega)
  exact ⟨a0, b0, c0, rfl, rfl, rfl, by omega, by omega, by omega, by omega⟩
end Go.Proofs.YtdfahblgnbdndaaDoor
