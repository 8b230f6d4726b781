/- Packed bytes, in plain Lean: token by token. Plain lemmas. -/
import Derived.Test.YtcbcoaafdggniaaLz8
namespace Go.Proofs.Ytcbcoaafdggniaa
open Go.RowKit Go.Proofs.YtcbcoaafdggniaaW.PrintWords Go.Proofs.YtcbcoaafdggniaaW.PrintMore
set_option linter.unusedVariables false
set_option linter.unusedSimpArgs false
/-- What a match is, if there is one. -/
def MOk (b : List Int) (i : Nat) (r : Int × Int) : Prop := r = (0, 0) ∨ ∃ n d : Nat, r = ((n : Int), (d : Int)) ∧ 4 ≤ n ∧ n ≤ 131 ∧ 1 ≤ d ∧ d ≤ 1024 ∧ d ≤ i ∧ i + n ≤ b.length ∧ n = runL b i (i - d)
theorem rstep_ok {b : List Int} {i : Nat} (hi : i ≤ b.length) {r : Int × Int} (h : MOk b i r) {j : Nat} (hj : j < i) (hj2 : j < 1024) : MOk b i (rstep b i r j) := by
  unfold rstep
  split
  · rename_i hc
    exact .inr ⟨runL b i (i - (j + 1)), j + 1, by simp, by omega, runL_le _ _ _, by omega, by omega, by omega, runL_len b i _ hi, rfl⟩
  · exact h
theorem lzM_ok {b : List Int} {i : Nat} (hi : i ≤ b.length) : MOk b i (lzM b i) := by
  unfold lzM
  have key : ∀ (l : List Nat) (r : Int × Int), (∀ j ∈ l, j < i ∧ j < 1024) → MOk b i r → MOk b i (l.foldl (rstep b i) r) := by
    intro l
    induction l with
    | nil => intro r _ h; exact h
    | cons j l ih =>
      intro r hl h
      rw [List.foldl_cons]
      exact ih _ (fun x hx => hl x (by simp [hx])) (rstep_ok hi h (hl j (by simp)).1 (hl j (by simp)).2)
  exact key _ _ (fun j hj => by have := List.mem_range.1 hj; omega) (.inl rfl)
/-- A match's token. -/
def tok (r : Int × Int) : List Int := [124 + r.1, (r.2 - 1) % 256, (r.2 - 1) / 256]
def packF (b : List Int) : Nat → Nat → List Int → List Int → List Int
  | 0, _, own, out => out ++ litL own
  | f + 1, i, own, out => if b.length ≤ i then out ++ litL own else if (lzM b i).1 = 0 then packF b f (i + 1) (own ++ [rd b i]) out else packF b f (i + (lzM b i).1.toNat) [] (out ++ litL own ++ tok (lzM b i))
theorem packF_fuel (b : List Int) : ∀ (f f' i : Nat) (own out : List Int), b.length ≤ i + f → b.length ≤ i + f' → packF b f i own out = packF b f' i own out
  | 0, 0, i, own, out, _, _ => rfl
  | 0, f' + 1, i, own, out, h, _ => by
    unfold packF
    rw [if_pos (by omega)]
  | f + 1, 0, i, own, out, _, h => by
    unfold packF
    rw [if_pos (by omega)]
  | f + 1, f' + 1, i, own, out, h, h' => by
    unfold packF
    split
    · rfl
    · split
      · exact packF_fuel b f f' _ _ _ (by omega) (by omega)
      · rename_i h1 h2
        have hok := lzM_ok (b := b) (i := i) (by omega)
        have : 1 ≤ (lzM b i).1.toNat := by
          rcases hok with e | ⟨n, d, e, h4, _⟩
          · rw [e] at h2; exact absurd rfl h2
          · rw [e]; simp; omega
        exact packF_fuel b f f' _ _ _ (by omega) (by omega)
/-- What comes of it from i on, own being kept, out being out. -/
def packR (b : List Int) (i : Nat) (own out : List Int) : List Int := packF b (b.length - i) i own out
def packL (b : List Int) : List Int := packR b 0 [] []
theorem packR_end {b : List Int} {i : Nat} (h : b.length ≤ i) (own out : List Int) : packR b i own out = out ++ litL own := by
  unfold packR
  rw [show b.length - i = 0 by omega]
  rfl
theorem packR_lit {b : List Int} {i : Nat} (h : i < b.length) (hm : (lzM b i).1 = 0) (own out : List Int) : packR b i own out = packR b (i + 1) (own ++ [rd b i]) out := by
  unfold packR
  obtain ⟨f, hf⟩ : ∃ f, b.length - i = f + 1 := ⟨b.length - i - 1, by omega⟩
  rw [hf]
  conv => lhs; unfold packF
  rw [if_neg (by omega), if_pos hm]
  exact packF_fuel b _ _ _ _ _ (by omega) (by omega)
theorem packR_tok {b : List Int} {i n : Nat} (h : i < b.length) (hm : (lzM b i).1 = n) (hn : 0 < n) (own out : List Int) : packR b i own out = packR b (i + n) [] (out ++ litL own ++ tok (lzM b i)) := by
  unfold packR
  obtain ⟨f, hf⟩ : ∃ f, b.length - i = f + 1 := ⟨b.length - i - 1, by omega⟩
  rw [hf]
  conv => lhs; unfold packF
  rw [if_neg (by omega), if_neg (by omega)]
  rw [hm, Int.toNat_natCast]
  exact packF_fuel b _ _ _ _ _ (by omega) (by omega)
theorem tok_bytes {b : List Int} {i : Nat} {r : Int × Int} (h : MOk b i r) (h0 : r ≠ (0, 0)) : Bytes (tok r) := by
  rcases h with e | ⟨n, d, rfl, h1, h2, h3, h4, _⟩
  · exact absurd e h0
  · intro x hx
    simp only [tok, List.mem_cons, List.not_mem_nil, or_false] at hx
    rcases hx with rfl | rfl | rfl <;> omega
end Go.Proofs.Ytcbcoaafdggniaa
