/- Plain lemmas and contracts, several texts in one: Lz8, LzPack, Lz9, LzUn, LzUn2, LzMade, LzUn3. Conditions: their own. -/
import Derived.Test.YtnkkjmbpopodlaaDoorLz7
import Derived.Test.YtnkkjmbpopodlaaDoorG1
import Derived.ScopeJumps
import Derived.WalkMore
import Derived.Scope
import Derived.Deep.QuietTactic
import Derived.BigQuiet
import Derived.Test.YtnkkjmbpopodlaaDoorG2
namespace Go.Proofs.YtnkkjmbpopodlaaDoor
open Go.RowKit Go.Shelf Go.Proofs.YtnkkjmbpopodlaaDoorW.PrintWords Go.Proofs.YtnkkjmbpopodlaaDoorW.PrintMore
attribute [local go_sem] max2_int min2_int max_two min_two
set_option linter.unusedVariables false
set_option linter.unusedSimpArgs false
/-- Literal tokens of bytes. -/
def litF : Nat → List Int → List Int
  | 0, _ => []
  | f + 1, xs => if xs = [] then [] else (((min xs.length 128 : Nat) : Int) - 1) :: (xs.take 128 ++ litF f (xs.drop 128))
def litL (xs : List Int) : List Int := litF xs.length xs
theorem litF_fuel : ∀ (f : Nat) (xs : List Int), xs.length ≤ f → litF f xs = litL xs
  | 0, xs, h => by
    obtain rfl : xs = [] := List.eq_nil_of_length_eq_zero (by omega)
    rfl
  | f + 1, xs, h => by
    by_cases hx : xs = []
    · subst hx; rfl
    · have hp : 0 < xs.length := List.length_pos_iff.2 hx
      obtain ⟨m, hm⟩ : ∃ m, xs.length = m + 1 := ⟨xs.length - 1, by omega⟩
      have hd : (xs.drop 128).length ≤ m := by rw [List.length_drop]; omega
      unfold litL
      rw [hm]
      unfold litF
      rw [if_neg hx, if_neg hx, litF_fuel f _ (by rw [List.length_drop]; omega)]
      by_cases hmf : m = f
      · subst hmf; rw [litF_fuel m _ hd]
      · rw [litF_fuel m _ hd]
termination_by f => f
theorem litL_nil : litL [] = [] := rfl
theorem litL_cons {xs : List Int} (h : 0 < xs.length) : litL xs = (((min xs.length 128 : Nat) : Int) - 1) :: (xs.take (min xs.length 128) ++ litL (xs.drop (min xs.length 128))) := by
  obtain ⟨m, hm⟩ : ∃ m, xs.length = m + 1 := ⟨xs.length - 1, by omega⟩
  have e1 : xs.take 128 = xs.take (min xs.length 128) := by
    by_cases h1 : xs.length ≤ 128
    · rw [List.take_of_length_le h1, List.take_of_length_le (by omega)]
    · rw [show min xs.length 128 = 128 by omega]
  have e2 : xs.drop 128 = xs.drop (min xs.length 128) := by
    by_cases h1 : xs.length ≤ 128
    · rw [List.drop_of_length_le h1, List.drop_of_length_le (by omega)]
    · rw [show min xs.length 128 = 128 by omega]
  rw [← e1, ← e2, ← litF_fuel m (xs.drop 128) (by rw [List.length_drop]; omega)]
  unfold litL
  rw [hm]
  conv => lhs; unfold litF
  rw [if_neg (by rintro rfl; simp at h), hm]
theorem litL_len (n : Nat) : ∀ (xs : List Int), xs.length ≤ n → (litL xs).length ≤ 2 * xs.length := by
  induction n with
  | zero => intro xs h; obtain rfl : xs = [] := List.eq_nil_of_length_eq_zero (by omega); simp [litL_nil]
  | succ n ih =>
    intro xs h
    rcases Nat.eq_zero_or_pos xs.length with h0 | h0
    · obtain rfl : xs = [] := List.eq_nil_of_length_eq_zero h0
      simp [litL_nil]
    · have := ih (xs.drop (min xs.length 128)) (by rw [List.length_drop]; omega)
      rw [litL_cons h0, List.length_cons, List.length_append, List.length_take]
      rw [List.length_drop] at this
      omega
theorem litL_bytes (n : Nat) : ∀ (xs : List Int), xs.length ≤ n → Bytes xs → Bytes (litL xs) := by
  induction n with
  | zero => intro xs h _; obtain rfl : xs = [] := List.eq_nil_of_length_eq_zero (by omega); exact Bytes.nil
  | succ n ih =>
    intro xs h hb
    rcases Nat.eq_zero_or_pos xs.length with h0 | h0
    · obtain rfl : xs = [] := List.eq_nil_of_length_eq_zero h0
      exact Bytes.nil
    · rw [litL_cons h0]
      intro x hx
      rcases List.mem_cons.1 hx with rfl | hx
      · omega
      · exact ((hb.take _).append (ih _ (by rw [List.length_drop]; omega) (hb.drop _))) x hx
/-- The boxes of out (at p4) and own (at p5). -/
structure PkSt (w : World) (p4 p5 : Nat) (vo vn : Value) (out own : List Int) : Prop where
  bo : w.heap[p4]? = some (.cells #[vo] 37 (0, 0))
  bn : w.heap[p5]? = some (.cells #[vn] 37 (0, 0))
  ro : QB w 0 vo out
  rn : QB w 0 vn own
  ap : ∀ k, vo.ownBlock = some k → vn.ownBlock ≠ some k
  ne : p4 ≠ p5
/-- After put: what was own is out, as literals. -/
structure PutPost (w : World) (p4 p5 : Nat) (vo vn : Value) (out own : List Int) (w' : World) : Prop where
  ex : ∃ vo' vn', PkSt w' p4 p5 vo' vn' (out ++ litL own) [] ∧ (vo'.ownBlock = vo.ownBlock ∨ ∃ q, vo'.ownBlock = some q ∧ w.heap.size ≤ q) ∧ vn'.ownBlock = vn.ownBlock
  fr : Fr w w' (fun k => k = p4 ∨ k = p5 ∨ vo.ownBlock = some k)
def sLen (w : World) (p : Nat) : Nat := match w.cell? ⟨p, 0, none⟩ with
  | some (.slice _ n _) => n
  | _ => 0
structure PInv (w : World) (p4 p5 : Nat) (vo vn : Value) (out own o' n' : List Int) (vo' vn' : Value) (wr : World) : Prop where
  st : PkSt wr p4 p5 vo' vn' o' n'
  eq : o' ++ litL n' = out ++ litL own
  le : n'.length ≤ own.length
  fr : Fr w wr (fun k => k = p4 ∨ k = p5 ∨ vo.ownBlock = some k)
  lo : vo'.ownBlock = vo.ownBlock ∨ ∃ q, vo'.ownBlock = some q ∧ w.heap.size ≤ q
  ln : vn'.ownBlock = vn.ownBlock
end Go.Proofs.YtnkkjmbpopodlaaDoor
namespace Go.Proofs.YtnkkjmbpopodlaaDoor
open Go.RowKit Go.Proofs.YtnkkjmbpopodlaaDoorW.PrintWords Go.Proofs.YtnkkjmbpopodlaaDoorW.PrintMore
set_option linter.unusedVariables false
set_option linter.unusedSimpArgs false
/-- What a match is, if there is one. -/
def MOk (b : List Int) (i : Nat) (r : Int × Int) : Prop := r = (0, 0) ∨ ∃ n d : Nat, r = ((n : Int), (d : Int)) ∧ 4 ≤ n ∧ n ≤ 131 ∧ 1 ≤ d ∧ d ≤ 1024 ∧ d ≤ i ∧ i + n ≤ b.length ∧ n = runL b i (i - d)
theorem rstep_ok {b : List Int} {i : Nat} (hi : i ≤ b.length) {r : Int × Int} (h : MOk b i r) {j : Nat} (hj : j < i) (hj2 : j < 1024) : MOk b i (rstep b i r j) := by
  unfold rstep
  split
  · rename_i hc
    exact .inr ⟨runL b i (i - (j + 1)), j + 1, by simp, by omega, runL_le _ _ _, by omega, by omega, by omega, runL_len b i _ hi, rfl⟩
  · exact h
theorem lzM_ok {b : List Int} {i : Nat} (hi : i ≤ b.length) : MOk b i (lzM b i) := by
  unfold lzM
  have key : ∀ (l : List Nat) (r : Int × Int), (∀ j ∈ l, j < i ∧ j < 1024) → MOk b i r → MOk b i (l.foldl (rstep b i) r) := by
    intro l
    induction l with
    | nil => intro r _ h; exact h
    | cons j l ih =>
      intro r hl h
      rw [List.foldl_cons]
      exact ih _ (fun x hx => hl x (by simp [hx])) (rstep_ok hi h (hl j (by simp)).1 (hl j (by simp)).2)
  exact key _ _ (fun j hj => by have := List.mem_range.1 hj; omega) (.inl rfl)
/-- A match's token. -/
def tok (r : Int × Int) : List Int := [124 + r.1, (r.2 - 1) % 256, (r.2 - 1) / 256]
def packF (b : List Int) : Nat → Nat → List Int → List Int → List Int
  | 0, _, own, out => out ++ litL own
  | f + 1, i, own, out => if b.length ≤ i then out ++ litL own else if (lzM b i).1 = 0 then packF b f (i + 1) (own ++ [rd b i]) out else packF b f (i + (lzM b i).1.toNat) [] (out ++ litL own ++ tok (lzM b i))
theorem packF_fuel (b : List Int) : ∀ (f f' i : Nat) (own out : List Int), b.length ≤ i + f → b.length ≤ i + f' → packF b f i own out = packF b f' i own out
  | 0, 0, i, own, out, _, _ => rfl
  | 0, f' + 1, i, own, out, h, _ => by
    unfold packF
    rw [if_pos (by omega)]
  | f + 1, 0, i, own, out, _, h => by
    unfold packF
    rw [if_pos (by omega)]
  | f + 1, f' + 1, i, own, out, h, h' => by
    unfold packF
    split
    · rfl
    · split
      · exact packF_fuel b f f' _ _ _ (by omega) (by omega)
      · rename_i h1 h2
        have hok := lzM_ok (b := b) (i := i) (by omega)
        have : 1 ≤ (lzM b i).1.toNat := by
          rcases hok with e | ⟨n, d, e, h4, _⟩
          · rw [e] at h2; exact absurd rfl h2
          · rw [e]; simp; omega
        exact packF_fuel b f f' _ _ _ (by omega) (by omega)
/-- What comes of it from i on, own being kept, out being out. -/
def packR (b : List Int) (i : Nat) (own out : List Int) : List Int := packF b (b.length - i) i own out
def packL (b : List Int) : List Int := packR b 0 [] []
theorem packR_end {b : List Int} {i : Nat} (h : b.length ≤ i) (own out : List Int) : packR b i own out = out ++ litL own := by
  unfold packR
  rw [show b.length - i = 0 by omega]
  rfl
theorem packR_lit {b : List Int} {i : Nat} (h : i < b.length) (hm : (lzM b i).1 = 0) (own out : List Int) : packR b i own out = packR b (i + 1) (own ++ [rd b i]) out := by
  unfold packR
  obtain ⟨f, hf⟩ : ∃ f, b.length - i = f + 1 := ⟨b.length - i - 1, by omega⟩
  rw [hf]
  conv => lhs; unfold packF
  rw [if_neg (by omega), if_pos hm]
  exact packF_fuel b _ _ _ _ _ (by omega) (by omega)
theorem packR_tok {b : List Int} {i n : Nat} (h : i < b.length) (hm : (lzM b i).1 = n) (hn : 0 < n) (own out : List Int) : packR b i own out = packR b (i + n) [] (out ++ litL own ++ tok (lzM b i)) := by
  unfold packR
  obtain ⟨f, hf⟩ : ∃ f, b.length - i = f + 1 := ⟨b.length - i - 1, by omega⟩
  rw [hf]
  conv => lhs; unfold packF
  rw [if_neg (by omega), if_neg (by omega)]
  rw [hm, Int.toNat_natCast]
  exact packF_fuel b _ _ _ _ _ (by omega) (by omega)
theorem tok_bytes {b : List Int} {i : Nat} {r : Int × Int} (h : MOk b i r) (h0 : r ≠ (0, 0)) : Bytes (tok r) := by
  rcases h with e | ⟨n, d, rfl, h1, h2, h3, h4, _⟩
  · exact absurd e h0
  · intro x hx
    simp only [tok, List.mem_cons, List.not_mem_nil, or_false] at hx
    rcases hx with rfl | rfl | rfl <;> omega
end Go.Proofs.YtnkkjmbpopodlaaDoor
namespace Go.Proofs.YtnkkjmbpopodlaaDoor
open Go.RowKit Go.Shelf Go.Proofs.YtnkkjmbpopodlaaDoorW.PrintWords Go.Proofs.YtnkkjmbpopodlaaDoorW.PrintMore
set_option linter.unusedVariables false
set_option linter.unusedSimpArgs false
section
variable {w0 w w' : World} {g bm p4 p5 : Nat} {A : Option Addr} {N c : Nat} {b : List Int} {i n : Nat} {S : Nat → Prop} {vo vn : Value} {out own : List Int}
end
end Go.Proofs.YtnkkjmbpopodlaaDoor
namespace Go.Proofs.YtnkkjmbpopodlaaDoor
open Go.RowKit Go.Proofs.YtnkkjmbpopodlaaDoorW.PrintWords Go.Proofs.YtnkkjmbpopodlaaDoorW.PrintMore
set_option linter.unusedVariables false
set_option linter.unusedSimpArgs false
theorem rd_0 (x : Int) (t : List Int) : rd (x :: t) 0 = x := rfl
theorem rd_1 (x y : Int) (t : List Int) : rd (x :: y :: t) 1 = y := rfl
theorem rd_2 (x y z : Int) (t : List Int) : rd (x :: y :: z :: t) 2 = z := rfl
/-- The first token: its size, how many bytes it makes, its distance. -/
def tk (q : List Int) : Option (Nat × Nat × Nat) :=
  if rd q 0 < 128 then (if (rd q 0).toNat + 2 ≤ q.length then some ((rd q 0).toNat + 2, (rd q 0).toNat + 1, 0) else none)
  else if q.length < 3 then none else some (3, (rd q 0).toNat - 124, 1 + (rd q 1).toNat + 256 * (rd q 2).toNat)
theorem tk_size {q : List Int} {s n d : Nat} (h : tk q = some (s, n, d)) : 2 ≤ s ∧ s ≤ q.length := by
  unfold tk at h
  split at h
  · split at h
    · simp only [Option.some.injEq, Prod.mk.injEq] at h
      omega
    · cases h
  · split at h
    · cases h
    · simp only [Option.some.injEq, Prod.mk.injEq] at h
      omega
/-- k more bytes, each the one d ahead. -/
def rep (d : Nat) : Nat → List Int → List Int
  | 0, out => out
  | k + 1, out => rep d k (out ++ [rd out ((out.length - d : Nat) : Int)])
theorem rep_len (d : Nat) : ∀ (k : Nat) (out : List Int), (rep d k out).length = out.length + k
  | 0, out => rfl
  | k + 1, out => by rw [rep, rep_len d k, List.length_append, List.length_singleton]; omega
def growU (q out : List Int) (t : Nat × Nat × Nat) : List Int := if t.2.2 = 0 then out ++ midL q 1 t.1 else rep t.2.2 t.2.1 out
/-- What comes of it: the bytes, the error's number. -/
structure UR where
  B : List Int
  E : Int
def unpF (most : Int) : Nat → List Int → List Int → UR
  | 0, _, out => ⟨out, 0⟩
  | f + 1, q, out => if q = [] then ⟨out, 0⟩ else match tk q with
    | none => ⟨[], 2⟩
    | some t => if out.length < t.2.2 then ⟨[], 2⟩ else if most < ((out.length + t.2.1 : Nat) : Int) then ⟨[], 3⟩ else unpF most f (q.drop t.1) (growU q out t)
theorem unpF_fuel (most : Int) : ∀ (f f' : Nat) (q out : List Int), q.length ≤ f → q.length ≤ f' → unpF most f q out = unpF most f' q out
  | 0, 0, q, out, _, _ => rfl
  | 0, f' + 1, q, out, h, _ => by
    obtain rfl : q = [] := List.eq_nil_of_length_eq_zero (by omega)
    simp only [unpF, if_true]
  | f + 1, 0, q, out, _, h => by
    obtain rfl : q = [] := List.eq_nil_of_length_eq_zero (by omega)
    simp only [unpF, if_true]
  | f + 1, f' + 1, q, out, h, h' => by
    by_cases hq : q = []
    · subst hq; simp only [unpF, if_true]
    · simp only [unpF, if_neg hq]
      rcases ht : tk q with _ | ⟨s, n, d⟩
      · rfl
      · have hs := tk_size ht
        have hl : (q.drop s).length ≤ f ∧ (q.drop s).length ≤ f' := by rw [List.length_drop]; omega
        simp only [unpF_fuel most f f' (q.drop s) _ hl.1 hl.2]
/-- What comes of it from q on, out being out. -/
def unpR (most : Int) (q out : List Int) : UR := unpF most q.length q out
section
variable {most : Int} {q out : List Int} {s n d : Nat}
theorem unpR_nil : unpR most [] out = ⟨out, 0⟩ := rfl
theorem len_succ (hq : q ≠ []) : ∃ m, q.length = m + 1 := by
  have := List.length_pos_iff.2 hq
  exact ⟨q.length - 1, by omega⟩
theorem unpR_none (hq : q ≠ []) (h : tk q = none) : unpR most q out = ⟨[], 2⟩ := by
  obtain ⟨m, hm⟩ := len_succ hq
  unfold unpR
  rw [hm]
  simp only [unpF, if_neg hq, h]
theorem unpR_far (hq : q ≠ []) (h : tk q = some (s, n, d)) (hd : out.length < d) : unpR most q out = ⟨[], 2⟩ := by
  obtain ⟨m, hm⟩ := len_succ hq
  unfold unpR
  rw [hm]
  simp only [unpF, if_neg hq, h, if_pos hd]
theorem unpR_range (hq : q ≠ []) (h : tk q = some (s, n, d)) (hd : ¬ out.length < d) (hr : most < ((out.length + n : Nat) : Int)) : unpR most q out = ⟨[], 3⟩ := by
  obtain ⟨m, hm⟩ := len_succ hq
  unfold unpR
  rw [hm]
  simp only [unpF, if_neg hq, h, if_neg hd, if_pos hr]
theorem unpR_step (hq : q ≠ []) (h : tk q = some (s, n, d)) (hd : ¬ out.length < d) (hr : ¬ most < ((out.length + n : Nat) : Int)) : unpR most q out = unpR most (q.drop s) (growU q out (s, n, d)) := by
  obtain ⟨m, hm⟩ := len_succ hq
  have hs := tk_size h
  unfold unpR
  rw [hm]
  simp only [unpF, if_neg hq, h, if_neg hd, if_neg hr]
  exact unpF_fuel most _ _ _ _ (by rw [List.length_drop]; omega) (Nat.le_refl _)
end
theorem tk_lit {m : Nat} (h1 : 1 ≤ m) (h2 : m ≤ 128) {l : List Int} (hl : l.length = m) (q : List Int) : tk (((m : Int) - 1) :: (l ++ q)) = some (m + 1, m, 0) := by
  unfold tk
  rw [rd_0, if_pos (by omega), show ((m : Int) - 1).toNat = m - 1 by omega, if_pos (by rw [List.length_cons, List.length_append]; omega), show m - 1 + 2 = m + 1 by omega, show m - 1 + 1 = m by omega]
theorem grow_lit {m : Nat} {x : Int} {l : List Int} (hl : l.length = m) (q out : List Int) : growU (x :: (l ++ q)) out (m + 1, m, 0) = out ++ l := by
  unfold growU
  rw [if_pos rfl]
  show out ++ List.drop 1 (List.take (m + 1) (x :: (l ++ q))) = _
  rw [List.take_succ_cons, List.drop_succ_cons, List.drop_zero, List.take_left' hl]
theorem drop_lit {m : Nat} {x : Int} {l : List Int} (hl : l.length = m) (q : List Int) : (x :: (l ++ q)).drop (m + 1) = q := by
  rw [List.drop_succ_cons, List.drop_left' hl]
theorem unp_lits (most : Int) (n : Nat) : ∀ (own q out : List Int), own.length ≤ n →
    ((own = [] ∨ ((out.length + own.length : Nat) : Int) ≤ most) → unpR most (litL own ++ q) out = unpR most q (out ++ own)) ∧
    (own ≠ [] → most < ((out.length + own.length : Nat) : Int) → unpR most (litL own ++ q) out = ⟨[], 3⟩) := by
  induction n with
  | zero =>
    intro own q out h
    obtain rfl : own = [] := List.eq_nil_of_length_eq_zero (by omega)
    exact ⟨fun _ => by rw [litL_nil, List.nil_append, List.append_nil], fun h => absurd rfl h⟩
  | succ n ih =>
    intro own q out h
    rcases Nat.eq_zero_or_pos own.length with h0 | h0
    · obtain rfl : own = [] := List.eq_nil_of_length_eq_zero h0
      exact ⟨fun _ => by rw [litL_nil, List.nil_append, List.append_nil], fun h => absurd rfl h⟩
    · obtain ⟨m, hm⟩ : ∃ m, m = min own.length 128 := ⟨_, rfl⟩
      have hl : (own.take m).length = m := by rw [List.length_take]; omega
      have hd : (own.drop m).length = own.length - m := List.length_drop
      have hne : own ≠ [] := fun e => by rw [e] at h0; simp at h0
      obtain ⟨i1, i2⟩ := ih (own.drop m) q (out ++ own.take m) (by omega)
      rw [List.length_append, hl, hd, List.append_assoc, List.take_append_drop] at i1
      rw [List.length_append, hl, hd] at i2
      have hw : litL own ++ q = ((m : Int) - 1) :: (own.take m ++ (litL (own.drop m) ++ q)) := by rw [litL_cons h0, ← hm, List.cons_append, List.append_assoc]
      have ht := tk_lit (m := m) (by omega) (by omega) hl (litL (own.drop m) ++ q)
      have hq : ((m : Int) - 1) :: (own.take m ++ (litL (own.drop m) ++ q)) ≠ [] := by simp
      rw [hw]
      have step : ¬ most < ((out.length + m : Nat) : Int) → unpR most (((m : Int) - 1) :: (own.take m ++ (litL (own.drop m) ++ q))) out = unpR most (litL (own.drop m) ++ q) (out ++ own.take m) := fun hr => by
        rw [unpR_step hq ht (by omega) hr, grow_lit hl, drop_lit hl]
      refine ⟨fun hh => ?_, fun _ hr => ?_⟩
      · rcases hh with hh | hh
        · exact absurd hh hne
        · rw [step (by omega)]
          exact i1 (.inr (by omega))
      · by_cases hr2 : most < ((out.length + m : Nat) : Int)
        · exact unpR_range hq ht (by omega) hr2
        · rw [step hr2]
          exact i2 (fun e => by rw [e] at hd; simp at hd; omega) (by omega)
theorem tk_tok {n d : Nat} (h1 : 4 ≤ n) (h2 : n ≤ 131) (h3 : 1 ≤ d) (h4 : d ≤ 1024) (q : List Int) : tk (tok ((n : Int), (d : Int)) ++ q) = some (3, n, d) := by
  show tk ((124 + (n : Int)) :: (((d : Int) - 1) % 256) :: (((d : Int) - 1) / 256) :: q) = _
  unfold tk
  rw [rd_0, rd_1, rd_2, if_neg (by omega), if_neg (by simp)]
  rw [show (124 + (n : Int)).toNat - 124 = n by omega, show 1 + (((d : Int) - 1) % 256).toNat + 256 * (((d : Int) - 1) / 256).toNat = d by omega]
theorem rd_take {b : List Int} {i p : Nat} (h : p < i) : rd (b.take i) (p : Int) = rd b (p : Int) := by rw [rd_getD, rd_getD, List.getElem?_take_of_lt h]
theorem take_next {b : List Int} {i : Nat} (h : i < b.length) : b.take (i + 1) = b.take i ++ [rd b (i : Int)] := by
  have := midL_snoc (xs := b) (i := 0) (Nat.zero_le i) h
  simpa [midL] using this
theorem rep_run {b : List Int} {d : Nat} (hd : 1 ≤ d) : ∀ (n i : Nat), d ≤ i → i + n ≤ b.length → (∀ x, x < n → rd b ((i + x : Nat) : Int) = rd b ((i - d + x : Nat) : Int)) → rep d n (b.take i) = b.take (i + n)
  | 0, i, _, _, _ => rfl
  | n + 1, i, hi, hl, h => by
    have h0 := h 0 (by omega)
    rw [Nat.add_zero, Nat.add_zero] at h0
    have e : (b.take i).length = i := by rw [List.length_take]; omega
    rw [rep, e, rd_take (by omega), ← h0, ← take_next (by omega), rep_run hd n (i + 1) (by omega) (by omega) (fun x hx => ?_), show i + 1 + n = i + (n + 1) by omega]
    have := h (x + 1) (by omega)
    rwa [show i + (x + 1) = i + 1 + x by omega, show i - d + (x + 1) = i + 1 - d + x by omega] at this
theorem packF_out (b : List Int) : ∀ (f i : Nat) (own out : List Int), packF b f i own out = out ++ packF b f i own []
  | 0, i, own, out => by simp [packF]
  | f + 1, i, own, out => by
    simp only [packF]
    split
    · simp
    · split
      · exact packF_out b f _ _ _
      · rw [packF_out b f _ _ (out ++ litL own ++ tok (lzM b i)), packF_out b f _ _ ([] ++ litL own ++ tok (lzM b i))]
        simp [List.append_assoc]
theorem packR_out (b : List Int) (i : Nat) (own out : List Int) : packR b i own out = out ++ packR b i own [] := packF_out b _ i own out
theorem take_mid {b : List Int} {i j : Nat} (h : i ≤ j) (hj : j ≤ b.length) : b.take i ++ midL b i j = b.take j := by
  unfold midL
  have e : b.take i = (b.take j).take i := by rw [List.take_take, Nat.min_eq_left h]
  rw [e]
  exact List.take_append_drop i (b.take j)
/-- What was packed comes back, or is more than most. -/
theorem unp_rest (most : Int) (b : List Int) (m : Nat) : ∀ (i : Nat) (own : List Int), b.length - i ≤ m → i ≤ b.length → own.length ≤ i → own = midL b (i - own.length) i → ((i - own.length : Nat) : Int) ≤ most →
    unpR most (packR b i own []) (b.take (i - own.length)) = if (b.length : Int) ≤ most then ⟨b, 0⟩ else ⟨[], 3⟩ := by
  induction m with
  | zero =>
    intro i own h1 h2 h3 h4 h5
    obtain rfl : i = b.length := by omega
    have e : (b.take (b.length - own.length)).length = b.length - own.length := by rw [List.length_take]; omega
    have hb := take_mid (b := b) (Nat.sub_le b.length own.length) (Nat.le_refl _)
    rw [← h4, List.take_length] at hb
    obtain ⟨i1, i2⟩ := unp_lits most own.length own [] (b.take (b.length - own.length)) (Nat.le_refl _)
    rw [packR_end (Nat.le_refl _), List.nil_append, ← List.append_nil (litL own)]
    split
    · rw [i1 (.inr (by omega)), unpR_nil, hb]
    · exact i2 (fun e => by rw [e] at h5; simp at h5; omega) (by omega)
  | succ m ih =>
    intro i own h1 h2 h3 h4 h5
    have e : (b.take (i - own.length)).length = i - own.length := by rw [List.length_take]; omega
    have hb := take_mid (b := b) (Nat.sub_le i own.length) h2
    rw [← h4] at hb
    have l1 := fun q => (unp_lits most own.length own q (b.take (i - own.length)) (Nat.le_refl _)).1
    have l2 := fun q => (unp_lits most own.length own q (b.take (i - own.length)) (Nat.le_refl _)).2
    by_cases hi : i = b.length
    · exact ih i own (by omega) h2 h3 h4 h5
    · by_cases hz : (lzM b i).1 = 0
      · rw [packR_lit (by omega) hz]
        have hl : (own ++ [rd b (i : Int)]).length = own.length + 1 := by rw [List.length_append, List.length_singleton]
        have := ih (i + 1) (own ++ [rd b (i : Int)]) (by omega) (by omega) (by omega) (by rw [hl, show i + 1 - (own.length + 1) = i - own.length by omega, midL_snoc (by omega) (by omega), ← h4]) (by rw [hl]; omega)
        rw [hl, show i + 1 - (own.length + 1) = i - own.length by omega] at this
        exact this
      · rcases lzM_ok (b := b) (i := i) h2 with e0 | ⟨n, d, hr, hn4, hn131, hd1, hd1024, hdi, hin, hrun⟩
        · exact absurd (by rw [e0]) hz
        have hr1 : (lzM b i).1 = (n : Int) := by rw [hr]
        rw [packR_tok (by omega) hr1 (by omega), packR_out, List.nil_append, List.append_assoc, hr]
        by_cases hm : (i : Int) ≤ most
        · rw [l1 _ (.inr (by omega)), hb]
          have ht := tk_tok hn4 hn131 hd1 hd1024 (packR b (i + n) [] [])
          have hq : tok ((n : Int), (d : Int)) ++ packR b (i + n) [] [] ≠ [] := by simp [tok]
          have e2 : (b.take i).length = i := by rw [List.length_take]; omega
          by_cases hmn : most < ((i + n : Nat) : Int)
          · rw [unpR_range hq ht (by omega) (by omega), if_neg (by omega)]
          · rw [unpR_step hq ht (by omega) (by omega)]
            have hg : growU (tok ((n : Int), (d : Int)) ++ packR b (i + n) [] []) (b.take i) (3, n, d) = b.take (i + n) := by
              unfold growU
              rw [if_neg (by show ¬ d = 0; omega)]
              refine rep_run hd1 n i hdi hin (fun x hx => ?_)
              exact (runL_gt (b := b) (i := i) (k := i - d) (n := x) (by omega)).2.2
            rw [hg, show (tok ((n : Int), (d : Int)) ++ packR b (i + n) [] []).drop 3 = packR b (i + n) [] [] from rfl]
            have := ih (i + n) [] (by omega) hin (by simp) (by simp [midL_self]) (by simp; omega)
            simpa using this
        · rw [l2 _ (fun e => by rw [e] at h5; simp at h5; omega) (by omega), if_neg (by omega)]
/-- Unpack. -/
def unp (most : Int) (p : List Int) : UR := unpR most p []
theorem unp_pack (most : Int) (h : 0 ≤ most) (b : List Int) : unp most (packL b) = if (b.length : Int) ≤ most then ⟨b, 0⟩ else ⟨[], 3⟩ := by
  have := unp_rest most b b.length 0 [] (by omega) (by omega) (by simp) (by simp [midL_self]) (by simpa using h)
  show unpR most (packR b 0 [] []) [] = _
  simpa using this
theorem litL_len2 (n : Nat) : ∀ (xs : List Int), xs.length ≤ n → (litL xs).length = xs.length + (xs.length + 127) / 128 := by
  induction n with
  | zero => intro xs h; obtain rfl : xs = [] := List.eq_nil_of_length_eq_zero (by omega); simp [litL_nil]
  | succ n ih =>
    intro xs h
    rcases Nat.eq_zero_or_pos xs.length with h0 | h0
    · obtain rfl : xs = [] := List.eq_nil_of_length_eq_zero h0
      simp [litL_nil]
    · have := ih (xs.drop (min xs.length 128)) (by rw [List.length_drop]; omega)
      rw [litL_cons h0, List.length_cons, List.length_append, List.length_take, this, List.length_drop]
      omega
theorem packR_len (b : List Int) (m : Nat) : ∀ (i : Nat) (own : List Int), b.length - i ≤ m → i ≤ b.length → (packR b i own []).length ≤ own.length + (b.length - i) + (own.length + (b.length - i) + 127) / 128 := by
  induction m with
  | zero =>
    intro i own h1 h2
    rw [packR_end (by omega), List.nil_append, litL_len2 _ own (Nat.le_refl _)]
    omega
  | succ m ih =>
    intro i own h1 h2
    by_cases hi : i = b.length
    · exact ih i own (by omega) h2
    · by_cases hz : (lzM b i).1 = 0
      · rw [packR_lit (by omega) hz]
        have := ih (i + 1) (own ++ [rd b (i : Int)]) (by omega) (by omega)
        rw [List.length_append, List.length_singleton] at this
        omega
      · rcases lzM_ok (b := b) (i := i) h2 with e0 | ⟨n, d, hr, hn4, hn131, hd1, hd1024, hdi, hin, hrun⟩
        · exact absurd (by rw [e0]) hz
        have hr1 : (lzM b i).1 = (n : Int) := by rw [hr]
        have := ih (i + n) [] (by omega) hin
        rw [packR_tok (by omega) hr1 (by omega), packR_out, List.length_append, List.nil_append, List.length_append, litL_len2 _ own (Nat.le_refl _)]
        have ht : (tok (lzM b i)).length = 3 := rfl
        rw [List.length_nil] at this
        omega
theorem pack_len (b : List Int) : (packL b).length ≤ b.length + (b.length + 127) / 128 := by
  have := packR_len b b.length 0 [] (by omega) (by omega)
  show (packR b 0 [] []).length ≤ _
  simpa using this
theorem packR_bytes (b : List Int) (hb : Bytes b) (m : Nat) : ∀ (i : Nat) (own : List Int), b.length - i ≤ m → i ≤ b.length → Bytes own → Bytes (packR b i own []) := by
  induction m with
  | zero =>
    intro i own h1 h2 ho
    rw [packR_end (by omega), List.nil_append]
    exact litL_bytes _ own (Nat.le_refl _) ho
  | succ m ih =>
    intro i own h1 h2 ho
    by_cases hi : i = b.length
    · exact ih i own (by omega) h2 ho
    · by_cases hz : (lzM b i).1 = 0
      · rw [packR_lit (by omega) hz]
        exact ih (i + 1) _ (by omega) (by omega) (ho.append (Bytes.one (hb.at_ _).1 (hb.at_ _).2))
      · have hok := lzM_ok (b := b) (i := i) h2
        have hne : lzM b i ≠ (0, 0) := fun e => hz (by rw [e])
        have htb := tok_bytes hok hne
        rcases hok with e0 | ⟨n, d, hr, hn4, hn131, hd1, hd1024, hdi, hin, hrun⟩
        · exact absurd e0 hne
        have hr1 : (lzM b i).1 = (n : Int) := by rw [hr]
        rw [packR_tok (by omega) hr1 (by omega), packR_out, List.nil_append]
        exact ((litL_bytes _ own (Nat.le_refl _) ho).append htb).append (ih (i + n) [] (by omega) hin Bytes.nil)
theorem packL_bytes {b : List Int} (hb : Bytes b) : Bytes (packL b) := packR_bytes b hb b.length 0 [] (by omega) (by omega) Bytes.nil
end Go.Proofs.YtnkkjmbpopodlaaDoor
namespace Go.Proofs.YtnkkjmbpopodlaaDoor
open Go.Proofs.YtnkkjmbpopodlaaDoorW.PrintLast (i64_w i32_w)
open Go.RowKit Go.Shelf Go.Proofs.YtnkkjmbpopodlaaDoorW.PrintWords Go.Proofs.YtnkkjmbpopodlaaDoorW.PrintMore
set_option linter.unusedVariables false
set_option linter.unusedSimpArgs false
theorem add_0 (a : Addr) : a.add 0 = a := by
  obtain ⟨b, o, q⟩ := a
  cases q <;> simp [Addr.add]
theorem results_tmp4 {fn : Func} {t u v x : Tmp} (h : fn.results = #[.tmp t, .tmp u, .tmp v, .tmp x]) (tmps : Array Value) (P : Program) (w : World) :
    (results fn tmps).run P w = .ok (.tuple #[tmps.getD t undef, tmps.getD u undef, tmps.getD v undef, tmps.getD x undef]) w := by
  simp [results, h]
def TokPost (q : List Int) (e : Ending) : Prop := ∃ (s n d : Nat) (ok : Bool), e = .returned (.tuple #[.int .i64 s, .int .i64 n, .int .i64 d, .bool ok]) ∧ (tk q = some (s, n, d) ∧ ok = true ∨ tk q = none ∧ ok = false)
set_option maxRecDepth 20000 in
theorem token_calls (A : Option Addr) (N c : Nat) (q : List Int) (w : World) (h : RdB w A N q) (hb : Bytes q) (hp : 0 < N) (hN : N ≤ 1099511627776) :
    Calls Tryd.prog 91 #[.slice A N c] w fun e w' => TokPost q e ∧ Below w.heap.size w w' := by
  have hl := h.1
  obtain ⟨ad, ea⟩ : ∃ ad, A = some ad := by obtain ⟨ad, e, _⟩ := Kd.at_int h 0 (by omega) (by omega); exact ⟨ad, e⟩
  subst ea
  have hc0 : w.cell? ad = some (.int .u8 (rd q 0)) := by have := rdB_at h 0 hp; rwa [add_0] at this
  have hx := hb.at_ 0
  obtain ⟨x, hx0⟩ := Int.eq_ofNat_of_zero_le hx.1
  have HX := Aside0.mk h
  clear h
  by_cases h128 : x < 128
  · have h128I : (x : Int) < 128 := by omega
    by_cases hs : x + 2 ≤ N
    · have hsI : (x : Int) + 2 ≤ (N : Int) := by omega
      have HT : Aside0 (tk q = some (x + 2, x + 1, 0)) := ⟨by unfold tk; rw [hx0, if_pos h128I, Int.toNat_natCast, if_pos (by omega)]⟩
      rw [hx0] at hc0 hx
      clear hx0 hl
      go_enter Tryd.func91, Tryd.ntmps91
      go_wp2
      refine bodyPost_ret (results_tmp4 rfl _ _ _) rfl ?_
      exact ⟨⟨x + 2, x + 1, 0, true, rfl, .inl ⟨HT.out, rfl⟩⟩, Below.refl _ _⟩
    · have hsI : ¬ (x : Int) + 2 ≤ (N : Int) := by omega
      have HT : Aside0 (tk q = none) := ⟨by unfold tk; rw [hx0, if_pos h128I, Int.toNat_natCast, if_neg (by omega)]⟩
      rw [hx0] at hc0 hx
      clear hx0 hl
      go_enter Tryd.func91, Tryd.ntmps91
      go_wp2
      refine bodyPost_ret (results_tmp4 rfl _ _ _) rfl ?_
      exact ⟨⟨x + 2, x + 1, 0, false, rfl, .inr ⟨HT.out, rfl⟩⟩, Below.refl _ _⟩
  · by_cases hs : 3 ≤ N
    · have hsI : ¬ (N : Int) < 3 := by omega
      have h128I : ¬ (x : Int) < 128 := by omega
      have hc1 : w.cell? ⟨ad.block, ad.off + 1, none⟩ = some (.int .u8 (rd q 1)) := rdB_at HX.out 1 (by omega)
      have hc2 : w.cell? ⟨ad.block, ad.off + 2, none⟩ = some (.int .u8 (rd q 2)) := rdB_at HX.out 2 (by omega)
      have hy := hb.at_ 1
      have hz := hb.at_ 2
      obtain ⟨y, hy0⟩ := Int.eq_ofNat_of_zero_le hy.1
      obtain ⟨z, hz0⟩ := Int.eq_ofNat_of_zero_le hz.1
      have HT : Aside0 (tk q = some (3, x - 124, 1 + y + 256 * z)) := ⟨by unfold tk; rw [hx0, if_neg h128I, hy0, hz0, Int.toNat_natCast, Int.toNat_natCast, Int.toNat_natCast, if_neg (by omega)]⟩
      rw [hx0] at hc0 hx
      rw [hy0] at hc1 hy
      rw [hz0] at hc2 hz
      have h1I : (1 : Int) < (N : Int) := by omega
      have h2I : (2 : Int) < (N : Int) := by omega
      clear hx0 hy0 hz0 hl
      go_enter Tryd.func91, Tryd.ntmps91
      go_wp2_with fail
      have HC1 := Aside0.mk ((World.cell?_drew w ⟨ad.block, ad.off + 1, none⟩).trans hc1)
      have HC2 := Aside0.mk ((World.cell?_drew w ⟨ad.block, ad.off + 2, none⟩).trans hc2)
      refine seq_start [] (.take 0 (.take 1 (.take 2 (.take 3 (.take 4 (.take 5 (.take 6 (.take 7 (.take 8 (.take 9 (.take 10 (.take 11 (.take 12 (.take 13 (.take 14 (.take 15 (.take 16 (.take 17 .done)))))))))))))))))) (by kernel_rfl) (by kernel_rfl) (fun _ _ d _ _ h => by cases d <;> exact h) ?_
      refine seq_take (v := ?_) (a' := ?_) rfl rfl (by rfl) (fun w' hw' => ?_) ?_ ?_
      rotate_left 2
      · go_simp
        with_reducible rfl
      · simp only [Act.put, List.setIfInBounds_toArray, List.set_cons_zero, List.set_cons_succ, i64_w, i32_w]
        rfl
      refine seq_take (v := ?_) (a' := ?_) rfl rfl (by rfl) (fun w' hw' => ?_) ?_ ?_
      rotate_left 2
      · go_simp
        with_reducible rfl
      · simp only [Act.put, List.setIfInBounds_toArray, List.set_cons_zero, List.set_cons_succ, i64_w, i32_w]
        rfl
      refine seq_take (v := ?_) (a' := ?_) rfl rfl (by rfl) (fun w' hw' => ?_) ?_ ?_
      rotate_left 2
      · go_simp
        with_reducible rfl
      · simp only [Act.put, List.setIfInBounds_toArray, List.set_cons_zero, List.set_cons_succ, i64_w, i32_w]
        rfl
      refine seq_take (v := ?_) (a' := ?_) rfl rfl (by rfl) (fun w' hw' => ?_) ?_ ?_
      rotate_left 2
      · go_simp
        with_reducible rfl
      · simp only [Act.put, List.setIfInBounds_toArray, List.set_cons_zero, List.set_cons_succ, i64_w, i32_w]
        rfl
      refine seq_take (v := ?_) (a' := ?_) rfl rfl (by rfl) (fun w' hw' => ?_) ?_ ?_
      rotate_left 2
      · go_simp
        with_reducible rfl
      · simp only [Act.put, List.setIfInBounds_toArray, List.set_cons_zero, List.set_cons_succ, i64_w, i32_w]
        rfl
      refine seq_take (v := ?_) (a' := ?_) rfl rfl (by rfl) (fun w' hw' => ?_) ?_ ?_
      rotate_left 2
      · have hq := pw_cell_below hw' HC1.out; go_simp
        with_reducible rfl
      · simp only [Act.put, List.setIfInBounds_toArray, List.set_cons_zero, List.set_cons_succ, i64_w, i32_w]
        rfl
      refine seq_take (v := ?_) (a' := ?_) rfl rfl (by rfl) (fun w' hw' => ?_) ?_ ?_
      rotate_left 2
      · go_simp
        with_reducible rfl
      · simp only [Act.put, List.setIfInBounds_toArray, List.set_cons_zero, List.set_cons_succ, i64_w, i32_w]
        rfl
      refine seq_take (v := ?_) (a' := ?_) rfl rfl (by rfl) (fun w' hw' => ?_) ?_ ?_
      rotate_left 2
      · go_simp
        with_reducible rfl
      · simp only [Act.put, List.setIfInBounds_toArray, List.set_cons_zero, List.set_cons_succ, i64_w, i32_w]
        rfl
      refine seq_take (v := ?_) (a' := ?_) rfl rfl (by rfl) (fun w' hw' => ?_) ?_ ?_
      rotate_left 2
      · go_simp
        with_reducible rfl
      · simp only [Act.put, List.setIfInBounds_toArray, List.set_cons_zero, List.set_cons_succ, i64_w, i32_w]
        rfl
      refine seq_take (v := ?_) (a' := ?_) rfl rfl (by rfl) (fun w' hw' => ?_) ?_ ?_
      rotate_left 2
      · go_simp
        with_reducible rfl
      · simp only [Act.put, List.setIfInBounds_toArray, List.set_cons_zero, List.set_cons_succ, i64_w, i32_w]
        rfl
      refine seq_take (v := ?_) (a' := ?_) rfl rfl (by rfl) (fun w' hw' => ?_) ?_ ?_
      rotate_left 2
      · have hq := pw_cell_below hw' HC2.out; go_simp
        with_reducible rfl
      · simp only [Act.put, List.setIfInBounds_toArray, List.set_cons_zero, List.set_cons_succ, i64_w, i32_w]
        rfl
      refine seq_take (v := ?_) (a' := ?_) rfl rfl (by rfl) (fun w' hw' => ?_) ?_ ?_
      rotate_left 2
      · go_simp
        with_reducible rfl
      · simp only [Act.put, List.setIfInBounds_toArray, List.set_cons_zero, List.set_cons_succ, i64_w, i32_w]
        rfl
      refine seq_take (v := ?_) (a' := ?_) rfl rfl (by rfl) (fun w' hw' => ?_) ?_ ?_
      rotate_left 2
      · go_simp
        with_reducible rfl
      · simp only [Act.put, List.setIfInBounds_toArray, List.set_cons_zero, List.set_cons_succ, i64_w, i32_w]
        rfl
      refine seq_take (v := ?_) (a' := ?_) rfl rfl (by rfl) (fun w' hw' => ?_) ?_ ?_
      rotate_left 2
      · go_simp
        with_reducible rfl
      · simp only [Act.put, List.setIfInBounds_toArray, List.set_cons_zero, List.set_cons_succ, i64_w, i32_w]
        rfl
      refine seq_take (v := ?_) (a' := ?_) rfl rfl (by rfl) (fun w' hw' => ?_) ?_ ?_
      rotate_left 2
      · go_simp
        with_reducible rfl
      · simp only [Act.put, List.setIfInBounds_toArray, List.set_cons_zero, List.set_cons_succ, i64_w, i32_w]
        rfl
      refine seq_take (v := ?_) (a' := ?_) rfl rfl (by rfl) (fun w' hw' => ?_) ?_ ?_
      rotate_left 2
      · go_simp
        with_reducible rfl
      · simp only [Act.put, List.setIfInBounds_toArray, List.set_cons_zero, List.set_cons_succ, i64_w, i32_w]
        rfl
      refine seq_take (v := ?_) (a' := ?_) rfl rfl (by rfl) (fun w' hw' => ?_) ?_ ?_
      rotate_left 2
      · go_simp
        with_reducible rfl
      · simp only [Act.put, List.setIfInBounds_toArray, List.set_cons_zero, List.set_cons_succ, i64_w, i32_w]
        rfl
      refine seq_take (v := ?_) (a' := ?_) rfl rfl (by rfl) (fun w' hw' => ?_) ?_ ?_
      rotate_left 2
      · go_simp
        with_reducible rfl
      · simp only [Act.put, List.setIfInBounds_toArray, List.set_cons_zero, List.set_cons_succ, i64_w, i32_w]
        rfl
      refine seq_end ?_
      go_wp2
      refine bodyPost_ret (results_tmp4 rfl _ _ _) rfl ?_
      exact ⟨⟨3, x - 124, 1 + y + 256 * z, true, (by
        show Ending.returned (.tuple #[.int .i64 3, .int .i64 (wrap64 (wrap64 ((x : Int) - 128) + 4)), .int .i64 (wrap64 (wrap64 (1 + wrap64 (y : Int)) + wrap64 (wrap64 (z : Int) * 256))), .bool true]) = _
        rw [show wrap64 (wrap64 ((x : Int) - 128) + 4) = ((x - 124 : Nat) : Int) by unfold wrap64; omega, show wrap64 (wrap64 (1 + wrap64 (y : Int)) + wrap64 (wrap64 (z : Int) * 256)) = ((1 + y + 256 * z : Nat) : Int) by unfold wrap64; omega]
        rfl), .inl ⟨HT.out, rfl⟩⟩, Below.drew (Below.refl _ _)⟩
    · have hsI : (N : Int) < 3 := by omega
      have h128I : ¬ (x : Int) < 128 := by omega
      have HT : Aside0 (tk q = none) := ⟨by unfold tk; rw [hx0, if_neg h128I, if_pos (by omega)]⟩
      rw [hx0] at hc0 hx
      clear hx0 hl
      go_enter Tryd.func91, Tryd.ntmps91
      go_wp2
      refine bodyPost_ret (results_tmp4 rfl _ _ _) rfl ?_
      exact ⟨⟨0, 0, 0, false, rfl, .inr ⟨HT.out, rfl⟩⟩, Below.refl _ _⟩
end Go.Proofs.YtnkkjmbpopodlaaDoor
namespace Go.Proofs.YtnkkjmbpopodlaaDoor
open Go.RowKit Go.Proofs.YtnkkjmbpopodlaaDoorW.PrintWords Go.Proofs.YtnkkjmbpopodlaaDoorW.PrintMore
set_option linter.unusedVariables false
set_option linter.unusedSimpArgs false
/-- Numbers that are read. -/
abbrev RdN (w : World) (A : Option Addr) (n : Nat) (xs : List Int) : Prop := (Kd.int .i64).C w A n xs
structure MadeI (w : World) (v : Value) (xs : List Int) (wr : World) : Prop where
  own : OwB wr w.heap.size v xs
  by_ : Bytes xs
  below : Below w.heap.size w wr
end Go.Proofs.YtnkkjmbpopodlaaDoor
namespace Go.Proofs.YtnkkjmbpopodlaaDoor
open Go.RowKit Go.Shelf Go.Proofs.YtnkkjmbpopodlaaDoorW.PrintWords Go.Proofs.YtnkkjmbpopodlaaDoorW.PrintMore
set_option linter.unusedVariables false
set_option linter.unusedSimpArgs false
theorem tk_bounds {q : List Int} (hb : Bytes q) {s n d : Nat} (h : tk q = some (s, n, d)) : n ≤ 131 ∧ (d = 0 → s = n + 1) ∧ d ≤ 65536 ∧ 1 ≤ n := by
  have h0 := hb.at_ 0
  have h1 := hb.at_ 1
  have h2 := hb.at_ 2
  unfold tk at h
  split at h
  · split at h
    · simp only [Option.some.injEq, Prod.mk.injEq] at h
      omega
    · cases h
  · split at h
    · cases h
    · simp only [Option.some.injEq, Prod.mk.injEq] at h
      omega
def slN (v : Value) : Nat := match v with
  | .slice _ n _ => n
  | _ => 0
structure UnI (w : World) (N : Nat) (most : Int) (p : List Int) (q out : List Int) (A : Option Addr) (c : Nat) (v : Value) (wr : World) : Prop where
  rd : RdB w A q.length q
  qb : Bytes q
  le : q.length ≤ c
  ln : q.length ≤ N
  lo : out.length + 131 * q.length ≤ 131 * N
  eq : unpR most q out = unp most p
  md : MadeI w v out wr
theorem TokPost.none_ {q : List Int} {e : Ending} (h : TokPost q e) (ht : tk q = none) : ∃ (s n d : Nat), e = .returned (.tuple #[.int .i64 s, .int .i64 n, .int .i64 d, .bool false]) := by
  obtain ⟨s, n, d, ok, he, hk⟩ := h
  rcases hk with ⟨hk, _⟩ | ⟨_, rfl⟩
  · rw [ht] at hk; cases hk
  · exact ⟨s, n, d, he⟩
theorem TokPost.some_ {q : List Int} {e : Ending} {s n d : Nat} (h : TokPost q e) (ht : tk q = some (s, n, d)) : e = .returned (.tuple #[.int .i64 s, .int .i64 n, .int .i64 d, .bool true]) := by
  obtain ⟨s', n', d', ok, he, hk⟩ := h
  rcases hk with ⟨hk, rfl⟩ | ⟨hk, _⟩
  · rw [ht] at hk
    simp only [Option.some.injEq, Prod.mk.injEq] at hk
    obtain ⟨rfl, rfl, rfl⟩ := hk
    exact he
  · rw [ht] at hk; cases hk
structure UnPost (w : World) (r : UR) (e : Ending) (w' : World) : Prop where
  ex : ∃ v, e = .returned (.tuple #[v, .int .i64 r.E]) ∧ OwB w' w.heap.size v r.B ∧ Bytes r.B
  below : Below w.heap.size w w'
set_option maxRecDepth 20000 in
set_option maxHeartbeats 1600000 in
theorem unpack_calls (A : Option Addr) (N c : Nat) (p : List Int) (most : Int) (w : World) (h : RdB w A N p) (hb : Bytes p) (hc : N ≤ c) (hN : N ≤ 549755813888) :
    Calls Tryd.prog 72 #[.slice A N c, .int .i64 most] w fun e w' => UnPost w (unp most p) e w' := by
  obtain rfl : p.length = N := h.1
  have HX := Aside0.mk h
  clear h
  have hw64 : ∀ (a b : Nat), a + b ≤ 1000000000000000 → wrap64 ((a : Int) + (b : Int)) = (a : Int) + (b : Int) := fun a b h => by unfold wrap64; omega
  have HW := Aside0.mk hw64
  clear hw64
  go_enter Tryd.func72, Tryd.ntmps72
  go_wp2
  go_loopw [0, 6, 7, 8, 9, 10, 11] (fun x v _ _ _ _ _ wr => ∃ (q out : List Int) (A' : Option Addr) (c' : Nat), x = .slice A' q.length c' ∧ UnI w p.length most p q out A' c' v wr) (fun x _ _ _ _ _ _ _ => slN x)
  case atStart => exact ⟨p, [], A, c, rfl, HX.out, hb, hc, Nat.le_refl _, by simp, rfl, Kd.R_nil _ _ _ _ _, Bytes.nil, Below.refl _ _⟩
  case round =>
    obtain ⟨q, out, A', c', rfl, hI⟩ := hrel
    have HI := Aside0.mk hI
    have hout := hI.lo
    have hln := hI.ln
    obtain ⟨B, d0, rfl, hd0, hr0⟩ := hI.md.own.reads
    have HR := Aside0.mk hr0
    clear hI hr0
    by_cases hq : 0 < q.length
    · have hqI : (0 : Int) < (q.length : Int) := by omega
      have hqn : q ≠ [] := List.length_pos_iff.1 hq
      have HM := Aside0.mk HI.out.md
      rcases ht : tk q with _ | ⟨s, n, d⟩
      · have HT := Aside0.mk ht
        clear ht
        go_wp2_with (first
          | (go_at_call 91; (with_reducible refine at_cw wr ?_); refine (token_calls A' q.length c' q wr (Kd.C_below HI.out.rd HM.out.below) HI.out.qb hq (by omega)).mono ?_; rintro e w5 ⟨htk, hB⟩; obtain ⟨s, n, d, rfl⟩ := htk.none_ HT.out; have L5 : Aside0 (Later wr w5) := ⟨hB⟩; clear hB htk))
        (try simp only [Exit.inBlock, Exit.then])
        refine bodyPost_ret (results_tmp2 rfl _ _ _) rfl ?_
        have he := HI.out.eq
        rw [unpR_none hqn HT.out] at he
        rw [← he]
        exact ⟨⟨_, rfl, Kd.R_nil _ _ _ _ _, Bytes.nil⟩, Later.trans HM.out.below L5.out |> fun (h : Later w w5) => h⟩
      · obtain ⟨hn1, hs0, hd6, hn0⟩ := tk_bounds HI.out.qb ht
        obtain ⟨hs2, hsq⟩ := tk_size ht
        have HT := Aside0.mk ht
        clear ht
        have hwn := HW.out out.length n (by omega)
        by_cases hfar : out.length < d
        · have hfI : (out.length : Int) < (d : Int) := by omega
          go_wp2_with (first
            | (go_at_call 91; (with_reducible refine at_cw wr ?_); refine (token_calls A' q.length c' q wr (Kd.C_below HI.out.rd HM.out.below) HI.out.qb hq (by omega)).mono ?_; rintro e w5 ⟨htk, hB⟩; obtain rfl := htk.some_ HT.out; have L5 : Aside0 (Later wr w5) := ⟨hB⟩; clear hB htk))
          (try simp only [Exit.inBlock, Exit.then])
          refine bodyPost_ret (results_tmp2 rfl _ _ _) rfl ?_
          have he := HI.out.eq
          rw [unpR_far hqn HT.out hfar] at he
          rw [← he]
          exact ⟨⟨_, rfl, Kd.R_nil _ _ _ _ _, Bytes.nil⟩, Later.trans HM.out.below L5.out |> fun (h : Later w w5) => h⟩
        · have hfI : ¬ (out.length : Int) < (d : Int) := by omega
          by_cases hrg : most < ((out.length + n : Nat) : Int)
          · have hrI : most < (out.length : Int) + (n : Int) := by omega
            go_wp2_with (first
              | (go_at_call 91; (with_reducible refine at_cw wr ?_); refine (token_calls A' q.length c' q wr (Kd.C_below HI.out.rd HM.out.below) HI.out.qb hq (by omega)).mono ?_; rintro e w5 ⟨htk, hB⟩; obtain rfl := htk.some_ HT.out; have L5 : Aside0 (Later wr w5) := ⟨hB⟩; clear hB htk))
            (try simp only [Exit.inBlock, Exit.then])
            refine bodyPost_ret (results_tmp2 rfl _ _ _) rfl ?_
            have he := HI.out.eq
            rw [unpR_range hqn HT.out hfar hrg] at he
            rw [← he]
            exact ⟨⟨_, rfl, Kd.R_nil _ _ _ _ _, Bytes.nil⟩, Later.trans HM.out.below L5.out |> fun (h : Later w w5) => h⟩
          · have hrI : ¬ most < (out.length : Int) + (n : Int) := by omega
            obtain ⟨z, hz⟩ : ∃ z : Int, z = (s : Int) := ⟨_, rfl⟩
            obtain ⟨B2, hcut, hr2⟩ : ∃ B2, (∀ W : World, (Instr.slice 37 (.slice A' q.length c') (some (.int .i64 z)) none none).run Tryd.prog W = .ok (.slice B2 (q.length - s) (c' - s)) W) ∧ RdB w B2 (q.length - s) (q.drop s) := by
              have := cutFrom HI.out.rd HI.out.le z (by omega) (by omega)
              rw [show z.toNat = s by omega] at this
              exact ⟨_, this⟩
            have HR2 := Aside0.mk hr2
            have HST : Aside0 (unpR most (q.drop s) (growU q out (s, n, d)) = unp most p) := ⟨by rw [← unpR_step hqn HT.out hfar hrg]; exact HI.out.eq⟩
            have hdl : (q.drop s).length = q.length - s := List.length_drop
            clear hr2
            by_cases hd : d = 0
            · subst hd
              obtain rfl : s = n + 1 := hs0 rfl
              obtain rfl : z = (n : Int) + 1 := by omega
              clear hz
              obtain ⟨B3, c3, hmid, hr3⟩ : ∃ B3 c3, (∀ W : World, (Instr.slice 37 (.slice A' q.length c') (some (.int .i64 1)) (some (.int .i64 ((n : Int) + 1))) none).run Tryd.prog W = .ok (.slice B3 n c3) W) ∧ RdB w B3 n (midL q 1 (n + 1)) := by
                have := cutMid HI.out.rd HI.out.le 1 ((n : Int) + 1) (by omega) (by omega) (by omega)
                rw [show ((n : Int) + 1).toNat = n + 1 by omega] at this
                exact ⟨_, _, this⟩
              have HR3 := Aside0.mk hr3
              clear hr3
              go_wp2_with (first
                | (go_at_call 91; (with_reducible refine at_cw wr ?_); refine (token_calls A' q.length c' q wr (Kd.C_below HI.out.rd HM.out.below) HI.out.qb hq (by omega)).mono ?_; rintro e w5 ⟨htk, hB⟩; obtain rfl := htk.some_ HT.out; have L5 : Aside0 (Later wr w5) := ⟨hB⟩; clear hB htk)
                | (at_builtin; refine appBs (w0 := w) w.heap.size rfl (.tmp 38) (.tmp 41) rfl _ out (midL q 1 (n + 1)) B3 n c3 rfl rfl (HM.out.own.below L5.out) (Kd.C_below HR3.out (Later.trans HM.out.below L5.out)) (Later.trans HM.out.below L5.out) (Later.size (Later.trans HM.out.below L5.out)) (by omega) ?_; intro v6 w6 hO6 hB6 _ _))
              have M6 : Aside0 (MadeI w v6 (out ++ midL q 1 (n + 1)) w6) := ⟨⟨hO6, HM.out.by_.append (HI.out.qb.mid 1 (n + 1)), hB6⟩⟩
              have hml : (midL q 1 (n + 1)).length = n := by rw [midL_len (by omega)]; omega
              have hgr : growU q out (n + 1, n, 0) = out ++ midL q 1 (n + 1) := by unfold growU; rw [if_pos rfl]
              have hll : (out ++ midL q 1 (n + 1)).length + 131 * (q.length - (n + 1)) ≤ 131 * p.length := by rw [List.length_append, hml]; omega
              have I2 : Aside0 (UnI w p.length most p (q.drop (n + 1)) (growU q out (n + 1, n, 0)) B2 (c' - (n + 1)) v6 w6) := ⟨⟨by rw [hdl]; exact HR2.out, HI.out.qb.drop _, by have := HI.out.le; omega, by omega, by rw [hdl, hgr]; exact hll, HST.out, by rw [hgr]; exact M6.out⟩⟩
              clear hO6 hB6 hml hgr hll
              obtain ⟨wx, hwx⟩ : ∃ wx, wx = w6 := ⟨_, rfl⟩
              go_loopw [6, 11] (fun v k wq => v6 = v ∧ k = .int .i64 0 ∧ w6 = wq) (fun _ _ _ => 0)
              case atStart => exact ⟨rfl, rfl, rfl⟩
              case round =>
                obtain ⟨rfl, rfl, rfl⟩ := hrel
                go_wp2
                go_roundw
                case rel => exact ⟨_, _, _, _, by rw [hdl], I2.out⟩
                case measure => simp only [slN]; omega
            · have hd0I : ¬ (d : Int) = 0 := by omega
              have hdb : ((d : Int) == 0) = false := by rw [beq_eq_false_iff_ne]; omega
              have hdI : (0 : Int) < (d : Int) := by omega
              subst hz
              have M5 : Aside0 (∀ w5, Later wr w5 → MadeI w (.slice B out.length d0) out w5) := ⟨fun w5 h => ⟨HM.out.own.below h, HM.out.by_, Later.trans HM.out.below h |> fun (h : Later w w5) => h⟩⟩
              have hgr : growU q out (s, n, d) = rep d n out := by unfold growU; rw [if_neg (by show ¬ d = 0; exact hd)]
              have I2 : Aside0 (∀ v6 w6, MadeI w v6 (rep d n out) w6 → UnI w p.length most p (q.drop s) (growU q out (s, n, d)) B2 (c' - s) v6 w6) := ⟨fun v6 w6 h => ⟨by rw [hdl]; exact HR2.out, HI.out.qb.drop _, by have := HI.out.le; omega, by omega, by rw [hdl, hgr, rep_len]; omega, HST.out, by rw [hgr]; exact h⟩⟩
              clear hgr hs0
              go_wp2_with (first
                | (go_at_call 91; (with_reducible refine at_cw wr ?_); refine (token_calls A' q.length c' q wr (Kd.C_below HI.out.rd HM.out.below) HI.out.qb hq (by omega)).mono ?_; rintro e w5 ⟨htk, hB⟩; obtain rfl := htk.some_ HT.out; have L5 : Aside0 (Later wr w5) := ⟨hB⟩; clear hB htk))
              have M6 := Aside0.mk (M5.out w5 L5.out)
              clear M5 L5 HR2 HST HM HR HI
              go_loopw [6, 11] (fun v k wq => ∃ (t : Nat) (ys : List Int), t ≤ n ∧ k = .int .i64 t ∧ ys.length = out.length + t ∧ rep d (n - t) ys = rep d n out ∧ MadeI w v ys wq) (fun _ k _ => n - (intOf k).toNat)
              case atStart => exact ⟨0, out, by omega, rfl, rfl, rfl, M6.out⟩
              case round =>
                obtain ⟨t, ys, ht, rfl, hys, hrp, hMy⟩ := hrel
                obtain ⟨B4, d4, rfl, hd4, hr4⟩ := hMy.own.reads
                have HMy := Aside0.mk hMy
                have HR4 := Aside0.mk hr4
                have HRP := Aside0.mk hrp
                have HYS := Aside0.mk hys
                clear hMy hr4 hrp
                by_cases htm : t < n
                · have htI : (t : Int) < (n : Int) := by omega
                  obtain ⟨x, hx⟩ : ∃ x : Nat, x + d = ys.length := ⟨ys.length - d, by omega⟩
                  have hxI : (ys.length : Int) - (d : Int) = (x : Int) := by omega
                  have hxl : x < ys.length := by omega
                  have hyl : ys.length ≤ 100000000000000 := by omega
                  obtain ⟨ay, ey⟩ : ∃ ad, B4 = some ad := by obtain ⟨ad, e, _⟩ := Kd.at_int HR4.out 0 (by omega) (by omega); exact ⟨ad, e⟩
                  subst ey
                  have hcy := rdB_at HR4.out x hxl
                  have HRS : Aside0 (rep d (n - (t + 1)) (ys ++ [rd ys (x : Int)]) = rep d n out) := ⟨by
                    rw [← HRP.out, show n - t = (n - (t + 1)) + 1 by omega, rep, show ys.length - d = x by omega]⟩
                  have hxy := HMy.out.by_.at_ (x : Int)
                  clear hys hout hln hdl hsq hcut hwn
                  generalize rd ys (x : Int) = y at *
                  go_wp2_with (at_builtin; refine appB (w0 := w) w.heap.size rfl (.tmp 52) (.tmp 60) rfl _ _ _ rfl rfl HMy.out.own HMy.out.below HMy.out.below.size (by omega) ?_; intro v5 w5 hO5 hB5 _ _)
                  go_roundw
                  case rel => exact ⟨t + 1, _, by omega, by go_num, by rw [List.length_append, List.length_singleton, HYS.out]; omega, HRS.out, ⟨hO5, HMy.out.by_.append (Bytes.one hxy.1 hxy.2), hB5⟩⟩
                  case measure => simp [intOf]; omega
                · have htI : ¬ (t : Int) < (n : Int) := by omega
                  obtain rfl : t = n := by omega
                  clear hys
                  go_wp2
                  go_roundw
                  case rel =>
                    have hrp := HRP.out
                    rw [Nat.sub_self, rep] at hrp
                    subst hrp
                    exact ⟨_, _, _, _, by rw [hdl], I2.out _ _ HMy.out⟩
                  case measure => simp only [slN]; omega
    · have hqI : ¬ (0 : Int) < (q.length : Int) := by omega
      obtain rfl : q = [] := List.eq_nil_of_length_eq_zero (by omega)
      go_wp2
      (try simp only [Exit.inBlock, Exit.then])
      refine bodyPost_ret (results_tmp2 rfl _ _ _) rfl ?_
      have he := HI.out.eq
      rw [unpR_nil] at he
      rw [← he]
      exact ⟨⟨_, rfl, HI.out.md.own, HI.out.md.by_⟩, HI.out.md.below⟩
end Go.Proofs.YtnkkjmbpopodlaaDoor
