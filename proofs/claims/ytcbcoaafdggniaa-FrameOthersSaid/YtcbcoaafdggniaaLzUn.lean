/- Bytes that are unpacked, in plain Lean; what was packed comes back. Plain lemmas. -/
import Derived.Test.YtcbcoaafdggniaaLzPack
import Derived.Test.YtcbcoaafdggniaaG1
namespace Go.Proofs.Ytcbcoaafdggniaa
open Go.RowKit Go.Proofs.YtcbcoaafdggniaaW.PrintWords Go.Proofs.YtcbcoaafdggniaaW.PrintMore
set_option linter.unusedVariables false
set_option linter.unusedSimpArgs false
theorem rd_0 (x : Int) (t : List Int) : rd (x :: t) 0 = x := rfl
theorem rd_1 (x y : Int) (t : List Int) : rd (x :: y :: t) 1 = y := rfl
theorem rd_2 (x y z : Int) (t : List Int) : rd (x :: y :: z :: t) 2 = z := rfl
/-- The first token: its size, how many bytes it makes, its distance. -/
def tk (q : List Int) : Option (Nat × Nat × Nat) :=
  if rd q 0 < 128 then (if (rd q 0).toNat + 2 ≤ q.length then some ((rd q 0).toNat + 2, (rd q 0).toNat + 1, 0) else none)
  else if q.length < 3 then none else some (3, (rd q 0).toNat - 124, 1 + (rd q 1).toNat + 256 * (rd q 2).toNat)
theorem tk_size {q : List Int} {s n d : Nat} (h : tk q = some (s, n, d)) : 2 ≤ s ∧ s ≤ q.length := by
  unfold tk at h
  split at h
  · split at h
    · simp only [Option.some.injEq, Prod.mk.injEq] at h
      omega
    · cases h
  · split at h
    · cases h
    · simp only [Option.some.injEq, Prod.mk.injEq] at h
      omega
/-- k more bytes, each the one d ahead. -/
def rep (d : Nat) : Nat → List Int → List Int
  | 0, out => out
  | k + 1, out => rep d k (out ++ [rd out ((out.length - d : Nat) : Int)])
theorem rep_len (d : Nat) : ∀ (k : Nat) (out : List Int), (rep d k out).length = out.length + k
  | 0, out => rfl
  | k + 1, out => by rw [rep, rep_len d k, List.length_append, List.length_singleton]; omega
theorem rep_bytes (d : Nat) : ∀ (k : Nat) (out : List Int), Bytes out → Bytes (rep d k out)
  | 0, out, h => h
  | k + 1, out, h => rep_bytes d k _ (h.append (Bytes.one (h.at_ _).1 (h.at_ _).2))
def growU (q out : List Int) (t : Nat × Nat × Nat) : List Int := if t.2.2 = 0 then out ++ midL q 1 t.1 else rep t.2.2 t.2.1 out
/-- What comes of it: the bytes, the error's number. -/
structure UR where
  B : List Int
  E : Int
def unpF (most : Int) : Nat → List Int → List Int → UR
  | 0, _, out => ⟨out, 0⟩
  | f + 1, q, out => if q = [] then ⟨out, 0⟩ else match tk q with
    | none => ⟨[], 2⟩
    | some t => if out.length < t.2.2 then ⟨[], 2⟩ else if most < ((out.length + t.2.1 : Nat) : Int) then ⟨[], 3⟩ else unpF most f (q.drop t.1) (growU q out t)
theorem unpF_fuel (most : Int) : ∀ (f f' : Nat) (q out : List Int), q.length ≤ f → q.length ≤ f' → unpF most f q out = unpF most f' q out
  | 0, 0, q, out, _, _ => rfl
  | 0, f' + 1, q, out, h, _ => by
    obtain rfl : q = [] := List.eq_nil_of_length_eq_zero (by omega)
    simp only [unpF, if_true]
  | f + 1, 0, q, out, _, h => by
    obtain rfl : q = [] := List.eq_nil_of_length_eq_zero (by omega)
    simp only [unpF, if_true]
  | f + 1, f' + 1, q, out, h, h' => by
    by_cases hq : q = []
    · subst hq; simp only [unpF, if_true]
    · simp only [unpF, if_neg hq]
      rcases ht : tk q with _ | ⟨s, n, d⟩
      · rfl
      · have hs := tk_size ht
        have hl : (q.drop s).length ≤ f ∧ (q.drop s).length ≤ f' := by rw [List.length_drop]; omega
        simp only [unpF_fuel most f f' (q.drop s) _ hl.1 hl.2]
/-- What comes of it from q on, out being out. -/
def unpR (most : Int) (q out : List Int) : UR := unpF most q.length q out
section
variable {most : Int} {q out : List Int} {s n d : Nat}
theorem unpR_nil : unpR most [] out = ⟨out, 0⟩ := rfl
theorem len_succ (hq : q ≠ []) : ∃ m, q.length = m + 1 := by
  have := List.length_pos_iff.2 hq
  exact ⟨q.length - 1, by omega⟩
theorem unpR_none (hq : q ≠ []) (h : tk q = none) : unpR most q out = ⟨[], 2⟩ := by
  obtain ⟨m, hm⟩ := len_succ hq
  unfold unpR
  rw [hm]
  simp only [unpF, if_neg hq, h]
theorem unpR_far (hq : q ≠ []) (h : tk q = some (s, n, d)) (hd : out.length < d) : unpR most q out = ⟨[], 2⟩ := by
  obtain ⟨m, hm⟩ := len_succ hq
  unfold unpR
  rw [hm]
  simp only [unpF, if_neg hq, h, if_pos hd]
theorem unpR_range (hq : q ≠ []) (h : tk q = some (s, n, d)) (hd : ¬ out.length < d) (hr : most < ((out.length + n : Nat) : Int)) : unpR most q out = ⟨[], 3⟩ := by
  obtain ⟨m, hm⟩ := len_succ hq
  unfold unpR
  rw [hm]
  simp only [unpF, if_neg hq, h, if_neg hd, if_pos hr]
theorem unpR_step (hq : q ≠ []) (h : tk q = some (s, n, d)) (hd : ¬ out.length < d) (hr : ¬ most < ((out.length + n : Nat) : Int)) : unpR most q out = unpR most (q.drop s) (growU q out (s, n, d)) := by
  obtain ⟨m, hm⟩ := len_succ hq
  have hs := tk_size h
  unfold unpR
  rw [hm]
  simp only [unpF, if_neg hq, h, if_neg hd, if_neg hr]
  exact unpF_fuel most _ _ _ _ (by rw [List.length_drop]; omega) (Nat.le_refl _)
end
theorem tk_lit {m : Nat} (h1 : 1 ≤ m) (h2 : m ≤ 128) {l : List Int} (hl : l.length = m) (q : List Int) : tk (((m : Int) - 1) :: (l ++ q)) = some (m + 1, m, 0) := by
  unfold tk
  rw [rd_0, if_pos (by omega), show ((m : Int) - 1).toNat = m - 1 by omega, if_pos (by rw [List.length_cons, List.length_append]; omega), show m - 1 + 2 = m + 1 by omega, show m - 1 + 1 = m by omega]
theorem grow_lit {m : Nat} {x : Int} {l : List Int} (hl : l.length = m) (q out : List Int) : growU (x :: (l ++ q)) out (m + 1, m, 0) = out ++ l := by
  unfold growU
  rw [if_pos rfl]
  show out ++ List.drop 1 (List.take (m + 1) (x :: (l ++ q))) = _
  rw [List.take_succ_cons, List.drop_succ_cons, List.drop_zero, List.take_left' hl]
theorem drop_lit {m : Nat} {x : Int} {l : List Int} (hl : l.length = m) (q : List Int) : (x :: (l ++ q)).drop (m + 1) = q := by
  rw [List.drop_succ_cons, List.drop_left' hl]
theorem unp_lits (most : Int) (n : Nat) : ∀ (own q out : List Int), own.length ≤ n →
    ((own = [] ∨ ((out.length + own.length : Nat) : Int) ≤ most) → unpR most (litL own ++ q) out = unpR most q (out ++ own)) ∧
    (own ≠ [] → most < ((out.length + own.length : Nat) : Int) → unpR most (litL own ++ q) out = ⟨[], 3⟩) := by
  induction n with
  | zero =>
    intro own q out h
    obtain rfl : own = [] := List.eq_nil_of_length_eq_zero (by omega)
    exact ⟨fun _ => by rw [litL_nil, List.nil_append, List.append_nil], fun h => absurd rfl h⟩
  | succ n ih =>
    intro own q out h
    rcases Nat.eq_zero_or_pos own.length with h0 | h0
    · obtain rfl : own = [] := List.eq_nil_of_length_eq_zero h0
      exact ⟨fun _ => by rw [litL_nil, List.nil_append, List.append_nil], fun h => absurd rfl h⟩
    · obtain ⟨m, hm⟩ : ∃ m, m = min own.length 128 := ⟨_, rfl⟩
      have hl : (own.take m).length = m := by rw [List.length_take]; omega
      have hd : (own.drop m).length = own.length - m := List.length_drop
      have hne : own ≠ [] := fun e => by rw [e] at h0; simp at h0
      obtain ⟨i1, i2⟩ := ih (own.drop m) q (out ++ own.take m) (by omega)
      rw [List.length_append, hl, hd, List.append_assoc, List.take_append_drop] at i1
      rw [List.length_append, hl, hd] at i2
      have hw : litL own ++ q = ((m : Int) - 1) :: (own.take m ++ (litL (own.drop m) ++ q)) := by rw [litL_cons h0, ← hm, List.cons_append, List.append_assoc]
      have ht := tk_lit (m := m) (by omega) (by omega) hl (litL (own.drop m) ++ q)
      have hq : ((m : Int) - 1) :: (own.take m ++ (litL (own.drop m) ++ q)) ≠ [] := by simp
      rw [hw]
      have step : ¬ most < ((out.length + m : Nat) : Int) → unpR most (((m : Int) - 1) :: (own.take m ++ (litL (own.drop m) ++ q))) out = unpR most (litL (own.drop m) ++ q) (out ++ own.take m) := fun hr => by
        rw [unpR_step hq ht (by omega) hr, grow_lit hl, drop_lit hl]
      refine ⟨fun hh => ?_, fun _ hr => ?_⟩
      · rcases hh with hh | hh
        · exact absurd hh hne
        · rw [step (by omega)]
          exact i1 (.inr (by omega))
      · by_cases hr2 : most < ((out.length + m : Nat) : Int)
        · exact unpR_range hq ht (by omega) hr2
        · rw [step hr2]
          exact i2 (fun e => by rw [e] at hd; simp at hd; omega) (by omega)
theorem tk_tok {n d : Nat} (h1 : 4 ≤ n) (h2 : n ≤ 131) (h3 : 1 ≤ d) (h4 : d ≤ 1024) (q : List Int) : tk (tok ((n : Int), (d : Int)) ++ q) = some (3, n, d) := by
  show tk ((124 + (n : Int)) :: (((d : Int) - 1) % 256) :: (((d : Int) - 1) / 256) :: q) = _
  unfold tk
  rw [rd_0, rd_1, rd_2, if_neg (by omega), if_neg (by simp)]
  rw [show (124 + (n : Int)).toNat - 124 = n by omega, show 1 + (((d : Int) - 1) % 256).toNat + 256 * (((d : Int) - 1) / 256).toNat = d by omega]
theorem rd_take {b : List Int} {i p : Nat} (h : p < i) : rd (b.take i) (p : Int) = rd b (p : Int) := by rw [rd_getD, rd_getD, List.getElem?_take_of_lt h]
theorem take_next {b : List Int} {i : Nat} (h : i < b.length) : b.take (i + 1) = b.take i ++ [rd b (i : Int)] := by
  have := midL_snoc (xs := b) (i := 0) (Nat.zero_le i) h
  simpa [midL] using this
theorem rep_run {b : List Int} {d : Nat} (hd : 1 ≤ d) : ∀ (n i : Nat), d ≤ i → i + n ≤ b.length → (∀ x, x < n → rd b ((i + x : Nat) : Int) = rd b ((i - d + x : Nat) : Int)) → rep d n (b.take i) = b.take (i + n)
  | 0, i, _, _, _ => rfl
  | n + 1, i, hi, hl, h => by
    have h0 := h 0 (by omega)
    rw [Nat.add_zero, Nat.add_zero] at h0
    have e : (b.take i).length = i := by rw [List.length_take]; omega
    rw [rep, e, rd_take (by omega), ← h0, ← take_next (by omega), rep_run hd n (i + 1) (by omega) (by omega) (fun x hx => ?_), show i + 1 + n = i + (n + 1) by omega]
    have := h (x + 1) (by omega)
    rwa [show i + (x + 1) = i + 1 + x by omega, show i - d + (x + 1) = i + 1 - d + x by omega] at this
theorem packF_out (b : List Int) : ∀ (f i : Nat) (own out : List Int), packF b f i own out = out ++ packF b f i own []
  | 0, i, own, out => by simp [packF]
  | f + 1, i, own, out => by
    simp only [packF]
    split
    · simp
    · split
      · exact packF_out b f _ _ _
      · rw [packF_out b f _ _ (out ++ litL own ++ tok (lzM b i)), packF_out b f _ _ ([] ++ litL own ++ tok (lzM b i))]
        simp [List.append_assoc]
theorem packR_out (b : List Int) (i : Nat) (own out : List Int) : packR b i own out = out ++ packR b i own [] := packF_out b _ i own out
theorem take_mid {b : List Int} {i j : Nat} (h : i ≤ j) (hj : j ≤ b.length) : b.take i ++ midL b i j = b.take j := by
  unfold midL
  have e : b.take i = (b.take j).take i := by rw [List.take_take, Nat.min_eq_left h]
  rw [e]
  exact List.take_append_drop i (b.take j)
/-- What was packed comes back, or is more than most. -/
theorem unp_rest (most : Int) (b : List Int) (m : Nat) : ∀ (i : Nat) (own : List Int), b.length - i ≤ m → i ≤ b.length → own.length ≤ i → own = midL b (i - own.length) i → ((i - own.length : Nat) : Int) ≤ most →
    unpR most (packR b i own []) (b.take (i - own.length)) = if (b.length : Int) ≤ most then ⟨b, 0⟩ else ⟨[], 3⟩ := by
  induction m with
  | zero =>
    intro i own h1 h2 h3 h4 h5
    obtain rfl : i = b.length := by omega
    have e : (b.take (b.length - own.length)).length = b.length - own.length := by rw [List.length_take]; omega
    have hb := take_mid (b := b) (Nat.sub_le b.length own.length) (Nat.le_refl _)
    rw [← h4, List.take_length] at hb
    obtain ⟨i1, i2⟩ := unp_lits most own.length own [] (b.take (b.length - own.length)) (Nat.le_refl _)
    rw [packR_end (Nat.le_refl _), List.nil_append, ← List.append_nil (litL own)]
    split
    · rw [i1 (.inr (by omega)), unpR_nil, hb]
    · exact i2 (fun e => by rw [e] at h5; simp at h5; omega) (by omega)
  | succ m ih =>
    intro i own h1 h2 h3 h4 h5
    have e : (b.take (i - own.length)).length = i - own.length := by rw [List.length_take]; omega
    have hb := take_mid (b := b) (Nat.sub_le i own.length) h2
    rw [← h4] at hb
    have l1 := fun q => (unp_lits most own.length own q (b.take (i - own.length)) (Nat.le_refl _)).1
    have l2 := fun q => (unp_lits most own.length own q (b.take (i - own.length)) (Nat.le_refl _)).2
    by_cases hi : i = b.length
    · exact ih i own (by omega) h2 h3 h4 h5
    · by_cases hz : (lzM b i).1 = 0
      · rw [packR_lit (by omega) hz]
        have hl : (own ++ [rd b (i : Int)]).length = own.length + 1 := by rw [List.length_append, List.length_singleton]
        have := ih (i + 1) (own ++ [rd b (i : Int)]) (by omega) (by omega) (by omega) (by rw [hl, show i + 1 - (own.length + 1) = i - own.length by omega, midL_snoc (by omega) (by omega), ← h4]) (by rw [hl]; omega)
        rw [hl, show i + 1 - (own.length + 1) = i - own.length by omega] at this
        exact this
      · rcases lzM_ok (b := b) (i := i) h2 with e0 | ⟨n, d, hr, hn4, hn131, hd1, hd1024, hdi, hin, hrun⟩
        · exact absurd (by rw [e0]) hz
        have hr1 : (lzM b i).1 = (n : Int) := by rw [hr]
        rw [packR_tok (by omega) hr1 (by omega), packR_out, List.nil_append, List.append_assoc, hr]
        by_cases hm : (i : Int) ≤ most
        · rw [l1 _ (.inr (by omega)), hb]
          have ht := tk_tok hn4 hn131 hd1 hd1024 (packR b (i + n) [] [])
          have hq : tok ((n : Int), (d : Int)) ++ packR b (i + n) [] [] ≠ [] := by simp [tok]
          have e2 : (b.take i).length = i := by rw [List.length_take]; omega
          by_cases hmn : most < ((i + n : Nat) : Int)
          · rw [unpR_range hq ht (by omega) (by omega), if_neg (by omega)]
          · rw [unpR_step hq ht (by omega) (by omega)]
            have hg : growU (tok ((n : Int), (d : Int)) ++ packR b (i + n) [] []) (b.take i) (3, n, d) = b.take (i + n) := by
              unfold growU
              rw [if_neg (by show ¬ d = 0; omega)]
              refine rep_run hd1 n i hdi hin (fun x hx => ?_)
              exact (runL_gt (b := b) (i := i) (k := i - d) (n := x) (by omega)).2.2
            rw [hg, show (tok ((n : Int), (d : Int)) ++ packR b (i + n) [] []).drop 3 = packR b (i + n) [] [] from rfl]
            have := ih (i + n) [] (by omega) hin (by simp) (by simp [midL_self]) (by simp; omega)
            simpa using this
        · rw [l2 _ (fun e => by rw [e] at h5; simp at h5; omega) (by omega), if_neg (by omega)]
/-- Unpack. -/
def unp (most : Int) (p : List Int) : UR := unpR most p []
theorem unp_pack (most : Int) (h : 0 ≤ most) (b : List Int) : unp most (packL b) = if (b.length : Int) ≤ most then ⟨b, 0⟩ else ⟨[], 3⟩ := by
  have := unp_rest most b b.length 0 [] (by omega) (by omega) (by simp) (by simp [midL_self]) (by simpa using h)
  show unpR most (packR b 0 [] []) [] = _
  simpa using this
theorem litL_len2 (n : Nat) : ∀ (xs : List Int), xs.length ≤ n → (litL xs).length = xs.length + (xs.length + 127) / 128 := by
  induction n with
  | zero => intro xs h; obtain rfl : xs = [] := List.eq_nil_of_length_eq_zero (by omega); simp [litL_nil]
  | succ n ih =>
    intro xs h
    rcases Nat.eq_zero_or_pos xs.length with h0 | h0
    · obtain rfl : xs = [] := List.eq_nil_of_length_eq_zero h0
      simp [litL_nil]
    · have := ih (xs.drop (min xs.length 128)) (by rw [List.length_drop]; omega)
      rw [litL_cons h0, List.length_cons, List.length_append, List.length_take, this, List.length_drop]
      omega
theorem packR_len (b : List Int) (m : Nat) : ∀ (i : Nat) (own : List Int), b.length - i ≤ m → i ≤ b.length → (packR b i own []).length ≤ own.length + (b.length - i) + (own.length + (b.length - i) + 127) / 128 := by
  induction m with
  | zero =>
    intro i own h1 h2
    rw [packR_end (by omega), List.nil_append, litL_len2 _ own (Nat.le_refl _)]
    omega
  | succ m ih =>
    intro i own h1 h2
    by_cases hi : i = b.length
    · exact ih i own (by omega) h2
    · by_cases hz : (lzM b i).1 = 0
      · rw [packR_lit (by omega) hz]
        have := ih (i + 1) (own ++ [rd b (i : Int)]) (by omega) (by omega)
        rw [List.length_append, List.length_singleton] at this
        omega
      · rcases lzM_ok (b := b) (i := i) h2 with e0 | ⟨n, d, hr, hn4, hn131, hd1, hd1024, hdi, hin, hrun⟩
        · exact absurd (by rw [e0]) hz
        have hr1 : (lzM b i).1 = (n : Int) := by rw [hr]
        have := ih (i + n) [] (by omega) hin
        rw [packR_tok (by omega) hr1 (by omega), packR_out, List.length_append, List.nil_append, List.length_append, litL_len2 _ own (Nat.le_refl _)]
        have ht : (tok (lzM b i)).length = 3 := rfl
        rw [List.length_nil] at this
        omega
theorem pack_len (b : List Int) : (packL b).length ≤ b.length + (b.length + 127) / 128 := by
  have := packR_len b b.length 0 [] (by omega) (by omega)
  show (packR b 0 [] []).length ≤ _
  simpa using this
theorem packR_bytes (b : List Int) (hb : Bytes b) (m : Nat) : ∀ (i : Nat) (own : List Int), b.length - i ≤ m → i ≤ b.length → Bytes own → Bytes (packR b i own []) := by
  induction m with
  | zero =>
    intro i own h1 h2 ho
    rw [packR_end (by omega), List.nil_append]
    exact litL_bytes _ own (Nat.le_refl _) ho
  | succ m ih =>
    intro i own h1 h2 ho
    by_cases hi : i = b.length
    · exact ih i own (by omega) h2 ho
    · by_cases hz : (lzM b i).1 = 0
      · rw [packR_lit (by omega) hz]
        exact ih (i + 1) _ (by omega) (by omega) (ho.append (Bytes.one (hb.at_ _).1 (hb.at_ _).2))
      · have hok := lzM_ok (b := b) (i := i) h2
        have hne : lzM b i ≠ (0, 0) := fun e => hz (by rw [e])
        have htb := tok_bytes hok hne
        rcases hok with e0 | ⟨n, d, hr, hn4, hn131, hd1, hd1024, hdi, hin, hrun⟩
        · exact absurd e0 hne
        have hr1 : (lzM b i).1 = (n : Int) := by rw [hr]
        rw [packR_tok (by omega) hr1 (by omega), packR_out, List.nil_append]
        exact ((litL_bytes _ own (Nat.le_refl _) ho).append htb).append (ih (i + n) [] (by omega) hin Bytes.nil)
theorem packL_bytes {b : List Int} (hb : Bytes b) : Bytes (packL b) := packR_bytes b hb b.length 0 [] (by omega) (by omega) Bytes.nil
end Go.Proofs.Ytcbcoaafdggniaa
