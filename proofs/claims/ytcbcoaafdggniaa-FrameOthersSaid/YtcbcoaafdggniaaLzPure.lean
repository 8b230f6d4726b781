/- The match at a place, by each distance: what the finder tells is it. Plain lemmas. -/
import Derived.Test.YtcbcoaafdggniaaLz5
namespace Go.Proofs.Ytcbcoaafdggniaa
open Go.RowKit Go.Proofs.YtcbcoaafdggniaaW.PrintWords Go.Proofs.YtcbcoaafdggniaaW.PrintMore
set_option linter.unusedVariables false
set_option linter.unusedSimpArgs false
theorem runF_ge (b : List Int) (i k : Nat) : ∀ f n, n ≤ runF b i k f n
  | 0, n => Nat.le_refl _
  | f + 1, n => by
    unfold runF
    split
    · exact Nat.le_trans (Nat.le_succ n) (runF_ge b i k f (n + 1))
    · exact Nat.le_refl _
theorem runF_all (b : List Int) (i k : Nat) : ∀ f n x, n ≤ x → x < runF b i k f n → goesOn b i k x
  | 0, n, x, h1, h2 => by unfold runF at h2; omega
  | f + 1, n, x, h1, h2 => by
    unfold runF at h2
    split at h2
    · rename_i h
      by_cases e : x = n
      · rw [e]; exact h
      · exact runF_all b i k f (n + 1) x (by omega) h2
    · omega
theorem runF_reach (b : List Int) (i k m : Nat) : ∀ f n, (∀ x, n ≤ x → x < m → goesOn b i k x) → m ≤ n + f → m ≤ runF b i k f n
  | 0, n, _, h => by unfold runF; omega
  | f + 1, n, h, hm => by
    by_cases hn : m ≤ n
    · exact Nat.le_trans hn (runF_ge b i k _ n)
    · unfold runF
      rw [if_pos (h n (Nat.le_refl _) (by omega))]
      exact runF_reach b i k m f (n + 1) (fun x h1 h2 => h x (by omega) h2) (by omega)
theorem runL_gt {b : List Int} {i k n : Nat} (h : n < runL b i k) : goesOn b i k n := runF_all b i k 131 0 n (Nat.zero_le _) h
theorem runL_ge {b : List Int} {i k m : Nat} (h : ∀ x, x < m → goesOn b i k x) (hm : m ≤ 131) : m ≤ runL b i k := runF_reach b i k m 131 0 (fun x _ h2 => h x h2) (by omega)
theorem runL_le (b : List Int) (i k : Nat) : runL b i k ≤ 131 := by
  rcases Nat.lt_or_ge 131 (runL b i k) with h | h
  · have := (runL_gt h).1; omega
  · exact h
theorem runL_len (b : List Int) (i k : Nat) (hi : i ≤ b.length) : i + runL b i k ≤ b.length := by
  rcases Nat.eq_zero_or_pos (runL b i k) with h | h
  · omega
  · have := (runL_gt (b := b) (i := i) (k := k) (n := runL b i k - 1) (by omega)).2.1
    omega
theorem foldl_same {α β : Type} {f g : β → α → β} : ∀ (l : List α) (x : β), (∀ r, ∀ a ∈ l, f r a = g r a) → l.foldl f x = l.foldl g x
  | [], _, _ => rfl
  | a :: l, x, h => by
    rw [List.foldl_cons, List.foldl_cons, h x a (by simp)]
    exact foldl_same l _ (fun r c hc => h r c (by simp [hc]))
theorem win_at (b : List Int) (p j : Nat) (hj : j < 4) : (win b p)[j]? = b[p + j]? := by
  unfold win
  rw [List.getElem?_take_of_lt hj, List.getElem?_drop]
theorem rd_getD (b : List Int) (n : Nat) : rd b (n : Int) = b[n]?.getD 0 := by
  unfold Go.Proofs.YtcbcoaafdggniaaW.PrintWords.rd
  rw [Int.toNat_natCast, List.getD_eq_getElem?_getD]
theorem win_eq_iff {b : List Int} {i p : Nat} (hi : i + 4 ≤ b.length) (hp : p < i) : win b p = win b i ↔ 3 < runL b i p := by
  constructor
  · intro h
    refine runL_ge (m := 4) (fun x hx => ⟨by omega, by omega, ?_⟩) (by omega)
    rw [rd_getD, rd_getD, ← win_at b i x hx, ← win_at b p x hx, h]
  · intro h
    apply List.ext_getElem?
    intro j
    by_cases hj : j < 4
    · rw [win_at b p j hj, win_at b i j hj]
      have h2 := (runL_gt (b := b) (i := i) (k := p) (n := j) (by omega)).2.2
      rw [rd_getD, rd_getD, List.getElem?_eq_getElem (by omega), List.getElem?_eq_getElem (by omega)] at h2
      rw [List.getElem?_eq_getElem (by omega), List.getElem?_eq_getElem (by omega)]
      simp only [Option.getD_some] at h2
      rw [h2]
    · rw [List.getElem?_eq_none (by unfold win; rw [List.length_take]; omega), List.getElem?_eq_none (by unfold win; rw [List.length_take]; omega)]
/-- One distance is tried. -/
def rstep (b : List Int) (i : Nat) (best : Int × Int) (j : Nat) : Int × Int := if 3 < runL b i (i - (j + 1)) ∧ best.1 < (runL b i (i - (j + 1)) : Int) then ((runL b i (i - (j + 1)) : Int), (j : Int) + 1) else best
/-- The match at a place. -/
def lzM (b : List Int) (i : Nat) : Int × Int := (List.range (min i 1024)).foldl (rstep b i) (0, 0)
theorem lzM_short {b : List Int} {i : Nat} (hi : i ≤ b.length) (h : b.length < i + 4) : lzM b i = (0, 0) := by
  unfold lzM
  generalize List.range (min i 1024) = l
  have hs : ∀ best j, rstep b i best j = best := fun best j => by
    unfold rstep
    rw [if_neg]
    rintro ⟨h1, _⟩
    have := runL_len b i (i - (j + 1)) hi
    omega
  induction l with
  | nil => rfl
  | cons j l ih => rw [List.foldl_cons, hs]; exact ih
theorem sorted_take {l : List Nat} (i : Nat) (hs : l.Pairwise (fun a c => c < a)) (hl : ∀ p ∈ l, p < i) {k : Nat} (hk : k ≤ l.length) (h1 : ∀ p ∈ l.take k, i - p ≤ 1024) (h2 : k = l.length ∨ ∃ p, l[k]? = some p ∧ 1024 < i - p) :
    l.take k = l.filter (fun p => decide (i - p ≤ 1024)) := by
  conv => rhs; rw [← List.take_append_drop k l]
  rw [List.filter_append]
  have e1 : (l.take k).filter (fun p => decide (i - p ≤ 1024)) = l.take k := List.filter_eq_self.2 (fun p hp => by simpa using h1 p hp)
  have e2 : (l.drop k).filter (fun p => decide (i - p ≤ 1024)) = [] := by
    refine List.filter_eq_nil_iff.2 (fun p hp => ?_)
    rcases h2 with h2 | ⟨q, hq, hq2⟩
    · rw [h2, List.drop_of_length_le (Nat.le_refl _)] at hp; cases hp
    · have hkl := (List.getElem?_eq_some_iff.1 hq).1
      have hkq := (List.getElem?_eq_some_iff.1 hq).2
      have hd : l.drop k = q :: l.drop (k + 1) := by rw [List.drop_eq_getElem_cons hkl, hkq]
      have hp2 := (hs.sublist (List.drop_sublist k l))
      rw [hd] at hp hp2
      have hle : p ≤ q := by
        rcases List.mem_cons.1 hp with rfl | hp
        · exact Nat.le_refl _
        · exact Nat.le_of_lt ((List.pairwise_cons.1 hp2).1 p hp)
      have := hl q (List.mem_of_getElem? hq)
      simp
      omega
  rw [e1, e2, List.append_nil]
theorem rev_range (i : Nat) : (List.range i).reverse = (List.range i).map (fun j => i - 1 - j) := by
  apply List.ext_getElem
  · simp
  · intro j h1 h2
    simp at h1 h2 ⊢
theorem filter_range (i m : Nat) : (List.range i).filter (fun j => decide (j < m)) = List.range (min i m) := by
  induction i with
  | zero => simp
  | succ i ih =>
    rw [List.range_succ, List.filter_append, ih]
    by_cases h : i < m
    · rw [show min (i + 1) m = min i m + 1 by omega, List.range_succ, show min i m = i by omega]
      simp [h]
    · rw [show min (i + 1) m = min i m by omega]
      simp [h]
theorem foldl_filter' {α β : Type} (p : α → Bool) (f : β → α → β) : ∀ (l : List α) (x : β), (l.filter p).foldl f x = l.foldl (fun x a => if p a then f x a else x) x
  | [], _ => rfl
  | a :: l, x => by
    rw [List.filter_cons, List.foldl_cons]
    split
    · rw [List.foldl_cons]; exact foldl_filter' p f l _
    · exact foldl_filter' p f l _
theorem mst_map (b : List Int) (i : Nat) : ∀ (l : List (Int × Int)) (r : Int × Int), l.foldl (mstep b i) r = (l.map (fun x => x.2)).foldl (fun r z => if r.1 < (runL b i z.toNat : Int) then ((runL b i z.toNat : Int), (i : Int) - z) else r) r
  | [], _ => rfl
  | x :: l, r => by
    rw [List.foldl_cons, List.map_cons, List.foldl_cons]
    exact mst_map b i l _
/-- WHAT THE FINDER TELLS IS THE MATCH. -/
theorem mres_is {b : List Int} {i : Nat} (hi : i + 4 ≤ b.length) {r : Int × Int} (h : MRes b i (occ b (win b i) i) r) : r = lzM b i := by
  obtain ⟨k, hk, rfl, h1, h2⟩ := h
  obtain ⟨ps, hps⟩ : ∃ ps, ps = ((List.range i).filter fun p => decide (win b p = win b i)) := ⟨_, rfl⟩
  have hzs : occ b (win b i) i = ps.map Int.ofNat := by rw [hps]; rfl
  have hlen : (occ b (win b i) i).length = ps.length := by rw [hzs, List.length_map]
  have hmem : ∀ p ∈ ps, p < i := fun p hp => by rw [hps] at hp; exact List.mem_range.1 (List.mem_filter.1 hp).1
  have hback : ∀ j, j < ps.length → (backAt (occ b (win b i) i) j).2 = ((ps.reverse.getD j 0 : Nat) : Int) := fun j hj => by
    unfold backAt
    rw [rd_getD, hlen, hzs, List.getElem?_map, List.getElem?_eq_getElem (by omega), List.getD_eq_getElem?_getD, List.getElem?_reverse hj, List.getElem?_eq_getElem (by omega)]
    rfl
  have hmap : (uptoF (backAt (occ b (win b i) i)) k).map (fun x => x.2) = (ps.reverse.take k).map Int.ofNat := by
    apply List.ext_getElem?
    intro j
    by_cases hj : j < k
    · have hj2 : j < ps.length := by omega
      have hb := hback j hj2
      rw [List.getElem?_map, List.getElem?_map, List.getElem?_take_of_lt hj, uptoF, List.getElem?_map, List.getElem?_range hj, List.getElem?_eq_getElem (by simpa using hj2)]
      rw [List.getD_eq_getElem?_getD, List.getElem?_eq_getElem (by simpa using hj2)] at hb
      simp only [Option.map_some, Option.getD_some] at hb ⊢
      rw [hb]
      rfl
    · rw [List.getElem?_eq_none (by simp [uptoF]; omega), List.getElem?_eq_none (by simp; omega)]
  have hsort : ps.reverse.Pairwise (fun a c => c < a) := by
    rw [List.pairwise_reverse, hps]
    exact List.pairwise_lt_range.sublist List.filter_sublist
  have htake : ps.reverse.take k = ps.reverse.filter (fun p => decide (i - p ≤ 1024)) := by
    refine sorted_take i hsort (fun p hp => hmem p (List.mem_reverse.1 hp)) (by rw [List.length_reverse]; omega) (fun p hp => ?_) ?_
    · have hm : Int.ofNat p ∈ (uptoF (backAt (occ b (win b i) i)) k).map (fun x => x.2) := by rw [hmap]; exact List.mem_map.2 ⟨p, hp, rfl⟩
      obtain ⟨x, hx, e⟩ := List.mem_map.1 hm
      have := h1 x hx
      rw [e] at this
      simp at this
      omega
    · rcases h2 with h2 | h2
      · exact .inl (by rw [List.length_reverse, h2, hlen])
      · by_cases hkl : k = ps.length
        · exact .inl (by rw [List.length_reverse, hkl])
        · have hk2 : k < ps.length := by omega
          rw [hback k hk2, List.getD_eq_getElem?_getD] at h2
          refine .inr ⟨ps.reverse[k]'(by simpa using hk2), List.getElem?_eq_getElem _, ?_⟩
          rw [List.getElem?_eq_getElem (by simpa using hk2)] at h2
          simp only [Option.getD_some] at h2
          omega
  have hL : ps.reverse.filter (fun p => decide (i - p ≤ 1024)) = ((List.range (min i 1024)).map (fun j => i - 1 - j)).filter (fun p => decide (win b p = win b i)) := by
    rw [hps, ← List.filter_reverse, rev_range, List.filter_filter, ← filter_range i 1024, List.filter_map, List.filter_map, List.filter_filter]
    congr 1
    apply List.filter_congr
    intro j hj
    have := List.mem_range.1 hj
    simp only [Function.comp_apply]
    rw [Bool.and_comm]
    congr 1
    rw [decide_eq_decide]
    omega
  unfold mst lzM
  rw [mst_map, hmap, htake, hL, List.foldl_map, foldl_filter', List.foldl_map]
  refine foldl_same _ _ (fun r j hj => ?_)
  have hji : j < i := by have := List.mem_range.1 hj; omega
  have e1 : i - 1 - j = i - (j + 1) := by omega
  unfold rstep
  simp only [e1, Int.toNat_natCast, Int.ofNat_eq_natCast]
  by_cases hw : win b (i - (j + 1)) = win b i
  · have h3 := (win_eq_iff hi (by omega)).1 hw
    have e2 : (i : Int) - ((i - (j + 1) : Nat) : Int) = (j : Int) + 1 := by omega
    simp [hw, h3, e2]
  · have h3 : ¬ 3 < runL b i (i - (j + 1)) := fun h => hw ((win_eq_iff hi (by omega)).2 h)
    simp [hw, h3]
end Go.Proofs.Ytcbcoaafdggniaa
