/- The law CutPieces: what goes along. Plain lemmas. -/
import Derived.Test.YtdbgbbodkoppdaaCut11
namespace Go.Proofs.Ytdbgbbodkoppdaa
open Go.RowKit Go.Shelf Go.Proofs.YtdbgbbodkoppdaaW.PrintWords Go.Proofs.YtdbgbbodkoppdaaW.PrintMore
set_option linter.unusedVariables false
set_option linter.unusedSimpArgs false
theorem KL_at2 {w : World} {B0 : Nat} {ok : Nat → Prop} {q m cap : Nat} {L : List (List Int)} (h : KL.R 22 w B0 ok (.slice (some ⟨q, 0, none⟩) m cap) L) (k : Nat) (hk : k < m) :
    ∃ s : S3, w.cell? ⟨q, k, none⟩ = some (encS s) ∧ s.2.1 = (L.getD k []).length ∧ OwB w B0 (encS s) (L.getD k []) ∧ ∀ j, (encS s).ownBlock = some j → ok j := by
  obtain ⟨c, hc1, hM, hcell, _⟩ := Kd.R_elem h [] (k : Int) (by omega) (by omega)
  rw [Int.toNat_natCast] at hM hcell
  obtain ⟨v, rfl, hR⟩ := hM
  obtain ⟨x, cx, rfl, _, _⟩ := Kd.R_reads hR
  have h1 := hcell 0 _ rfl
  have e : k * (Kd.slice 5 (Kd.int .u8)).sz + 0 = k := by
    have : (Kd.slice 5 (Kd.int .u8)).sz = 1 := rfl
    rw [this]; omega
  rw [e] at h1
  exact ⟨(x, _, cx), h1, rfl, Kd.R_mono hR (fun _ _ => trivial), fun j hj => (hR.1 j hj).1⟩
theorem KL_rows {w : World} {B0 : Nat} {ok : Nat → Prop} {vo : Value} {L : List (List Int)} (h : KL.R 22 w B0 ok vo L) (hm : L.length ≤ 1099511627776) (hne : ∀ ch ∈ L, ch ≠ [] ∧ Bytes ch) :
    ∃ A c, ∃ Ls : List (S3 × List Int), vo = .slice A L.length c ∧ Ls.map (·.2) = L ∧ RdS w A L.length (Ls.map (·.1)) ∧ ∀ p ∈ Ls, ChY B0 p.1 p.2 w ∧ ∀ q, p.1.1 = some ⟨q, 0, none⟩ → ok q := by
  rcases Nat.eq_zero_or_pos L.length with h0 | hp
  · obtain ⟨A, c, rfl, _, _⟩ := Kd.R_reads h
    obtain rfl := List.eq_nil_of_length_eq_zero h0
    exact ⟨A, c, [], rfl, rfl, Kd.C_of_reads (d := ((none, 0, 0) : S3)) ⟨rfl, by simp, fun hp => absurd hp (by simp)⟩, fun p hp => by cases hp⟩
  · obtain ⟨q, cap, rfl, _, _, _⟩ := Kd.R_form h hp
    have hs : ∀ k : Nat, ∃ s : S3, k < L.length → (w.cell? ⟨q, k, none⟩ = some (encS s) ∧ s.2.1 = (L.getD k []).length ∧ OwB w B0 (encS s) (L.getD k []) ∧ ∀ j, (encS s).ownBlock = some j → ok j) := fun k => by
      by_cases hk : k < L.length
      · obtain ⟨s, hs⟩ := KL_at2 h k hk
        exact ⟨s, fun _ => hs⟩
      · exact ⟨(none, 0, 0), fun h => absurd h hk⟩
    obtain ⟨f, hf⟩ := Classical.axiomOfChoice hs
    refine ⟨_, _, (List.range L.length).map (fun k => (f k, L.getD k [])), rfl, ?_, ?_, fun p hp => ?_⟩
    · rw [List.map_map]
      apply List.ext_getElem
      · simp
      · intro i h1 h2
        simp [List.getD_eq_getElem?_getD, h2]
    · refine Kd.C_of_reads (d := ((none, 0, 0) : S3)) ⟨by simp, by omega, fun _ => ⟨_, rfl, fun j hj => ?_⟩⟩
      rw [add_plain, (hf j hj).1]
      simp [List.getD_eq_getElem?_getD, hj]
    · obtain ⟨k, hk, rfl⟩ := List.mem_map.1 hp
      have hk' := List.mem_range.1 hk
      obtain ⟨h1, h2, h3, h4⟩ := hf k hk'
      have hmem : L.getD k [] ∈ L := by rw [List.getD_eq_getElem?_getD, List.getElem?_eq_getElem hk']; exact List.getElem_mem _
      obtain ⟨n1, n2⟩ := hne _ hmem
      rcases hfk : f k with ⟨xa, xn, xc⟩
      rw [hfk] at h2 h3 h4
      have h2' : xn = (L.getD k []).length := h2
      subst h2'
      exact ⟨OwB.chY h3 n1 n2, fun q' hq' => h4 q' (by have e : xa = some ⟨q', 0, none⟩ := hq'; rw [e]; rfl)⟩
theorem wrL_bytes2 {a c p : Nat} {cur xs : List Int} (h : Bytes (cur ++ xs)) : (∀ ch ∈ (wrL a c p cur xs).1, Bytes ch) := by
  have hf := wrL_flat (mn := a) (mx := c) (p := p) xs cur
  rw [← hf] at h
  exact fun ch hc x hx => h x (List.mem_append_left _ (List.mem_flatten.2 ⟨ch, hc, hx⟩))
/-- What goes along, but for the row. -/
structure PI (w4 : World) (B0 g gr a b c : Nat) (X : List Int) (k : Nat) (cur : List Int) (v : Value) (L : List (S3 × List Int)) (wq : World) : Prop where
  cs : CSt B0 g gr a b c cur v wq
  ch : ∀ p ∈ L, ChY B0 p.1 p.2 wq ∧ ∀ q, p.1.1 = some ⟨q, 0, none⟩ → some q ≠ v.ownBlock
  eq : wrL a c (pw b) [] (X.take k) = (L.map (·.2), cur)
  fr : Fr w4 wq (fun q => q = g ∨ q = gr)
  hv : ∀ q, v.ownBlock = some q → w4.heap.size ≤ q
theorem PI.start {w4 : World} {B0 g gr a b c : Nat} {X : List Int} (h : CSt B0 g gr a b c [] (.slice none 0 0) w4) : PI w4 B0 g gr a b c X 0 [] (.slice none 0 0) [] w4 :=
  ⟨h, (fun p hp => (by cases hp)), rfl, Fr.refl _ _, (fun q hq => (by simp [Value.ownBlock] at hq))⟩
theorem PI.cur {w4 wq : World} {B0 g gr a b c k : Nat} {X cur : List Int} {v : Value} {L : List (S3 × List Int)} (h : PI w4 B0 g gr a b c X k cur v L wq) (h1 : 1 ≤ a) (h2 : a ≤ c) : cur.length < c ∧ L.length ≤ k := by
  have h3 := (wrL_sizes (p := pw b) h2 (X.take k) [] (by simp; omega)).2
  have h4 := wrL_count a c (pw b) (X.take k) []
  rw [h.eq] at h3 h4
  rw [List.length_map, List.length_take] at h4
  exact ⟨h3, by omega⟩
theorem take_mid {X : List Int} {k k' : Nat} (hk : k ≤ k') : X.take k' = X.take k ++ midL X k k' := by
  unfold midL
  have := List.take_append_drop k (X.take k')
  rw [List.take_take, Nat.min_eq_left hk] at this
  exact this.symm
theorem PI.step {w4 wq w5 : World} {B0 g gr a b c k k' : Nat} {X cur : List Int} {v v' vo : Value} {L : List (S3 × List Int)} (h : PI w4 B0 g gr a b c X k cur v L wq) (hB : B0 ≤ w4.heap.size) (h1 : 1 ≤ a) (h2 : a ≤ c) (hX : Bytes X) (hk : k ≤ k') (hk' : k' ≤ X.length) (hXl : X.length ≤ 150)
    (hC5 : CSt B0 g gr a b c (wrL a c (pw b) cur (midL X k k')).2 v' w5) (hO5 : KL.R 22 w5 B0 (fun q => some q ≠ v'.ownBlock) vo (wrL a c (pw b) cur (midL X k k')).1) (hF5 : Fr wq w5 (SW g gr v)) (hv5 : ∀ q, v'.ownBlock = some q → some q = v.ownBlock ∨ wq.heap.size ≤ q) :
    ∃ A cA cur' Ls, vo = .slice A Ls.length cA ∧ RdS w5 A Ls.length (Ls.map (·.1)) ∧ Ls.length ≤ 150 ∧ PI w4 B0 g gr a b c X k' cur' v' (L ++ Ls) w5 := by
  have hc := h.cur h1 h2
  have hml : (midL X k k').length = k' - k := midL_len hk'
  have hcnt := wrL_count a c (pw b) (midL X k k') cur
  have hsz := (wrL_sizes (p := pw b) h2 (midL X k k') cur hc.1).1
  have hbb := wrL_bytes2 (a := a) (c := c) (p := pw b) (h.cs.by_.append (hX.mid k k'))
  obtain ⟨A, cA, Ls, hvo, hLs, hrd, hch⟩ := KL_rows hO5 (by omega) (fun ch hm => ⟨List.length_pos_iff.1 (hsz ch hm).2.1, hbb ch hm⟩)
  have hll : Ls.length = (wrL a c (pw b) cur (midL X k k')).1.length := by rw [← hLs, List.length_map]
  have hgt := h.cs.typed
  refine ⟨A, cA, (wrL a c (pw b) cur (midL X k k')).2, Ls, by rw [hvo, hll], by rw [hll]; exact hrd, by omega, hC5, fun p hp => ?_, ?_, ?_, ?_⟩
  · rcases List.mem_append.1 hp with hp | hp
    · obtain ⟨hy, hq⟩ := h.ch p hp
      refine ⟨hy.move fun q cells e hBq hl => hF5.block q (Array.getElem?_eq_some_iff.1 hl).1 ?_, fun q e => ?_⟩
      · obtain ⟨cs, hrt⟩ := hgt
        rintro (rfl | rfl | e2)
        · rw [h.cs.blk] at hl
          injection hl with hl
          injection hl with _ hl
          exact absurd hl (by decide)
        · rw [hrt] at hl
          injection hl with hl
          injection hl with _ hl
          exact absurd hl (by decide)
        · exact hq q e e2
      · intro e2
        rcases hv5 q e2.symm with e3 | e3
        · exact hq q e e3
        · obtain ⟨_, _, _, _, _, q', cells, e', _, hl⟩ := hy
          rw [e'] at e
          injection e with e
          injection e with e
          subst e
          have := (Array.getElem?_eq_some_iff.1 hl).1
          omega
    · exact hch p hp
  · rw [take_mid hk, wrL_append, h.eq, List.map_append, hLs]
  · exact h.fr.next hF5 (fun i hi => by
      rcases hi with e | e | e
      · exact .inl (.inl e)
      · exact .inl (.inr e)
      · exact .inr (h.hv i e.symm))
  · intro q hq
    rcases hv5 q hq with e | e
    · exact h.hv q e.symm
    · have := h.fr.size; omega
theorem PI.grown {w4 wq w6 : World} {B0 g gr a b c k : Nat} {X cur : List Int} {v vg : Value} {L : List (S3 × List Int)} {xs : List S3} (h : PI w4 B0 g gr a b c X k cur v L wq) (hO : OwT wq w4.heap.size vg xs) (hG : wq.grownBy w6 vg.ownBlock) : PI w4 B0 g gr a b c X k cur v L w6 := by
  obtain ⟨cs, hrt⟩ := h.cs.typed
  have hg := hG.block g (Array.getElem?_eq_some_iff.1 h.cs.blk).1 (Kd.R_ne hO h.cs.blk (by decide))
  have hr := hG.block gr (Array.getElem?_eq_some_iff.1 hrt).1 (Kd.R_ne hO hrt (by decide))
  refine ⟨⟨hg.trans h.cs.blk, h.cs.roll.move hr, Kd.R_over h.cs.own hO (fun q hq => by
    rcases List.mem_cons.1 hq with rfl | hq
    · decide
    · cases hq) hG, h.cs.by_, h.cs.hg, h.cs.hr⟩, fun p hp => ⟨(h.ch p hp).1.move fun q cells e hBq hl => hG.block q (Array.getElem?_eq_some_iff.1 hl).1 (Kd.R_ne hO hl (by decide)), (h.ch p hp).2⟩, h.eq, h.fr.grown hG (fun i hi => .inr ?_), h.hv⟩
  rcases Kd.R_base2 hO with h1 | ⟨q', h1, hq'⟩
  · rw [h1] at hi; cases hi
  · rw [h1] at hi; cases hi; exact hq'
/-- The row stays, while bytes are written. -/
theorem got_step {wq w5 : World} {B0 g gr a b c B1 : Nat} {cur : List Int} {v vg : Value} {xs : List S3} (h : OwT wq B1 vg xs) (hC : CSt B0 g gr a b c cur v wq) (hF : Fr wq w5 (SW g gr v)) : OwT w5 B1 vg xs := h.move fun k cells _ hk => hF.block k (Array.getElem?_eq_some_iff.1 hk).1 (by
  obtain ⟨cs, hrt⟩ := hC.typed
  rintro (rfl | rfl | e)
  · rw [hC.blk] at hk
    injection hk with hk
    injection hk with _ hk
    exact absurd hk (by decide)
  · rw [hrt] at hk
    injection hk with hk
    injection hk with _ hk
    exact absurd hk (by decide)
  · exact Kd.R_ne hC.own hk (by decide) e)
end Go.Proofs.Ytdbgbbodkoppdaa
