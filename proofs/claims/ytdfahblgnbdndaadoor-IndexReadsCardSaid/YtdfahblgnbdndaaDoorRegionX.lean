/- Drawn regions in which blocks of a set may turn meanwhile (XRegion's theorems, with 'Fr w w' X' for 'Later w w''). Plain theorems over any program. -/
import Derived.Test.YtdfahblgnbdndaaDoorG1
namespace Go.Proofs.YtdfahblgnbdndaaDoor
open Go.RowKit Go.Proofs.YtdfahblgnbdndaaDoorW.PrintWords
open Go.Proofs.YtdfahblgnbdndaaDoorW.PrintLast (Region.reachB Region.closedB Region.lastB ListedClosed Region.closedB_spec ListedClosed.set Region.reach_not_ready)
set_option linter.unusedVariables false
section
variable {P : Program} {ops : Array Oper} {Q : Exit → Act → World → Prop} {md : Region.Mode} {ds : List Nat} {X : Nat → Prop}
/-- Whatever order is picked, each world is later than the one before, but behind those of ds. -/
def wpAnyX (P : Program) (md : Region.Mode) (ops : Array Oper) (Q : Exit → Act → World → Prop) (ds : List Nat) (X : Nat → Prop) : Nat → Array Bool → Act → World → Prop
  | 0, listed, a, w => Region.ready md ops listed = [] ∧ Q .normal a w
  | fuel + 1, listed, a, w =>
    (Region.ready md ops listed = [] → Q .normal a w) ∧
    ∀ i ∈ Region.ready md ops listed, wpOp P ops Q i (fun a' w' => (i ∉ ds → Fr w w' X) ∧ wpAnyX P md ops Q ds X fuel (listed.setIfInBounds i true) a' w') a w

theorem wpAny_of_X : ∀ (fuel : Nat) (listed : Array Bool) (a : Act) (w : World), wpAnyX P md ops Q ds X fuel listed a w → wpAny P md ops Q fuel listed a w
  | 0, _, _, _, h => h
  | fuel + 1, _, _, _, h => ⟨h.1, fun i hi => wpOp_mono (fun a' w' h' => wpAny_of_X fuel _ a' w' h'.2) (h.2 i hi)⟩

theorem wpAnyX_first {i : Nat} {oi : Oper} {v : Value} (hi : ops[i]? = some oi) (hsel : ∀ (j : Nat) (o : Oper) cs b, ops[j]? = some o → o.op ≠ .select cs b)
    (hQ : ∀ c a w, Q (.panic c) (a.put oi.dst v) w → Q (.panic c) a w) (n : Nat) :
    ∀ (fuel : Nat) (listed : Array Bool) (a : Act) (w : World),
      (∀ j oj, ops[j]? = some oj → j ≠ i → listed.getD j true = false → (∀ e ∈ oj.after, Region.binds md e = true → e.on ≠ i) → oi.apart ops oj = true) →
      ListedClosed md ops listed → (∀ d ∈ ds, listed.getD d true = false → Region.reachB md ops i n d = true) →
      i ∈ Region.ready md ops listed → Yq P ops (fun w' => Fr w w' X) oi v a →
      wpAnyX P md ops Q ds X fuel (listed.setIfInBounds i true) (a.put oi.dst v) w → wpAnyX P md ops Q ds X (fuel + 1) listed a w := by
  intro fuel
  induction fuel with
  | zero =>
    intro listed a w _ _ _ hr hy H
    refine ⟨fun h => (by rw [h] at hr; cases hr), fun j hj => ?_⟩
    by_cases hji : j = i
    · subst hji; exact hy.wpOp hi (Fr.refl w X) ⟨fun _ => Fr.refl w X, H⟩
    · have := ready_mono hj hji
      rw [H.1] at this
      cases this
  | succ fuel ih =>
    intro listed a w hfree hc hd hr hy H
    refine ⟨fun h => (by rw [h] at hr; cases hr), fun j hj => ?_⟩
    by_cases hji : j = i
    · subst hji; exact hy.wpOp hi (Fr.refl w X) ⟨fun _ => Fr.refl w X, H⟩
    · have h1 := H.2 j (ready_mono hj hji)
      obtain ⟨hjun, oj, hoj, hall⟩ := mem_ready.1 hj
      have hiun := (mem_ready.1 hr).1
      have hnot : ∀ e ∈ oj.after, Region.binds md e = true → e.on ≠ i := fun e he hb heq => by
        have h1 := hall e he hb
        rw [heq] at h1
        rcases Nat.lt_or_ge i listed.size with h' | h'
        · simp [h'] at hiun h1; rw [hiun] at h1; cases h1
        · simp [Array.getElem?_eq_none h'] at h1
      have hjd : j ∉ ds := fun hm => Region.reach_not_ready hc (hd j hm hjun) hiun hj
      have h2 := wpOp_putQ hoj (hfree j oj hoj hji hjun hnot) (fun cs b => hsel i oi cs b hi) (fun cs b => hsel j oj cs b hoj) hQ hy h1
      have hfree' : ∀ k ok, ops[k]? = some ok → k ≠ i → (listed.setIfInBounds j true).getD k true = false →
          (∀ e ∈ ok.after, Region.binds md e = true → e.on ≠ i) → oi.apart ops ok = true := fun k ok hk hki hun hno => by
        refine hfree k ok hk hki ?_ hno
        by_cases hjk : j = k
        · subst hjk; exact hjun
        · rw [getD_set_ne true hjk] at hun; exact hun
      have hd' : ∀ d ∈ ds, (listed.setIfInBounds j true).getD d true = false → Region.reachB md ops i n d = true := fun d hdm hun => by
        refine hd d hdm ?_
        by_cases hjk : j = d
        · subst hjk; exact hjun
        · rw [getD_set_ne true hjk] at hun; exact hun
      refine wpOp_mono (fun a' w' h3 => ⟨h3.2.1, ih (listed.setIfInBounds j true) a' w' hfree' (hc.set hj) hd' (ready_mono hr (Ne.symm hji)) (Yq.imp h3.1 (fun w'' hl => (h3.2.1 hjd).trans hl)) ?_⟩) h2
      rw [Array.setIfInBounds_comm _ _ hji]
      exact h3.2.2

/-- An operation that no world hangs on. -/
theorem wpAnyX_firstP {i : Nat} {oi : Oper} {v : Value} (hi : ops[i]? = some oi) (hsel : ∀ (j : Nat) (o : Oper) cs b, ops[j]? = some o → o.op ≠ .select cs b)
    (hQ : ∀ c a w, Q (.panic c) (a.put oi.dst v) w → Q (.panic c) a w) :
    ∀ (fuel : Nat) (listed : Array Bool) (a : Act) (w : World),
      (∀ j oj, ops[j]? = some oj → j ≠ i → listed.getD j true = false → (∀ e ∈ oj.after, Region.binds md e = true → e.on ≠ i) → oi.apart ops oj = true) →
      i ∈ Region.ready md ops listed → Yq P ops (fun _ => True) oi v a →
      wpAnyX P md ops Q ds X fuel (listed.setIfInBounds i true) (a.put oi.dst v) w → wpAnyX P md ops Q ds X (fuel + 1) listed a w := by
  intro fuel
  induction fuel with
  | zero =>
    intro listed a w _ hr hy H
    refine ⟨fun h => (by rw [h] at hr; cases hr), fun j hj => ?_⟩
    by_cases hji : j = i
    · subst hji; exact hy.wpOp hi trivial ⟨fun _ => Fr.refl w X, H⟩
    · have := ready_mono hj hji
      rw [H.1] at this
      cases this
  | succ fuel ih =>
    intro listed a w hfree hr hy H
    refine ⟨fun h => (by rw [h] at hr; cases hr), fun j hj => ?_⟩
    by_cases hji : j = i
    · subst hji; exact hy.wpOp hi trivial ⟨fun _ => Fr.refl w X, H⟩
    · have h1 := H.2 j (ready_mono hj hji)
      obtain ⟨hjun, oj, hoj, hall⟩ := mem_ready.1 hj
      have hiun := (mem_ready.1 hr).1
      have hnot : ∀ e ∈ oj.after, Region.binds md e = true → e.on ≠ i := fun e he hb heq => by
        have h1 := hall e he hb
        rw [heq] at h1
        rcases Nat.lt_or_ge i listed.size with h' | h'
        · simp [h'] at hiun h1; rw [hiun] at h1; cases h1
        · simp [Array.getElem?_eq_none h'] at h1
      have h2 := wpOp_putQ hoj (hfree j oj hoj hji hjun hnot) (fun cs b => hsel i oi cs b hi) (fun cs b => hsel j oj cs b hoj) hQ hy h1
      have hfree' : ∀ k ok, ops[k]? = some ok → k ≠ i → (listed.setIfInBounds j true).getD k true = false →
          (∀ e ∈ ok.after, Region.binds md e = true → e.on ≠ i) → oi.apart ops ok = true := fun k ok hk hki hun hno => by
        refine hfree k ok hk hki ?_ hno
        by_cases hjk : j = k
        · subst hjk; exact hjun
        · rw [getD_set_ne true hjk] at hun; exact hun
      refine wpOp_mono (fun a' w' h3 => ⟨h3.2.1, ih (listed.setIfInBounds j true) a' w' hfree' (ready_mono hr (Ne.symm hji)) h3.1 ?_⟩) h2
      rw [Array.setIfInBounds_comm _ _ hji]
      exact h3.2.2

def seqX (P : Program) (ops : Array Oper) (Q : Exit → Act → World → Prop) (ds : List Nat) (X : Nat → Prop) : Ord → Act → World → Prop
  | .done, a, w => Q .normal a w
  | .pure i r, a, w => ∃ o v, ops[i]? = some o ∧ Yq P ops (fun _ => True) o v a ∧ seqX P ops Q ds X r (a.put o.dst v) w
  | .take i r, a, w => ∃ o v, ops[i]? = some o ∧ Yq P ops (fun w' => Fr w w' X) o v a ∧ seqX P ops Q ds X r (a.put o.dst v) w
  | .run i r, a, w => wpOp P ops Q i (fun a' w' => (i ∉ ds → Fr w w' X) ∧ seqX P ops Q ds X r a' w') a w
  | .fork i j r s, a, w => wpOp P ops Q i (fun a' w' => (i ∉ ds → Fr w w' X) ∧ seqX P ops Q ds X r a' w') a w ∧ wpOp P ops Q j (fun a' w' => (j ∉ ds → Fr w w' X) ∧ seqX P ops Q ds X s a' w') a w
theorem wpAnyX_fuel : ∀ (n m : Nat) (l : Array Bool) (a : Act) (w : World), wpAnyX P md ops Q ds X n l a w → n ≤ m → wpAnyX P md ops Q ds X m l a w
  | 0, 0, _, _, _, h, _ => h
  | 0, m + 1, _, _, _, h, _ => ⟨fun _ => h.2, fun i hi => by rw [h.1] at hi; cases hi⟩
  | n + 1, m + 1, _, _, _, h, hm => ⟨h.1, fun i hi => wpOp_mono (fun a' w' h3 => ⟨h3.1, wpAnyX_fuel n m _ _ _ h3.2 (by omega)⟩) (h.2 i hi)⟩
  | n + 1, 0, _, _, _, _, hm => absurd hm (by omega)

theorem any_of_seqX (hs : Region.noSelect ops = true) (hQ : ∀ c a d v w, Q (.panic c) (a.put d v) w → Q (.panic c) a w) : ∀ (r : Ord) (l : Array Bool) (a : Act) (w : World),
    seqOk md ops ds r l = true → seqX P ops Q ds X r a w → wpAnyX P md ops Q ds X r.len l a w
  | .done, l, a, w, hc, h => by
    simp only [seqOk, beq_iff_eq] at hc
    exact ⟨hc, h⟩
  | .pure i r, l, a, w, hc, h => by
    simp only [seqOk, Bool.and_eq_true] at hc
    obtain ⟨⟨h1, h2⟩, h5⟩ := hc
    obtain ⟨o, v, hi, hy, h'⟩ := h
    exact wpAnyX_firstP hi (Region.noSelect_spec hs) (fun c a w => hQ c a _ _ w) r.len l a w (Region.free_spec hi h1) (by simpa using h2) hy (any_of_seqX hs hQ r _ _ _ h5 h')
  | .take i r, l, a, w, hc, h => by
    simp only [seqOk, Bool.and_eq_true] at hc
    obtain ⟨⟨⟨⟨h1, h2⟩, h3⟩, h4⟩, h5⟩ := hc
    obtain ⟨o, v, hi, hy, h'⟩ := h
    refine wpAnyX_first hi (Region.noSelect_spec hs) (fun c a w => hQ c a _ _ w) ops.size r.len l a w (Region.free_spec hi h1) (Region.closedB_spec h3) ?_ (by simpa using h2) hy (any_of_seqX hs hQ r _ _ _ h5 h')
    intro d hd hun
    have := List.all_eq_true.1 h4 d hd
    rw [hun] at this
    simpa using this
  | .run i r, l, a, w, hc, h => by
    simp only [seqOk, Bool.and_eq_true, beq_iff_eq] at hc
    refine ⟨fun h0 => ?_, fun j hj => ?_⟩
    · rw [h0] at hc; cases hc.1
    · rw [hc.1] at hj
      obtain rfl := List.mem_singleton.1 hj
      exact wpOp_mono (fun a' w' h3 => ⟨h3.1, any_of_seqX hs hQ r _ _ _ hc.2 h3.2⟩) h
  | .fork i j r s, l, a, w, hc, h => by
    simp only [seqOk, Bool.and_eq_true, beq_iff_eq] at hc
    refine ⟨fun h0 => ?_, fun k hk => ?_⟩
    · rw [h0] at hc; cases hc.1.1
    · rw [hc.1.1] at hk
      simp only [List.mem_cons, List.not_mem_nil, or_false] at hk
      rcases hk with rfl | rfl
      · exact wpOp_mono (fun a' w' h3 => ⟨h3.1, wpAnyX_fuel _ _ _ _ _ (any_of_seqX hs hQ r _ _ _ hc.1.2 h3.2) (Nat.le_max_left _ _)⟩) h.1
      · exact wpOp_mono (fun a' w' h3 => ⟨h3.1, wpAnyX_fuel _ _ _ _ _ (any_of_seqX hs hQ s _ _ _ hc.2 h3.2) (Nat.le_max_right _ _)⟩) h.2

/-- THE BEGINNING: the order is given, one look checks it. -/
theorem seqX_start {id : Nat} {a : Act} {w : World} (ds : List Nat) (X : Nat → Prop) (r : Ord) (hm : P.follows .mixedOrders = true)
    (hc : (Region.noSelect ops && seqOk .any ops ds r (Array.replicate ops.size false) && decide (r.len ≤ ops.size)) = true)
    (hQ : ∀ c a d v w, Q (.panic c) (a.put d v) w → Q (.panic c) a w) (h : seqX P ops Q ds X r a w.drew) : (Code.region id ops true).wp P Q a w := by
  simp only [Bool.and_eq_true, decide_eq_true_eq] at hc
  exact wp_region_any hm (wpAny_of_X _ _ _ _ (wpAnyX_fuel _ _ _ _ _ (any_of_seqX hc.1.1 hQ r _ a w.drew hc.1.2 h) hc.2))

theorem seqX_startN {id : Nat} {a : Act} {w : World} (ds : List Nat) (X : Nat → Prop) (r : Ord) (hm : P.follows .mixedOrders = true)
    (hc : (Region.noSelect ops && seqOk .any ops ds r (Array.replicate ops.size false) && decide (r.len ≤ ops.size)) = true)
    (h : seqX P ops (noPanic Q) ds X r a w.drew) : (Code.region id ops true).wp P Q a w :=
  wp_mono (seqX_start ds X r hm hc (fun _ _ _ _ _ h => h) h) (fun e a w h => by cases e <;> first | exact h | exact h.elim)
theorem seqX_endN {a : Act} {w : World} (h : Q .normal a w) : seqX P ops (noPanic Q) ds X .done a w := h
theorem seqX_take {i : Nat} {r : Ord} {o : Oper} {N : Tmp} {v : Value} {a a' : Act} {w : World} (hi : ops[i]? = some o) (hN : o.dst = some N) (hw : Region.wanted o (yielded ops a.tmps) = true)
    (hy : ∀ w', Fr w w' X → (execOp a.eval o).run P w' = .ok (.value v) w') (ha : a.put (some N) v = a') (h : seqX P ops Q ds X r a' w) : seqX P ops Q ds X (.take i r) a w := by
  subst ha
  rw [← hN] at h
  exact ⟨o, v, hi, .inl ⟨hw, fun w' h' => .inl (hy w' h')⟩, h⟩
theorem seqX_run {i : Nat} {r : Ord} {a : Act} {w : World} (h : wpOp P ops Q i (fun a' w' => (i ∉ ds → Fr w w' X) ∧ seqX P ops Q ds X r a' w') a w) : seqX P ops Q ds X (.run i r) a w := h
end
end Go.Proofs.YtdfahblgnbdndaaDoor
