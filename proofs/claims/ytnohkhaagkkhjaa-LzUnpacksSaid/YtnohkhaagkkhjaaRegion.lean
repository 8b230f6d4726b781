/- A region that draws its order, walked once in one order: what only reads (a quiet call, too) is taken as soon as it may come up, in every world that is later; what calls or makes memory comes up alone, or in either order (fork); what stores waits for all that is taken. Plain theorems over any program. -/
import Derived.OrdersHeld
import Derived.Deep.RegionHeld3
import Derived.Below
import Derived.Test.YtnohkhaagkkhjaaWWords
import Derived.Test.YtnohkhaagkkhjaaWLast
namespace Go.Proofs.Ytnohkhaagkkhjaa
open Go.RowKit Go.Proofs.YtnohkhaagkkhjaaW.PrintWords
open Go.Proofs.YtnohkhaagkkhjaaW.PrintLast (Region.reachB Region.closedB Region.lastB ListedClosed Region.closedB_spec ListedClosed.set Region.reach_not_ready)
set_option linter.unusedVariables false
section
variable {P : Program} {ops : Array Oper} {Q : Exit → Act → World → Prop} {md : Region.Mode} {ds : List Nat}

/-- w' is later than w: of w's blocks none has turned. -/
def Later (w w' : World) : Prop := Below w.heap.size w w'
theorem Later.size {w w' : World} (h : Later w w') : w.heap.size ≤ w'.heap.size := Below.size h
theorem Later.refl (w : World) : Later w w := Below.refl _ _
theorem Later.trans {a b c : World} (h : Later a b) (k : Later b c) : Later a c := Below.trans h (Below.mono k h.size)

/-- In every world that meets S the operation leaves v, and the world as it is: it yields v, or calls what hands back v. -/
def Yq (P : Program) (ops : Array Oper) (S : World → Prop) (o : Oper) (v : Value) (a : Act) : Prop :=
  (Region.wanted o (yielded ops a.tmps) = true ∧ ∀ w, S w → ((execOp a.eval o).run P w = .ok (.value v) w ∨ ∃ f args, (execOp a.eval o).run P w = .ok (.enter f args) w ∧ Calls P f args w (fun e w' => e = .returned v ∧ w = w'))) ∨
  (Region.wanted o (yielded ops a.tmps) = false ∧ v = undef)

theorem Yq.wpOp {S : World → Prop} {i : Nat} {o : Oper} {v : Value} {a : Act} (hi : ops[i]? = some o) (hy : Yq P ops S o v a)
    {K : Act → World → Prop} {w : World} (hS : S w) (h : K (a.put o.dst v) w) : wpOp P ops Q i K a w := by
  unfold Go.wpOp
  simp only [hi]
  rcases hy with ⟨hw, hv⟩ | ⟨hw, rfl⟩
  · simp only [hw, if_true, Oper.wp]
    rcases hv w hS with hr | ⟨f, args, hr, hc⟩
    · rw [hr]; exact .inl h
    · rw [hr]
      refine .inl ?_
      rw [Oper.upon_enter]
      refine hc.mono fun e w' he => ?_
      obtain ⟨rfl, rfl⟩ := he
      exact h
  · simp only [hw, Bool.false_eq_true, if_false]; exact h

theorem Yq.of_same {S : World → Prop} {o : Oper} {v : Value} {a a' : Act} (hy : Yq P ops S o v a) (he : execOp a'.eval o = execOp a.eval o)
    (hw : Region.wanted o (yielded ops a'.tmps) = Region.wanted o (yielded ops a.tmps)) : Yq P ops S o v a' := by
  unfold Yq at *
  rw [he, hw]
  exact hy
theorem Yq.imp {S S' : World → Prop} {o : Oper} {v : Value} {a : Act} (h : Yq P ops S o v a) (hS : ∀ w, S' w → S w) : Yq P ops S' o v a :=
  Or.imp (fun ⟨h1, h2⟩ => ⟨h1, fun w hw => h2 w (hS w hw)⟩) id h

/-- (The kit's wpOp_putIf, for Yq.) -/
theorem wpOp_putQ {S : World → Prop} {j : Nat} {oi oj : Oper} {v : Value} (hj : ops[j]? = some oj) (hap : oi.apart ops oj = true)
    (hsi : ∀ cs b, oi.op ≠ .select cs b) (hsj : ∀ cs b, oj.op ≠ .select cs b)
    (hQ : ∀ c a w, Q (.panic c) (a.put oi.dst v) w → Q (.panic c) a w) {K : Act → World → Prop} {a : Act} {w : World}
    (hy : Yq P ops S oi v a) (h : wpOp P ops Q j K (a.put oi.dst v) w) :
    wpOp P ops Q j (fun a' w' => Yq P ops S oi v a' ∧ K (a'.put oi.dst v) w') a w := by
  obtain ⟨h1, h2, h3⟩ := Oper.apart_spec hap
  have keep : ∀ (a : Act), Yq P ops S oi v a → ∀ u, Yq P ops S oi v (a.put oj.dst u) := fun a hy u =>
    hy.of_same (execOp_put oi hsi a oj.dst u h3) (wanted_put oi a oj.dst u h3)
  have keepD : ∀ d, Yq P ops S oi v { a with defers := d :: a.defers } := fun d => hy.of_same rfl rfl
  unfold wpOp at *
  simp only [hj] at *
  rw [wanted_put oj a oi.dst v h1] at h
  split
  · rename_i hw
    simp only [hw, if_true] at h
    rcases h with h | ⟨hasks, hlets⟩
    case inr => exact .inr ⟨by unfold Oper.asks at *; rw [execOp_put oj hsj a oi.dst v h1] at hasks; exact hasks, hlets⟩
    refine .inl ?_
    unfold Oper.wp at *
    rw [execOp_put oj hsj a oi.dst v h1] at h
    generalize (execOp a.eval oj).run P w = r at *
    cases r with
    | ok x w' =>
      cases x with
      | value u => exact ⟨keep a hy u, by rw [← Act.put_comm a v u h2]; exact h⟩
      | skip => exact ⟨keep a hy _, by rw [← Act.put_comm a v undef h2]; exact h⟩
      | defer d =>
        refine ⟨?_, ?_⟩
        · exact (keepD d).of_same (execOp_put oi hsi { a with defers := d :: a.defers } oj.dst undef h3) (wanted_put oi { a with defers := d :: a.defers } oj.dst undef h3)
        · rw [← Act.put_comm _ v undef h2, ← Act.put_defers]
          exact h
      | enter f args =>
        simp only [Oper.upon] at h ⊢
        refine h.mono fun e w'' he => ?_
        cases e with
        | returned u => exact ⟨keep a hy u, by rw [← Act.put_comm a v u h2]; exact he⟩
        | panicked c => exact hQ _ _ _ he
        | outgrown => exact he
      | row row args =>
        simp only [Oper.upon] at h ⊢
        exact h.mono fun u w'' he => ⟨keep a hy u, by rw [← Act.put_comm a v u h2]; exact he⟩
      | _ => exact h
    | halt x w' =>
      cases x with
      | panic u => exact hQ _ _ _ h
      | _ => exact h
  · rename_i hw
    simp only [hw, Bool.false_eq_true, if_false] at h
    exact ⟨keep a hy _, by rw [← Act.put_comm a v undef h2]; exact h⟩

/-- Whatever order is picked, each world is later than the one before, but behind those of ds. -/
def wpAnyL (P : Program) (md : Region.Mode) (ops : Array Oper) (Q : Exit → Act → World → Prop) (ds : List Nat) : Nat → Array Bool → Act → World → Prop
  | 0, listed, a, w => Region.ready md ops listed = [] ∧ Q .normal a w
  | fuel + 1, listed, a, w =>
    (Region.ready md ops listed = [] → Q .normal a w) ∧
    ∀ i ∈ Region.ready md ops listed, wpOp P ops Q i (fun a' w' => (i ∉ ds → Later w w') ∧ wpAnyL P md ops Q ds fuel (listed.setIfInBounds i true) a' w') a w

theorem wpAny_of_L : ∀ (fuel : Nat) (listed : Array Bool) (a : Act) (w : World), wpAnyL P md ops Q ds fuel listed a w → wpAny P md ops Q fuel listed a w
  | 0, _, _, _, h => h
  | fuel + 1, _, _, _, h => ⟨h.1, fun i hi => wpOp_mono (fun a' w' h' => wpAny_of_L fuel _ a' w' h'.2) (h.2 i hi)⟩

theorem wpAnyL_first {i : Nat} {oi : Oper} {v : Value} (hi : ops[i]? = some oi) (hsel : ∀ (j : Nat) (o : Oper) cs b, ops[j]? = some o → o.op ≠ .select cs b)
    (hQ : ∀ c a w, Q (.panic c) (a.put oi.dst v) w → Q (.panic c) a w) (n : Nat) :
    ∀ (fuel : Nat) (listed : Array Bool) (a : Act) (w : World),
      (∀ j oj, ops[j]? = some oj → j ≠ i → listed.getD j true = false → (∀ e ∈ oj.after, Region.binds md e = true → e.on ≠ i) → oi.apart ops oj = true) →
      ListedClosed md ops listed → (∀ d ∈ ds, listed.getD d true = false → Region.reachB md ops i n d = true) →
      i ∈ Region.ready md ops listed → Yq P ops (Later w) oi v a →
      wpAnyL P md ops Q ds fuel (listed.setIfInBounds i true) (a.put oi.dst v) w → wpAnyL P md ops Q ds (fuel + 1) listed a w := by
  intro fuel
  induction fuel with
  | zero =>
    intro listed a w _ _ _ hr hy H
    refine ⟨fun h => (by rw [h] at hr; cases hr), fun j hj => ?_⟩
    by_cases hji : j = i
    · subst hji; exact hy.wpOp hi (Later.refl w) ⟨fun _ => Later.refl w, H⟩
    · have := ready_mono hj hji
      rw [H.1] at this
      cases this
  | succ fuel ih =>
    intro listed a w hfree hc hd hr hy H
    refine ⟨fun h => (by rw [h] at hr; cases hr), fun j hj => ?_⟩
    by_cases hji : j = i
    · subst hji; exact hy.wpOp hi (Later.refl w) ⟨fun _ => Later.refl w, H⟩
    · have h1 := H.2 j (ready_mono hj hji)
      obtain ⟨hjun, oj, hoj, hall⟩ := mem_ready.1 hj
      have hiun := (mem_ready.1 hr).1
      have hnot : ∀ e ∈ oj.after, Region.binds md e = true → e.on ≠ i := fun e he hb heq => by
        have h1 := hall e he hb
        rw [heq] at h1
        rcases Nat.lt_or_ge i listed.size with h' | h'
        · simp [h'] at hiun h1; rw [hiun] at h1; cases h1
        · simp [Array.getElem?_eq_none h'] at h1
      have hjd : j ∉ ds := fun hm => Region.reach_not_ready hc (hd j hm hjun) hiun hj
      have h2 := wpOp_putQ hoj (hfree j oj hoj hji hjun hnot) (fun cs b => hsel i oi cs b hi) (fun cs b => hsel j oj cs b hoj) hQ hy h1
      have hfree' : ∀ k ok, ops[k]? = some ok → k ≠ i → (listed.setIfInBounds j true).getD k true = false →
          (∀ e ∈ ok.after, Region.binds md e = true → e.on ≠ i) → oi.apart ops ok = true := fun k ok hk hki hun hno => by
        refine hfree k ok hk hki ?_ hno
        by_cases hjk : j = k
        · subst hjk; exact hjun
        · rw [getD_set_ne true hjk] at hun; exact hun
      have hd' : ∀ d ∈ ds, (listed.setIfInBounds j true).getD d true = false → Region.reachB md ops i n d = true := fun d hdm hun => by
        refine hd d hdm ?_
        by_cases hjk : j = d
        · subst hjk; exact hjun
        · rw [getD_set_ne true hjk] at hun; exact hun
      refine wpOp_mono (fun a' w' h3 => ⟨h3.2.1, ih (listed.setIfInBounds j true) a' w' hfree' (hc.set hj) hd' (ready_mono hr (Ne.symm hji)) (Yq.imp h3.1 (fun w'' hl => (h3.2.1 hjd).trans hl)) ?_⟩) h2
      rw [Array.setIfInBounds_comm _ _ hji]
      exact h3.2.2

/-- An operation that no world hangs on. -/
theorem wpAnyL_firstP {i : Nat} {oi : Oper} {v : Value} (hi : ops[i]? = some oi) (hsel : ∀ (j : Nat) (o : Oper) cs b, ops[j]? = some o → o.op ≠ .select cs b)
    (hQ : ∀ c a w, Q (.panic c) (a.put oi.dst v) w → Q (.panic c) a w) :
    ∀ (fuel : Nat) (listed : Array Bool) (a : Act) (w : World),
      (∀ j oj, ops[j]? = some oj → j ≠ i → listed.getD j true = false → (∀ e ∈ oj.after, Region.binds md e = true → e.on ≠ i) → oi.apart ops oj = true) →
      i ∈ Region.ready md ops listed → Yq P ops (fun _ => True) oi v a →
      wpAnyL P md ops Q ds fuel (listed.setIfInBounds i true) (a.put oi.dst v) w → wpAnyL P md ops Q ds (fuel + 1) listed a w := by
  intro fuel
  induction fuel with
  | zero =>
    intro listed a w _ hr hy H
    refine ⟨fun h => (by rw [h] at hr; cases hr), fun j hj => ?_⟩
    by_cases hji : j = i
    · subst hji; exact hy.wpOp hi trivial ⟨fun _ => Later.refl w, H⟩
    · have := ready_mono hj hji
      rw [H.1] at this
      cases this
  | succ fuel ih =>
    intro listed a w hfree hr hy H
    refine ⟨fun h => (by rw [h] at hr; cases hr), fun j hj => ?_⟩
    by_cases hji : j = i
    · subst hji; exact hy.wpOp hi trivial ⟨fun _ => Later.refl w, H⟩
    · have h1 := H.2 j (ready_mono hj hji)
      obtain ⟨hjun, oj, hoj, hall⟩ := mem_ready.1 hj
      have hiun := (mem_ready.1 hr).1
      have hnot : ∀ e ∈ oj.after, Region.binds md e = true → e.on ≠ i := fun e he hb heq => by
        have h1 := hall e he hb
        rw [heq] at h1
        rcases Nat.lt_or_ge i listed.size with h' | h'
        · simp [h'] at hiun h1; rw [hiun] at h1; cases h1
        · simp [Array.getElem?_eq_none h'] at h1
      have h2 := wpOp_putQ hoj (hfree j oj hoj hji hjun hnot) (fun cs b => hsel i oi cs b hi) (fun cs b => hsel j oj cs b hoj) hQ hy h1
      have hfree' : ∀ k ok, ops[k]? = some ok → k ≠ i → (listed.setIfInBounds j true).getD k true = false →
          (∀ e ∈ ok.after, Region.binds md e = true → e.on ≠ i) → oi.apart ops ok = true := fun k ok hk hki hun hno => by
        refine hfree k ok hk hki ?_ hno
        by_cases hjk : j = k
        · subst hjk; exact hjun
        · rw [getD_set_ne true hjk] at hun; exact hun
      refine wpOp_mono (fun a' w' h3 => ⟨h3.2.1, ih (listed.setIfInBounds j true) a' w' hfree' (ready_mono hr (Ne.symm hji)) h3.1 ?_⟩) h2
      rw [Array.setIfInBounds_comm _ _ hji]
      exact h3.2.2

/-- One order: 'take': it only reads; 'pure': it hangs on no world; 'run': it is carried out; 'fork': either may come first. -/
inductive Ord where
  | done
  | pure (i : Nat) (r : Ord)
  | take (i : Nat) (r : Ord)
  | run (i : Nat) (r : Ord)
  | fork (i j : Nat) (ri rj : Ord)
def Ord.len : Ord → Nat
  | .done => 0
  | .pure _ r => r.len + 1
  | .take _ r => r.len + 1
  | .run _ r => r.len + 1
  | .fork _ _ r s => max r.len s.len + 1
def seqL (P : Program) (ops : Array Oper) (Q : Exit → Act → World → Prop) (ds : List Nat) : Ord → Act → World → Prop
  | .done, a, w => Q .normal a w
  | .pure i r, a, w => ∃ o v, ops[i]? = some o ∧ Yq P ops (fun _ => True) o v a ∧ seqL P ops Q ds r (a.put o.dst v) w
  | .take i r, a, w => ∃ o v, ops[i]? = some o ∧ Yq P ops (Later w) o v a ∧ seqL P ops Q ds r (a.put o.dst v) w
  | .run i r, a, w => wpOp P ops Q i (fun a' w' => (i ∉ ds → Later w w') ∧ seqL P ops Q ds r a' w') a w
  | .fork i j r s, a, w => wpOp P ops Q i (fun a' w' => (i ∉ ds → Later w w') ∧ seqL P ops Q ds r a' w') a w ∧ wpOp P ops Q j (fun a' w' => (j ∉ ds → Later w w') ∧ seqL P ops Q ds s a' w') a w
def seqOk (md : Region.Mode) (ops : Array Oper) (ds : List Nat) : Ord → Array Bool → Bool
  | .done, l => Region.ready md ops l == []
  | .pure i r, l => Region.free md ops l i && (Region.ready md ops l).contains i && seqOk md ops ds r (l.setIfInBounds i true)
  | .take i r, l => Region.free md ops l i && (Region.ready md ops l).contains i && Region.closedB md ops l && Region.lastB md ops l ds i && seqOk md ops ds r (l.setIfInBounds i true)
  | .run i r, l => Region.ready md ops l == [i] && seqOk md ops ds r (l.setIfInBounds i true)
  | .fork i j r s, l => Region.ready md ops l == [i, j] && seqOk md ops ds r (l.setIfInBounds i true) && seqOk md ops ds s (l.setIfInBounds j true)

theorem wpAnyL_fuel : ∀ (n m : Nat) (l : Array Bool) (a : Act) (w : World), wpAnyL P md ops Q ds n l a w → n ≤ m → wpAnyL P md ops Q ds m l a w
  | 0, 0, _, _, _, h, _ => h
  | 0, m + 1, _, _, _, h, _ => ⟨fun _ => h.2, fun i hi => by rw [h.1] at hi; cases hi⟩
  | n + 1, m + 1, _, _, _, h, hm => ⟨h.1, fun i hi => wpOp_mono (fun a' w' h3 => ⟨h3.1, wpAnyL_fuel n m _ _ _ h3.2 (by omega)⟩) (h.2 i hi)⟩
  | n + 1, 0, _, _, _, _, hm => absurd hm (by omega)

theorem any_of_seq (hs : Region.noSelect ops = true) (hQ : ∀ c a d v w, Q (.panic c) (a.put d v) w → Q (.panic c) a w) : ∀ (r : Ord) (l : Array Bool) (a : Act) (w : World),
    seqOk md ops ds r l = true → seqL P ops Q ds r a w → wpAnyL P md ops Q ds r.len l a w
  | .done, l, a, w, hc, h => by
    simp only [seqOk, beq_iff_eq] at hc
    exact ⟨hc, h⟩
  | .pure i r, l, a, w, hc, h => by
    simp only [seqOk, Bool.and_eq_true] at hc
    obtain ⟨⟨h1, h2⟩, h5⟩ := hc
    obtain ⟨o, v, hi, hy, h'⟩ := h
    exact wpAnyL_firstP hi (Region.noSelect_spec hs) (fun c a w => hQ c a _ _ w) r.len l a w (Region.free_spec hi h1) (by simpa using h2) hy (any_of_seq hs hQ r _ _ _ h5 h')
  | .take i r, l, a, w, hc, h => by
    simp only [seqOk, Bool.and_eq_true] at hc
    obtain ⟨⟨⟨⟨h1, h2⟩, h3⟩, h4⟩, h5⟩ := hc
    obtain ⟨o, v, hi, hy, h'⟩ := h
    refine wpAnyL_first hi (Region.noSelect_spec hs) (fun c a w => hQ c a _ _ w) ops.size r.len l a w (Region.free_spec hi h1) (Region.closedB_spec h3) ?_ (by simpa using h2) hy (any_of_seq hs hQ r _ _ _ h5 h')
    intro d hd hun
    have := List.all_eq_true.1 h4 d hd
    rw [hun] at this
    simpa using this
  | .run i r, l, a, w, hc, h => by
    simp only [seqOk, Bool.and_eq_true, beq_iff_eq] at hc
    refine ⟨fun h0 => ?_, fun j hj => ?_⟩
    · rw [h0] at hc; cases hc.1
    · rw [hc.1] at hj
      obtain rfl := List.mem_singleton.1 hj
      exact wpOp_mono (fun a' w' h3 => ⟨h3.1, any_of_seq hs hQ r _ _ _ hc.2 h3.2⟩) h
  | .fork i j r s, l, a, w, hc, h => by
    simp only [seqOk, Bool.and_eq_true, beq_iff_eq] at hc
    refine ⟨fun h0 => ?_, fun k hk => ?_⟩
    · rw [h0] at hc; cases hc.1.1
    · rw [hc.1.1] at hk
      simp only [List.mem_cons, List.not_mem_nil, or_false] at hk
      rcases hk with rfl | rfl
      · exact wpOp_mono (fun a' w' h3 => ⟨h3.1, wpAnyL_fuel _ _ _ _ _ (any_of_seq hs hQ r _ _ _ hc.1.2 h3.2) (Nat.le_max_left _ _)⟩) h.1
      · exact wpOp_mono (fun a' w' h3 => ⟨h3.1, wpAnyL_fuel _ _ _ _ _ (any_of_seq hs hQ s _ _ _ hc.2 h3.2) (Nat.le_max_right _ _)⟩) h.2

/-- THE BEGINNING: the order is given, one look checks it. -/
theorem seq_start {id : Nat} {a : Act} {w : World} (ds : List Nat) (r : Ord) (hm : P.follows .mixedOrders = true)
    (hc : (Region.noSelect ops && seqOk .any ops ds r (Array.replicate ops.size false) && decide (r.len ≤ ops.size)) = true)
    (hQ : ∀ c a d v w, Q (.panic c) (a.put d v) w → Q (.panic c) a w) (h : seqL P ops Q ds r a w.drew) : (Code.region id ops true).wp P Q a w := by
  simp only [Bool.and_eq_true, decide_eq_true_eq] at hc
  exact wp_region_any hm (wpAny_of_L _ _ _ _ (wpAnyL_fuel _ _ _ _ _ (any_of_seq hc.1.1 hQ r _ a w.drew hc.1.2 h) hc.2))

/-- Q, but nothing panics. -/
def noPanic (Q : Exit → Act → World → Prop) : Exit → Act → World → Prop
  | .panic _, _, _ => False
  | e, a, w => Q e a w
theorem seq_startN {id : Nat} {a : Act} {w : World} (ds : List Nat) (r : Ord) (hm : P.follows .mixedOrders = true)
    (hc : (Region.noSelect ops && seqOk .any ops ds r (Array.replicate ops.size false) && decide (r.len ≤ ops.size)) = true)
    (h : seqL P ops (noPanic Q) ds r a w.drew) : (Code.region id ops true).wp P Q a w :=
  wp_mono (seq_start ds r hm hc (fun _ _ _ _ _ h => h) h) (fun e a w h => by cases e <;> first | exact h | exact h.elim)
theorem seq_endN {a : Act} {w : World} (h : Q .normal a w) : seqL P ops (noPanic Q) ds .done a w := h
theorem seq_take {i : Nat} {r : Ord} {o : Oper} {N : Tmp} {v : Value} {a a' : Act} {w : World} (hi : ops[i]? = some o) (hN : o.dst = some N) (hw : Region.wanted o (yielded ops a.tmps) = true)
    (hy : ∀ w', Later w w' → (execOp a.eval o).run P w' = .ok (.value v) w') (ha : a.put (some N) v = a') (h : seqL P ops Q ds r a' w) : seqL P ops Q ds (.take i r) a w := by
  subst ha
  rw [← hN] at h
  exact ⟨o, v, hi, .inl ⟨hw, fun w' h' => .inl (hy w' h')⟩, h⟩
theorem seq_pure {i : Nat} {r : Ord} {o : Oper} {N : Tmp} {v : Value} {a a' : Act} {w : World} (hi : ops[i]? = some o) (hN : o.dst = some N) (hw : Region.wanted o (yielded ops a.tmps) = true)
    (hy : ∀ w', (execOp a.eval o).run P w' = .ok (.value v) w') (ha : a.put (some N) v = a') (h : seqL P ops Q ds r a' w) : seqL P ops Q ds (.pure i r) a w := by
  subst ha
  rw [← hN] at h
  exact ⟨o, v, hi, .inl ⟨hw, fun w' _ => .inl (hy w')⟩, h⟩
theorem call_run {o : Oper} {a : Act} {f : FuncId} {fn : Func} {as : Array Operand} {ts : Array TypeId} (hop : o.op = .call { callee := .value (.func f), args := as, argTypes := ts }) (hf : P.funcs[f]? = some fn) (hname : (fn.name == "runtime.NumGoroutine") = false) (hb : fn.body.isSome = true) (args : Array Value)
    (hargs : as.map a.eval = args) (w : World) : (execOp a.eval o).run P w = .ok (.enter f args) w := by
  have he := Go.Proofs.YtnohkhaagkkhjaaW.PrintLast.enters_ hf hname hb args w
  unfold execOp
  simp [hop, resolve, Deferred.ofValue, invoke, Act.eval, hargs, he]
/-- A call that leaves each world as it is: taken like a read. -/
theorem seq_quiet {i : Nat} {r : Ord} {o : Oper} {N : Tmp} {v : Value} {a a' : Act} {w : World} {f : FuncId} {fn : Func} {as : Array Operand} {ts : Array TypeId} (hi : ops[i]? = some o) (hN : o.dst = some N) (hw : Region.wanted o (yielded ops a.tmps) = true)
    (hop : o.op = .call { callee := .value (.func f), args := as, argTypes := ts }) (hf : P.funcs[f]? = some fn) (hname : (fn.name == "runtime.NumGoroutine") = false) (hb : fn.body.isSome = true) (args : Array Value)
    (hargs : as.map a.eval = args) (hc : ∀ w', Later w w' → Calls P f args w' (fun e w'' => e = .returned v ∧ w' = w'')) (ha : a.put (some N) v = a') (h : seqL P ops Q ds r a' w) : seqL P ops Q ds (.take i r) a w := by
  subst ha
  rw [← hN] at h
  exact ⟨o, v, hi, .inl ⟨hw, fun w' h' => .inr ⟨f, args, call_run hop hf hname hb args hargs w', hc w' h'⟩⟩, h⟩
theorem seq_off {i : Nat} {r : Ord} {o : Oper} {N : Tmp} {a a' : Act} {w : World} (hi : ops[i]? = some o) (hN : o.dst = some N) (hw : Region.wanted o (yielded ops a.tmps) = false)
    (ha : a.put (some N) undef = a') (h : seqL P ops Q ds r a' w) : seqL P ops Q ds (.take i r) a w := by
  subst ha
  rw [← hN] at h
  exact ⟨o, undef, hi, .inr ⟨hw, rfl⟩, h⟩
/-- One that is carried out. -/
theorem do_ {i : Nat} {o : Oper} {a : Act} {w : World} {K : Act → World → Prop} (hi : ops[i]? = some o) (hw : Region.wanted o (yielded ops a.tmps) = true) (h : Oper.wp P o a w K Q) : wpOp P ops Q i K a w := by
  unfold wpOp
  simp only [hi, hw, if_true]
  exact .inl h
theorem do_off {i : Nat} {o : Oper} {N : Tmp} {a a' : Act} {w : World} {K : Act → World → Prop} (hi : ops[i]? = some o) (hN : o.dst = some N) (hw : Region.wanted o (yielded ops a.tmps) = false)
    (ha : a.put (some N) undef = a') (h : K a' w) : wpOp P ops Q i K a w := by
  subst ha
  rw [← hN] at h
  unfold wpOp
  simp only [hi, hw, Bool.false_eq_true, if_false]
  exact h
/-- One that is carried out and yields a value. -/
theorem do_val {i : Nat} {o : Oper} {N : Tmp} {a a' : Act} {w w1 : World} {v : Value} {K : Act → World → Prop} (hi : ops[i]? = some o) (hN : o.dst = some N) (hw : Region.wanted o (yielded ops a.tmps) = true)
    (hrun : (execOp a.eval o).run P w = .ok (.value v) w1) (ha : a.put (some N) v = a') (h : K a' w1) : wpOp P ops Q i K a w := by
  subst ha
  rw [← hN] at h
  refine do_ hi hw ?_
  unfold Oper.wp
  rw [hrun]
  exact h
/-- A store. -/
theorem do_store {i : Nat} {o : Oper} {a : Act} {w w1 : World} {K : Act → World → Prop} (hi : ops[i]? = some o) (hN : o.dst = none) (hw : Region.wanted o (yielded ops a.tmps) = true)
    (hrun : (execOp a.eval o).run P w = .ok .skip w1) (h : K a w1) : wpOp P ops Q i K a w := by
  refine do_ hi hw ?_
  unfold Oper.wp
  rw [hrun]
  show K (a.put o.dst undef) w1
  rw [hN]
  exact h
/-- A call, by its contract. -/
theorem do_call {i : Nat} {o : Oper} {N : Tmp} {a : Act} {w : World} {K : Act → World → Prop} {f : FuncId} {fn : Func} {as : Array Operand} {ts : Array TypeId} (hi : ops[i]? = some o) (hN : o.dst = some N) (hw : Region.wanted o (yielded ops a.tmps) = true)
    (hop : o.op = .call { callee := .value (.func f), args := as, argTypes := ts }) (hf : P.funcs[f]? = some fn) (hname : (fn.name == "runtime.NumGoroutine") = false) (hb : fn.body.isSome = true) (args : Array Value)
    (hargs : as.map a.eval = args)
    (h : Calls P f args w fun e w' => ∃ v a', e = .returned v ∧ a.put (some N) v = a' ∧ K a' w') : wpOp P ops Q i K a w := by
  refine do_ hi hw ?_
  unfold Oper.wp
  rw [call_run hop hf hname hb args hargs w, Oper.upon_enter]
  refine h.mono fun e w'' hh => ?_
  obtain ⟨v, a', rfl, rfl, hk⟩ := hh
  rw [← hN] at hk
  exact hk
theorem seq_run {i : Nat} {r : Ord} {a : Act} {w : World} (h : wpOp P ops Q i (fun a' w' => (i ∉ ds → Later w w') ∧ seqL P ops Q ds r a' w') a w) : seqL P ops Q ds (.run i r) a w := h
theorem seq_fork {i j : Nat} {r s : Ord} {a : Act} {w : World} (h : wpOp P ops Q i (fun a' w' => (i ∉ ds → Later w w') ∧ seqL P ops Q ds r a' w') a w)
    (k : wpOp P ops Q j (fun a' w' => (j ∉ ds → Later w w') ∧ seqL P ops Q ds s a' w') a w) : seqL P ops Q ds (.fork i j r s) a w := ⟨h, k⟩
theorem seq_end {a : Act} {w : World} (h : Q .normal a w) : seqL P ops Q ds .done a w := h
end
end Go.Proofs.Ytnohkhaagkkhjaa
