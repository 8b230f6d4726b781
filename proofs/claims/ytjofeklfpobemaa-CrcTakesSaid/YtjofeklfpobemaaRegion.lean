/- A region that draws its order, walked once in one order: what only reads is taken as soon as it may come up, in every world that is later; what calls or makes memory comes up alone. Plain theorems over any program. -/
import Derived.OrdersHeld
import Derived.Deep.RegionHeld3
import Derived.Below
import Derived.Test.YtjofeklfpobemaaWWords
import Derived.Test.YtjofeklfpobemaaWLast
namespace Go.Proofs.Ytjofeklfpobemaa
open Go.RowKit Go.Proofs.YtjofeklfpobemaaW.PrintWords
set_option linter.unusedVariables false
section
variable {P : Program} {ops : Array Oper} {Q : Exit → Act → World → Prop} {md : Region.Mode}

/-- w' is later than w: of w's blocks none has turned. -/
def Later (w w' : World) : Prop := Below w.heap.size w w'
theorem Later.refl (w : World) : Later w w := Below.refl _ _
theorem Later.trans {a b c : World} (h : Later a b) (k : Later b c) : Later a c := Below.trans h (Below.mono k h.size)

theorem YieldsIf.imp {S S' : World → Prop} {o : Oper} {v : Value} {a : Act} (h : YieldsIf P ops S o v a) (hS : ∀ w, S' w → S w) : YieldsIf P ops S' o v a :=
  h.imp (fun ⟨h1, h2⟩ => ⟨h1, fun w hw => h2 w (hS w hw)⟩) id

/-- Whatever order is picked, each world is later than the one before. -/
def wpAnyL (P : Program) (md : Region.Mode) (ops : Array Oper) (Q : Exit → Act → World → Prop) : Nat → Array Bool → Act → World → Prop
  | 0, listed, a, w => Region.ready md ops listed = [] ∧ Q .normal a w
  | fuel + 1, listed, a, w =>
    (Region.ready md ops listed = [] → Q .normal a w) ∧
    ∀ i ∈ Region.ready md ops listed, wpOp P ops Q i (fun a' w' => Later w w' ∧ wpAnyL P md ops Q fuel (listed.setIfInBounds i true) a' w') a w

theorem wpAny_of_L : ∀ (fuel : Nat) (listed : Array Bool) (a : Act) (w : World), wpAnyL P md ops Q fuel listed a w → wpAny P md ops Q fuel listed a w
  | 0, _, _, _, h => h
  | fuel + 1, _, _, _, h => ⟨h.1, fun i hi => wpOp_mono (fun a' w' h' => wpAny_of_L fuel _ a' w' h'.2) (h.2 i hi)⟩

theorem wpAnyL_first {i : Nat} {oi : Oper} {v : Value} (hi : ops[i]? = some oi) (hsel : ∀ (j : Nat) (o : Oper) cs b, ops[j]? = some o → o.op ≠ .select cs b)
    (hQ : ∀ c a w, Q (.panic c) (a.put oi.dst v) w → Q (.panic c) a w) :
    ∀ (fuel : Nat) (listed : Array Bool) (a : Act) (w : World),
      (∀ j oj, ops[j]? = some oj → j ≠ i → listed.getD j true = false → (∀ e ∈ oj.after, Region.binds md e = true → e.on ≠ i) → oi.apart ops oj = true) →
      i ∈ Region.ready md ops listed → YieldsIf P ops (Later w) oi v a →
      wpAnyL P md ops Q fuel (listed.setIfInBounds i true) (a.put oi.dst v) w → wpAnyL P md ops Q (fuel + 1) listed a w := by
  intro fuel
  induction fuel with
  | zero =>
    intro listed a w _ hr hy H
    refine ⟨fun h => (by rw [h] at hr; cases hr), fun j hj => ?_⟩
    by_cases hji : j = i
    · subst hji; exact hy.wpOp hi (Later.refl w) ⟨Later.refl w, H⟩
    · have := ready_mono hj hji
      rw [H.1] at this
      cases this
  | succ fuel ih =>
    intro listed a w hfree hr hy H
    refine ⟨fun h => (by rw [h] at hr; cases hr), fun j hj => ?_⟩
    by_cases hji : j = i
    · subst hji; exact hy.wpOp hi (Later.refl w) ⟨Later.refl w, H⟩
    · have h1 := H.2 j (ready_mono hj hji)
      obtain ⟨hjun, oj, hoj, hall⟩ := mem_ready.1 hj
      have hnot : ∀ e ∈ oj.after, Region.binds md e = true → e.on ≠ i := fun e he hb heq => by
        have h1 := hall e he hb
        have h0 := (mem_ready.1 hr).1
        rw [heq] at h1
        rcases Nat.lt_or_ge i listed.size with h' | h'
        · simp [h'] at h0 h1; rw [h0] at h1; cases h1
        · simp [Array.getElem?_eq_none h'] at h1
      have h2 := wpOp_putIf hoj (hfree j oj hoj hji hjun hnot) (fun cs b => hsel i oi cs b hi) (fun cs b => hsel j oj cs b hoj) hQ hy h1
      have hfree' : ∀ k ok, ops[k]? = some ok → k ≠ i → (listed.setIfInBounds j true).getD k true = false →
          (∀ e ∈ ok.after, Region.binds md e = true → e.on ≠ i) → oi.apart ops ok = true := fun k ok hk hki hun hno => by
        refine hfree k ok hk hki ?_ hno
        by_cases hjk : j = k
        · subst hjk; exact hjun
        · rw [getD_set_ne true hjk] at hun; exact hun
      refine wpOp_mono (fun a' w' h3 => ⟨h3.2.1, ih (listed.setIfInBounds j true) a' w' hfree' (ready_mono hr (Ne.symm hji)) (YieldsIf.imp h3.1 (fun w'' hl => h3.2.1.trans hl)) ?_⟩) h2
      rw [Array.setIfInBounds_comm _ _ hji]
      exact h3.2.2

/-- One order: true: it only reads. -/
def seqL (P : Program) (ops : Array Oper) (Q : Exit → Act → World → Prop) : List (Bool × Nat) → Act → World → Prop
  | [], a, w => Q .normal a w
  | (true, i) :: r, a, w => ∃ o v, ops[i]? = some o ∧ YieldsIf P ops (Later w) o v a ∧ seqL P ops Q r (a.put o.dst v) w
  | (false, i) :: r, a, w => wpOp P ops Q i (fun a' w' => Later w w' ∧ seqL P ops Q r a' w') a w

def seqOk (md : Region.Mode) (ops : Array Oper) : List (Bool × Nat) → Array Bool → Bool
  | [], l => Region.ready md ops l == []
  | (true, i) :: r, l => Region.free md ops l i && (Region.ready md ops l).contains i && seqOk md ops r (l.setIfInBounds i true)
  | (false, i) :: r, l => Region.ready md ops l == [i] && seqOk md ops r (l.setIfInBounds i true)

theorem any_of_seq (hs : Region.noSelect ops = true) (hQ : ∀ c a d v w, Q (.panic c) (a.put d v) w → Q (.panic c) a w) : ∀ (r : List (Bool × Nat)) (l : Array Bool) (a : Act) (w : World),
    seqOk md ops r l = true → seqL P ops Q r a w → wpAnyL P md ops Q r.length l a w
  | [], l, a, w, hc, h => by
    simp only [seqOk, beq_iff_eq] at hc
    exact ⟨hc, h⟩
  | (true, i) :: r, l, a, w, hc, h => by
    simp only [seqOk, Bool.and_eq_true] at hc
    obtain ⟨o, v, hi, hy, h'⟩ := h
    exact wpAnyL_first hi (Region.noSelect_spec hs) (fun c a w => hQ c a _ _ w) r.length l a w (Region.free_spec hi hc.1.1) (by simpa using hc.1.2) hy (any_of_seq hs hQ r _ _ _ hc.2 h')
  | (false, i) :: r, l, a, w, hc, h => by
    simp only [seqOk, Bool.and_eq_true, beq_iff_eq] at hc
    refine ⟨fun h0 => ?_, fun j hj => ?_⟩
    · rw [h0] at hc; cases hc.1
    · rw [hc.1] at hj
      obtain rfl := List.mem_singleton.1 hj
      exact wpOp_mono (fun a' w' h3 => ⟨h3.1, any_of_seq hs hQ r _ _ _ hc.2 h3.2⟩) h

theorem wpAnyL_fuel : ∀ (n m : Nat) (l : Array Bool) (a : Act) (w : World), wpAnyL P md ops Q n l a w → n ≤ m → wpAnyL P md ops Q m l a w
  | 0, 0, _, _, _, h, _ => h
  | 0, m + 1, _, _, _, h, _ => ⟨fun _ => h.2, fun i hi => by rw [h.1] at hi; cases hi⟩
  | n + 1, m + 1, _, _, _, h, hm => ⟨h.1, fun i hi => wpOp_mono (fun a' w' h3 => ⟨h3.1, wpAnyL_fuel n m _ _ _ h3.2 (by omega)⟩) (h.2 i hi)⟩
  | n + 1, 0, _, _, _, _, hm => absurd hm (by omega)

/-- THE BEGINNING: the order is given, one look checks it. -/
theorem seq_start {id : Nat} {a : Act} {w : World} (r : List (Bool × Nat)) (hm : P.follows .mixedOrders = true)
    (hc : (Region.noSelect ops && seqOk .any ops r (Array.replicate ops.size false) && decide (r.length ≤ ops.size)) = true)
    (hQ : ∀ c a d v w, Q (.panic c) (a.put d v) w → Q (.panic c) a w) (h : seqL P ops Q r a w.drew) : (Code.region id ops true).wp P Q a w := by
  simp only [Bool.and_eq_true, decide_eq_true_eq] at hc
  exact wp_region_any hm (wpAny_of_L _ _ _ _ (wpAnyL_fuel _ _ _ _ _ (any_of_seq hc.1.1 hQ r _ a w.drew hc.1.2 h) hc.2))

theorem seq_take {i : Nat} {r : List (Bool × Nat)} {o : Oper} {N : Tmp} {v : Value} {a a' : Act} {w : World} (hi : ops[i]? = some o) (hN : o.dst = some N) (hw : Region.wanted o (yielded ops a.tmps) = true)
    (hy : ∀ w', Later w w' → (execOp a.eval o).run P w' = .ok (.value v) w') (ha : a.put (some N) v = a') (h : seqL P ops Q r a' w) : seqL P ops Q ((true, i) :: r) a w := by
  subst ha
  rw [← hN] at h
  exact ⟨o, v, hi, .inl ⟨hw, hy⟩, h⟩
theorem seq_off {i : Nat} {r : List (Bool × Nat)} {o : Oper} {N : Tmp} {a a' : Act} {w : World} (hi : ops[i]? = some o) (hN : o.dst = some N) (hw : Region.wanted o (yielded ops a.tmps) = false)
    (ha : a.put (some N) undef = a') (h : seqL P ops Q r a' w) : seqL P ops Q ((true, i) :: r) a w := by
  subst ha
  rw [← hN] at h
  exact ⟨o, undef, hi, .inr ⟨hw, rfl⟩, h⟩
/-- One that is carried out. -/
theorem seq_do {i : Nat} {r : List (Bool × Nat)} {o : Oper} {a : Act} {w : World} (hi : ops[i]? = some o) (hw : Region.wanted o (yielded ops a.tmps) = true)
    (h : Oper.wp P o a w (fun a' w' => Later w w' ∧ seqL P ops Q r a' w') Q) : seqL P ops Q ((false, i) :: r) a w := by
  show wpOp P ops Q i _ a w
  unfold wpOp
  simp only [hi, hw, if_true]
  exact .inl h
theorem seq_do_off {i : Nat} {r : List (Bool × Nat)} {o : Oper} {N : Tmp} {a a' : Act} {w : World} (hi : ops[i]? = some o) (hN : o.dst = some N) (hw : Region.wanted o (yielded ops a.tmps) = false)
    (ha : a.put (some N) undef = a') (h : seqL P ops Q r a' w) : seqL P ops Q ((false, i) :: r) a w := by
  subst ha
  rw [← hN] at h
  show wpOp P ops Q i _ a w
  unfold wpOp
  simp only [hi, hw, Bool.false_eq_true, if_false]
  exact ⟨Later.refl w, h⟩
/-- One that is carried out and yields a value. -/
theorem seq_val {i : Nat} {r : List (Bool × Nat)} {o : Oper} {N : Tmp} {a a' : Act} {w w1 : World} {v : Value} (hi : ops[i]? = some o) (hN : o.dst = some N) (hw : Region.wanted o (yielded ops a.tmps) = true)
    (hrun : (execOp a.eval o).run P w = .ok (.value v) w1) (hl : Later w w1) (ha : a.put (some N) v = a') (h : seqL P ops Q r a' w1) : seqL P ops Q ((false, i) :: r) a w := by
  subst ha
  rw [← hN] at h
  refine seq_do hi hw ?_
  unfold Oper.wp
  rw [hrun]
  exact ⟨hl, h⟩
/-- A call, by its contract. -/
theorem seq_call {i : Nat} {r : List (Bool × Nat)} {o : Oper} {N : Tmp} {a : Act} {w : World} {f : FuncId} {fn : Func} {as : Array Operand} {ts : Array TypeId} (hi : ops[i]? = some o) (hN : o.dst = some N) (hw : Region.wanted o (yielded ops a.tmps) = true)
    (hop : o.op = .call { callee := .value (.func f), args := as, argTypes := ts }) (hf : P.funcs[f]? = some fn) (hname : (fn.name == "runtime.NumGoroutine") = false) (hb : fn.body.isSome = true) (args : Array Value)
    (hargs : as.map a.eval = args)
    (h : Calls P f args w fun e w' => ∃ v a', e = .returned v ∧ Later w w' ∧ a.put (some N) v = a' ∧ seqL P ops Q r a' w') : seqL P ops Q ((false, i) :: r) a w := by
  refine seq_do hi hw ?_
  have hrun : (execOp a.eval o).run P w = .ok (.enter f args) w := by
    have he := Go.Proofs.YtjofeklfpobemaaW.PrintLast.enters_ hf hname hb args w
    unfold execOp
    simp [hop, resolve, Deferred.ofValue, invoke, Act.eval, hargs, he]
  unfold Oper.wp
  rw [hrun, Oper.upon_enter]
  refine h.mono fun e w'' hh => ?_
  obtain ⟨v, a', rfl, hl, rfl, hk⟩ := hh
  rw [← hN] at hk
  exact ⟨hl, hk⟩
theorem seq_end {a : Act} {w : World} (h : Q .normal a w) : seqL P ops Q [] a w := h
end
end Go.Proofs.Ytjofeklfpobemaa
