/- A region in a round of a range over a function: it goes as it goes elsewhere, if it defers nothing. Plain theorems over any program. -/
import Derived.Test.YtnohkhaagkkhjaaBase
import Derived.Test.YtnohkhaagkkhjaaRegion
import Derived.Test.YtnohkhaagkkhjaaFr
import Derived.RangeFuncNested
import Derived.RangeFuncBound
import Derived.RangeFuncCalls
import Derived.RangeFuncLeaves
import Derived.RangeFuncWrites
import Derived.Shelf.Abstract
import Derived.OwnWalkIn
import Derived.TacticsInMore
import Derived.LoopNIn
import Derived.LoopIn
import Derived.OrdersIn
namespace Go.Proofs.Ytnohkhaagkkhjaa
open Go.RowKit Go.Proofs.YtnohkhaagkkhjaaW.PrintWords Go.Proofs.YtnohkhaagkkhjaaW.PrintMore
set_option linter.unusedVariables false
section
variable {P : Program} {ops : Array Oper} {Q : Exit → Act → World → Prop} {n l : Nat} {a : Act} {w : World}
abbrev Rnd (l : Nat) : Fence := Fence.wide.inRound l
theorem rnd_fn (l f : Nat) : (Rnd l).fn f := trivial
def noDefer (ops : Array Oper) : Bool := ops.all fun o => match o.op with | .defer _ => false | _ => true
theorem noDefer_spec {ops : Array Oper} (h : noDefer ops = true) {i : Nat} {o : Oper} (hi : ops[i]? = some o) : ∀ c, o.op ≠ .defer c := fun c hc => by
  have h1 := Array.all_eq_true_iff_forall_mem.1 h o (Array.mem_of_getElem? hi)
  rw [hc] at h1
  cases h1
theorem rowsIn_wide {row : String} {args : Array Value} {R : Value → World → Prop} (h : Rows P row args w R) : RowsIn (Rnd l) n P row args w R := fun c cs _ =>
  let ⟨v, w', r, s⟩ := h c cs
  ⟨v, w', r, stepsIn_wide.2 s⟩
theorem oper_in {o : Oper} {K : Act → World → Prop} (hd : ∀ c, o.op ≠ .defer c) (h : o.wp P a w K Q) : o.wpIn (Rnd l) n P a w K Q := by
  refine ⟨fun f _ => trivial, ?_⟩
  have he : o.semAt (Rnd l).round a.eval = execOp a.eval o := Oper.semAt_plain (Rnd l) a.eval o hd
  rw [he]
  unfold Oper.wp at h
  generalize (execOp a.eval o).run P w = r at *
  cases r with
  | ok x w' =>
    cases x with
    | enter f args => exact ⟨fun e => (by cases e), CallsIn.inRound l (callsIn_wide.2 h)⟩
    | row row args => exact ⟨fun e => (by cases e), rowsIn_wide h⟩
    | value v => exact h
    | skip => exact h
    | defer d => exact h
    | _ => exact h.elim
  | halt x w' => cases x <;> exact h
theorem wpOp_in (hd : noDefer ops = true) (hQ : ¬ LetsOut Q) {i : Nat} {K : Act → World → Prop} (h : wpOp P ops Q i K a w) : wpOpIn (Rnd l) n P ops Q i K a w := by
  unfold wpOp at h
  unfold wpOpIn
  cases ho : ops[i]? with
  | none => rw [ho] at h; exact h
  | some o =>
    rw [ho] at h
    simp only at h ⊢
    split
    · rename_i hw
      simp only [hw, if_true] at h
      exact oper_in (noDefer_spec hd ho) (h.resolve_right (fun x => hQ x.2))
    · rename_i hw
      simp only [hw] at h
      exact ⟨fun _ _ => trivial, h⟩
theorem wpAny_in (hd : noDefer ops = true) (hQ : ¬ LetsOut Q) {md : Region.Mode} : ∀ (fuel : Nat) (listed : Array Bool) (a : Act) (w : World), wpAny P md ops Q fuel listed a w → wpAnyIn (Rnd l) n P md ops Q fuel listed a w
  | 0, _, _, _, h => h
  | fuel + 1, listed, a, w, h => ⟨h.1, fun i hi => wpOp_in hd hQ (wpOp_mono (fun a' w' h' => wpAny_in hd hQ fuel _ a' w' h') (h.2 i hi))⟩
/-- THE BEGINNING, in a round. -/
theorem seq_startR {id : Nat} (ds : List Nat) (r : Ord) (hm : P.follows .mixedOrders = true)
    (hc : (noDefer ops && Region.noSelect ops && seqOk .any ops ds r (Array.replicate ops.size false) && decide (r.len ≤ ops.size)) = true) (hL : ¬ LetsOut Q)
    (h : seqL P ops (noPanic Q) ds r a w.drew) : (Code.region id ops true).wpIn (Rnd l) n P Q a w := by
  simp only [Bool.and_eq_true, decide_eq_true_eq] at hc
  have h2 := wpIn_region_any (F := Rnd l) (n := n) (id := id) hm (wpAny_in (l := l) (n := n) (Q := noPanic Q) hc.1.1.1 (fun ⟨a, w, h⟩ => hL ⟨a, w, h⟩) _ _ _ _ (wpAny_of_L _ _ _ _ (wpAnyL_fuel _ _ _ _ _ (any_of_seq hc.1.1.2 (fun _ _ _ _ _ h => h) r _ a w.drew hc.1.2 h) hc.2)))
  exact wpIn_mono h2 (fun e a w h => by cases e <;> first | exact h | exact h.elim)
theorem wpList_in (hL : ¬ LetsOut Q) : ∀ (L : List Oper) (a : Act) (w : World), (∀ o ∈ L, ∀ c, o.op ≠ .defer c) → wpList P ops Q L a w → wpListIn (Rnd l) n P ops Q L a w
  | [], _, _, _, h => h
  | o :: rest, a, w, hd, h => by
    unfold wpList at h
    unfold wpListIn
    split
    · rename_i hw
      simp only [hw, if_true] at h
      refine oper_in (hd o (by simp)) ?_
      exact Oper.wp_mono (fun a' w' h' => wpList_in hL rest a' w' (fun o' ho' => hd o' (by simp [ho'])) h') (h.resolve_right (fun x => hL x.2))
    · rename_i hw
      simp only [hw] at h
      exact ⟨fun _ _ => trivial, wpList_in hL rest _ _ (fun o' ho' => hd o' (by simp [ho'])) h⟩
/-- A region that does not draw, in a round, by its walk elsewhere. -/
theorem region_in {id : Nat} {L : List Oper} (hL : ¬ LetsOut Q) (hd : noDefer L.toArray = true) (h : wpList P L.toArray Q L a w) : (Code.region id L.toArray false).wpIn (Rnd l) n P Q a w :=
  wpIn_region_lit (wpList_in hL L a w (fun o ho c hc => by
    obtain ⟨i, hi⟩ := List.mem_iff_getElem?.1 ho
    exact noDefer_spec hd (i := i) (by simpa using hi) c hc) h)
end
theorem calls_of_wp_m {P : Program} {f : FuncId} {fn : Func} {c : Code} {args : Array Value} {w : World} {R : Ending → World → Prop} (hf : P.funcs[f]? = some fn) (hb : fn.body = some c)
    (h : c.wp P (bodyPostM Fence.wide 10 P fn R) { tmps := args ++ Array.replicate (fn.ntmps - args.size) undef, defers := [] } w) : Calls P f args w R :=
  callsIn_wide.1 (callsIn_of_wp_marks (F := Fence.wide) (n := 10) hf hb trivial (wpIn_wide.2 h) rfl)
theorem Fr.keepsFrom {W W' : World} {T : Nat → Prop} {B : Nat} (h : Fr W W' T) (hT : ∀ k, T k → k < B) : KeepsFrom B W W' :=
  ⟨h.size, fun k o hB hk _ => (h.block k (Array.getElem?_eq_some_iff.1 hk).1 (fun ht => by have := hT k ht; omega)).trans hk⟩
theorem heap_grown {A B : World} {row : Option Nat} {k : Nat} {o : Obj} {m : Nat} (hg : A.grownBy B row) (hr : ∀ r, row = some r → m ≤ r) (hk : k < m) (h : A.heap[k]? = some o) : B.heap[k]? = some o :=
  (hg.block k (Array.getElem?_eq_some_iff.1 h).1 (fun e => by have := hr k e.symm; omega)).trans h
theorem Fr.turn {w A B : World} {T : Nat → Prop} {row : Option Nat} (h : Fr w A T) (hg : A.grownBy B row) (hr : ∀ r, row = some r → w.heap.size ≤ r) : Fr w B T := h.grown hg (fun i hi => .inr (hr i hi))
end Go.Proofs.Ytnohkhaagkkhjaa
