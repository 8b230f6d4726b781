/- Elements of several cells, by an encoding; whole ones that are read at any address; append in a drawn region. Plain lemmas. -/
import Derived.Test.YtdfahblgnbdndaaDoorG2
import Derived.Test.YtdfahblgnbdndaaDoorG1
import Derived.Test.YtdfahblgnbdndaaDoorWEqStruct
import Derived.DeepKeys
namespace Go.Proofs.YtdfahblgnbdndaaDoor
open Go.RowKit Go.Proofs.YtdfahblgnbdndaaDoorW.PrintWords Go.Proofs.YtdfahblgnbdndaaDoorW.PrintMore
set_option linter.unusedVariables false
set_option linter.unusedSimpArgs false
set_option maxRecDepth 100000
theorem l32 (l : List Int) (h : l.length = 32) : ∃ x0 x1 x2 x3 x4 x5 x6 x7 x8 x9 x10 x11 x12 x13 x14 x15 x16 x17 x18 x19 x20 x21 x22 x23 x24 x25 x26 x27 x28 x29 x30 x31, l = [x0, x1, x2, x3, x4, x5, x6, x7, x8, x9, x10, x11, x12, x13, x14, x15, x16, x17, x18, x19, x20, x21, x22, x23, x24, x25, x26, x27, x28, x29, x30, x31] := by
  match l, h with
  | [x0, x1, x2, x3, x4, x5, x6, x7, x8, x9, x10, x11, x12, x13, x14, x15, x16, x17, x18, x19, x20, x21, x22, x23, x24, x25, x26, x27, x28, x29, x30, x31], _ => exact ⟨_, _, _, _, _, _, _, _, _, _, _, _, _, _, _, _, _, _, _, _, _, _, _, _, _, _, _, _, _, _, _, _, rfl⟩
/-- Elements that are their cells. -/
def Kf {α : Type} (sz : Nat) (p : α → Prop) (enc : α → List Value) (hl : ∀ x, p x → (enc x).length = sz) (h1 : ∀ x, ∀ v ∈ enc x, v.oneCell' = true) : Kd α where
  sz := sz
  E := []
  K := fun _ x cs => p x ∧ cs = enc x
  M := fun _ _ _ x cs => p x ∧ cs = enc x
  K_len := fun h => by rw [h.2]; exact hl _ h.1
  K_one := fun h u hu => by rw [h.2] at hu; exact h1 _ u hu
  K_below := fun _ h => h
  K_of_M := fun h => h
  M_mono := fun _ h => h
  M_bound := fun h => h
  M_move := fun _ h => h
  M_lower := fun _ h => h
section
variable {α : Type} {sz : Nat} {p : α → Prop} {enc : α → List Value} {hl : ∀ x, p x → (enc x).length = sz} {h1 : ∀ x, ∀ v ∈ enc x, v.oneCell' = true}
/-- An element that is read. -/
theorem kf_at {w : World} {A : Option Addr} {n : Nat} {xs : List α} (h : (Kf sz p enc hl h1).C w A n xs) (d : α) (i : Nat) (hi : i < n) :
    ∃ ad, A = some ad ∧ p (xs.getD i d) ∧ ∀ j u, (enc (xs.getD i d))[j]? = some u → w.cell? (ad.add (i * sz + j)) = some u := by
  obtain ⟨ad, c, e, _, hr, hc⟩ := ReadsRow.get_ h d (i : Int) (by omega) (by omega)
  obtain ⟨hp, rfl⟩ := hr
  rw [Int.toNat_natCast] at hp hc
  exact ⟨ad, e, hp, hc⟩
theorem kf_some {w : World} {A : Option Addr} {n : Nat} {xs : List α} (h : (Kf sz p enc hl h1).C w A n xs) (hp : 0 < n) : ∃ ad, A = some ad := by
  obtain ⟨ad, e, _⟩ := h.2.2 hp
  exact ⟨ad, e⟩
theorem kf_all {w : World} {A : Option Addr} {n : Nat} {xs : List α} (h : (Kf sz p enc hl h1).C w A n xs) : ∀ x ∈ xs, p x := by
  intro x hx
  obtain ⟨i, hi⟩ := List.mem_iff_getElem?.1 hx
  have hl := (List.getElem?_eq_some_iff.1 hi).1
  obtain ⟨_, _, hp, _⟩ := kf_at h x i (by have := h.1; omega)
  rwa [List.getD_eq_getElem?_getD, hi] at hp
/-- Owned rows move with the blocks of their own type. -/
theorem kf_move {e : Nat} {w w1 : World} {base : Nat} {v : Value} {xs : List α} (h : (Kf sz p enc hl h1).R e w base (fun _ => True) v xs) (hm : ∀ k cells, base ≤ k → w.heap[k]? = some (.cells cells e (0, 0)) → w1.heap[k]? = w.heap[k]?) : (Kf sz p enc hl h1).R e w1 base (fun _ => True) v xs :=
  Kd.R_mono (Kd.R_move (Kd.R_bound h) (fun k hk => by
    obtain ⟨_, hb, _, q, hq, cells, hc⟩ := hk
    rcases List.mem_cons.1 hq with rfl | hq
    · exact hm k cells hb hc
    · cases hq)) (fun _ hk => hk.1)
end
theorem add_add (a : Addr) (i j : Nat) : (a.add i).add j = a.add (i + j) := by
  unfold Addr.add
  by_cases hi : i = 0
  · subst hi; simp
  · by_cases hj : j = 0
    · subst hj; simp
    · simp [hi, hj, Nat.add_assoc]
section
variable {P : Program}
/-- A whole variable at any address. -/
theorem ld_any {w : World} {q : Addr} {cs : List Value} (hc : ∀ j u, cs[j]? = some u → w.cell? (q.add j) = some u) (ty : TypeId) (d : TypeDesc) (hu : P.underlying ty = some d) (hd : (match d with | .struct _ | .array _ _ => true | _ => false) = true) (hi : (P.info? ty).map (·.size) = some cs.length) :
    (Instr.loadAt ty (.pointer (some q))).run P w = .ok (.agg cs.toArray) w := by
  have hl : (loadCells q cs.length).run P w = .ok cs.toArray w := run_loadCells_list (P := P) w q cs hc
  have hv : (loadVar ty q).run P w = .ok (.agg cs.toArray) w := by
    cases hq : P.info? ty with
    | none => simp [hq] at hi
    | some i =>
      have hs : i.size = cs.length := by simpa [hq] using hi
      have hagg : (isAgg ty).run P w = .ok true w := by
        unfold isAgg
        rw [Sem.run_bind, run_underlying hu w]
        cases d <;> simp_all
      simp [loadVar, Sem.run_bind, hagg, sizeOf, typeInfo, hq, hs, hl]
  simp only [Instr.loadAt, Instr.sureAddr, Sem.run_bind, Sem.run_pure, Result.andThen_ok, hv]
/-- An element's whole load. -/
theorem ld_elem {w : World} {ad : Addr} {k : Nat} {cs : List Value} (hc : ∀ j u, cs[j]? = some u → w.cell? (ad.add (k + j)) = some u) (ty : TypeId) (d : TypeDesc) (hu : P.underlying ty = some d) (hd : (match d with | .struct _ | .array _ _ => true | _ => false) = true) (hi : (P.info? ty).map (·.size) = some cs.length) :
    (Instr.loadAt ty (.pointer (some (ad.add k)))).run P w = .ok (.agg cs.toArray) w :=
  ld_any (fun j u h => by rw [add_add]; exact hc j u h) ty d hu hd hi
variable {ops : Array Oper} {Q : Exit → Act → World → Prop} {o : Oper} {a : Act}
/-- append of one element, in a drawn region. -/
theorem do_appR {α : Type} (d : Kd α) {w0 W : World} {i : Nat} {N : Tmp} {K : Act → World → Prop} (base : Nat) (hi : ops[i]? = some o) (hN : o.dst = some N) (hw : Region.wanted o (yielded ops a.tmps) = true) (s x : Operand) (t e : TypeId) (z : Value) (bytes : Nat)
    (ho : o.op = .call { callee := .builtin .append, args := #[s, x], argTypes := #[t, t] })
    (ht : P.underlying t = some (.slice e)) (hinfo : (P.info? e).map (fun i => (i.zero, i.size, i.bytes)) = some (some z, d.sz, bytes)) (hz : z.cells.size = d.sz) (hs0 : 0 < d.sz) (hb0 : 0 < bytes)
    (v : Value) (xs : List α) (p : α) (cs : List Value) (hs : a.eval s = v) (hx : a.eval x = .slice (some ⟨W.heap.size, 0, none⟩) 1 1) (hp : d.M W base (fun _ => False) p cs)
    (HO : d.R e W base (fun _ => True) v xs) (HB : Below base w0 W) (hbase : base ≤ W.heap.size) (hl : (xs.length + 1) * bytes ≤ 140737488355328)
    (h : ∀ v1 w1, d.R e w1 base (fun _ => True) v1 (xs ++ [p]) → Below base w0 w1 → W.grownBy w1 v.ownBlock → (v1.ownBlock = v.ownBlock ∨ ∃ b, v1.ownBlock = some b ∧ W.heap.size ≤ b) → K (a.put (some N) v1) w1) :
    wpOp P ops Q i K a (W.alloc (.cells cs.toArray e)) := by
  refine do_ hi hw ?_
  have := Kd.R_append_step (P := P) (Q := Q) (Kc := K) (o := o) (a := a) (ops := ops) d base hw s x t e z bytes ho ht hinfo hz hs0 hb0 v xs p cs (fun _ => True) (fun _ => False) hs hx hp (fun _ h => h.elim) (fun _ _ => trivial) HO HB hbase hl (fun v1 w1 h1 h2 h3 h4 => by
    rw [hN]; exact h v1 w1 h1 h2 h3 h4)
  rwa [if_pos hw] at this
end
end Go.Proofs.YtdfahblgnbdndaaDoor
