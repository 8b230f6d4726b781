/- New variables of whole values; slices of rows. Plain lemmas over any program. -/
import Derived.Test.YtnohkhaagkkhjaaRegMem
namespace Go.Proofs.Ytnohkhaagkkhjaa
open Go.RowKit Go.Proofs.YtnohkhaagkkhjaaW.PrintWords Go.Proofs.YtnohkhaagkkhjaaW.PrintMore
set_option linter.unusedVariables false
set_option linter.unusedSimpArgs false
section
variable {P : Program}
theorem alloc_run {w : World} {t : TypeId} {i : TypeInfo} {z : Value} (hi : P.info? t = some i) (hz : i.zero = some z) (old : Value) : (Instr.alloc t true old).run P w = .ok (.pointer (some ⟨w.heap.size, 0, none⟩)) (w.alloc (.cells z.cells t)) := by
  simp [Instr.alloc, zeroValue, typeInfo, hi, hz, newVar, newRow]
/-- A world with one block more. -/
structure NewBlk (w w1 : World) (g : Nat) (o : Obj) : Prop where
  below : Below w.heap.size w w1
  at_ : w1.heap[g]? = some o
  ge : w.heap.size ≤ g
theorem NewBlk.lt {w w1 : World} {g : Nat} {o : Obj} (h : NewBlk w w1 g o) : g < w1.heap.size := (Array.getElem?_eq_some_iff.1 h.at_).1
theorem NewBlk.blk {w w1 : World} {g k : Nat} {o o' : Obj} (h : NewBlk w w1 g o) (hb : w.heap[k]? = some o') : w1.heap[k]? = some o' :=
  (h.below.block k (Array.getElem?_eq_some_iff.1 hb).1).trans hb
theorem blk_below {w w1 : World} {k : Nat} {o' : Obj} (h : Below w.heap.size w w1) (hb : w.heap[k]? = some o') : w1.heap[k]? = some o' :=
  (h.block k (Array.getElem?_eq_some_iff.1 hb).1).trans hb
theorem blk_lt {w : World} {k : Nat} {o : Obj} (hb : w.heap[k]? = some o) : k < w.heap.size := (Array.getElem?_eq_some_iff.1 hb).1
section
variable {ops : Array Oper} {rest : List Oper} {a : Act} {Q : Exit → Act → World → Prop} {w : World}
/-- v := x, v a variable in memory: made and written. -/
theorem new_var {o1 o2 : Oper} {N : Tmp} (hg1 : o1.guard = none) (hg2 : o2.guard = none) (hd1 : o1.dst = some N) (t : TypeId) (ho1 : o1.op = .alloc t) (y : Operand) (ho2 : o2.op = .store t (.tmp N) y) {vs : List Value}
    (hN : N < a.tmps.size) (hy : (a.put (some N) (.pointer (some ⟨w.heap.size, 0, none⟩))).eval y = .agg vs.toArray) {i : TypeInfo} {z : Value} (hi : P.info? t = some i) (hz : i.zero = some z) (hs : z.cells.size = vs.length) (hi2 : i.size = vs.length) (h1 : ∀ v ∈ vs, v.oneCell' = true)
    (h : ∀ w1 g, NewBlk w w1 g (.cells vs.toArray t (0, 0)) → wpList P ops Q rest ((a.put (some N) (.pointer (some ⟨g, 0, none⟩))).put o2.dst undef) w1) : wpList P ops Q (o1 :: o2 :: rest) a w := by
  refine wpList_plain hg1 fun K hK => ?_
  unfold Oper.wp
  have hr : (execOp a.eval o1).run P w = .ok (.value (.pointer (some ⟨w.heap.size, 0, none⟩))) (w.alloc (.cells z.cells t)) := by
    unfold execOp
    simp only [ho1, Sem.run_bind, alloc_run hi hz, Result.andThen_ok, Sem.run_pure]
  rw [hr]
  refine hK _ _ ?_
  rw [hd1]
  have hb := blk_new w (.cells z.cells t)
  refine store_blk hg2 t (.tmp N) y ho2 (g := w.heap.size) (vs := vs) ?_ hy hb hs (by rw [hi]; exact congrArg some hi2) h1 ?_
  · show (a.tmps.setIfInBounds N _).getD N undef = _
    simp [hN]
  · intro w1 HS
    exact h w1 _ ⟨((Below.refl _ _).alloc (Nat.le_refl _) _).trans (HS.below (Nat.le_refl _)), HS.at_, Nat.le_refl _⟩
end
/-- Rows laid one behind the other. -/
theorem fold_set : ∀ (v : List Value) (j : Nat) (pre mid post : List Value) (off : Nat), off + j = pre.length → mid.length = v.length →
    (v.zipIdx j).foldl (fun (cs : Array Value) (x : Value × Nat) => cs.setIfInBounds (off + x.2) x.1) (pre ++ mid ++ post).toArray = (pre ++ v ++ post).toArray
  | [], j, pre, mid, post, off, h, hl => by
    obtain rfl : mid = [] := List.eq_nil_of_length_eq_zero hl
    rfl
  | x :: v, j, pre, [], post, off, h, hl => by cases hl
  | x :: v, j, pre, y :: mid, post, off, h, hl => by
    rw [List.zipIdx_cons, List.foldl_cons]
    have e : ((pre ++ (y :: mid) ++ post).toArray).setIfInBounds (off + j) x = (pre ++ [x] ++ mid ++ post).toArray := by
      rw [h, List.setIfInBounds_toArray, List.append_assoc, List.set_append_right _ _ (Nat.le_refl _), Nat.sub_self]
      simp
    show List.foldl _ (((pre ++ (y :: mid) ++ post).toArray).setIfInBounds (off + j) x) _ = _
    rw [e]
    have ih := fold_set v (j + 1) (pre ++ [x]) mid post off (by simp; omega) (by simpa using hl)
    rw [ih]
    simp
theorem fill_rows (size : Nat) : ∀ (vs : List (List Value)) (k : Nat) (pre post : List Value), (∀ v ∈ vs, v.length = size) → pre.length = k * size → post.length = vs.length * size →
    Instr.fill (fun i => some (i * size, size)) (pre ++ post).toArray ((vs.zipIdx k).map fun x => (x.2, Value.agg x.1.toArray)) = some (pre ++ vs.flatten).toArray
  | [], k, pre, post, _, _, hl => by
    obtain rfl : post = [] := List.eq_nil_of_length_eq_zero (by simpa using hl)
    rfl
  | v :: vs, k, pre, post, hv, hp, hl => by
    have hvl := hv v (by simp)
    have hl2 : post.length = size + vs.length * size := by rw [hl, List.length_cons, Nat.succ_mul, Nat.add_comm]
    rw [List.zipIdx_cons, List.map_cons]
    unfold Instr.fill
    have hsz : (Value.agg v.toArray).cells.size = size := by simpa [Value.cells] using hvl
    simp only
    rw [if_neg (by rw [hsz, List.size_toArray, List.length_append, hp, hl2]; simp)]
    have e : (Value.agg v.toArray).cells.zipIdx.foldl (fun (cs : Array Value) (x : Value × Nat) => cs.setIfInBounds (k * size + x.2) x.1) (pre ++ post).toArray = (pre ++ v ++ post.drop size).toArray := by
      have h := fold_set v 0 pre (post.take size) (post.drop size) (k * size) (by omega) (by rw [List.length_take]; omega)
      rw [List.append_assoc pre (post.take size), List.take_append_drop] at h
      rw [← h]
      show (v.toArray.zipIdx).foldl _ _ = _
      rw [← Array.foldl_toList]
      simp
    have h2 := fill_rows size vs (k + 1) (pre ++ v) (post.drop size) (fun u hu => hv u (by simp [hu])) (by rw [List.length_append, hp, hvl, Nat.succ_mul]) (by rw [List.length_drop, hl2]; omega)
    rw [List.append_assoc pre v vs.flatten] at h2
    rw [List.flatten_cons, ← h2]
    congr 1
theorem rows_run {w : World} {t e : TypeId} {it : TypeInfo} {z : Value} {size : Nat} (hu : P.underlying t = some (.slice e)) (hi : P.info? e = some it) (hz : it.zero = some z) (hs : it.size = size) (vs : List (List Value)) (hv : ∀ v ∈ vs, v.length = size) (hb : vs.length * size ≤ 2 ^ 24) (hp : vs.length * size ≠ 0)
    (n : Nat) (hn : n = vs.length) (parts : Array (Nat × Value)) (hparts : parts.toList = vs.zipIdx.map fun x => (x.2, Value.agg x.1.toArray)) :
    (Instr.buildSlice t n parts).run P w = .ok (.slice (some ⟨w.heap.size, 0, none⟩) n n) (w.alloc (.cells vs.flatten.toArray e)) := by
  subst hn
  have hf := fill_rows size vs 0 [] ((Array.range (vs.length * size)).map (z.cells[· % z.cells.size]!)).toList hv (by simp) (by simp)
  rw [← hparts, List.nil_append, List.nil_append] at hf
  rw [show (Array.map (fun x => z.cells[x % z.cells.size]!) (Array.range (vs.length * size))).toList.toArray = Array.map (fun x => z.cells[x % z.cells.size]!) (Array.range (vs.length * size)) from rfl] at hf
  unfold Instr.buildSlice
  simp only [Sem.run_bind, run_underlying hu, Result.andThen_ok, sizeOf, typeInfo, hi, Sem.run_pure, run_program, hs, if_neg hp, if_neg (Nat.not_lt.2 hb), zeroValue, hz, hf, newRow]
  simp [hf, hi, hs, hz, zeroValue, typeInfo, newRow]
end
/-- Element i of rows laid one behind the other. -/
theorem flatten_at {size : Nat} : ∀ (vs : List (List Value)) (i : Nat) (v : List Value), (∀ v ∈ vs, v.length = size) → vs[i]? = some v → ∀ (j : Nat) (x : Value), v[j]? = some x → vs.flatten[i * size + j]? = some x
  | [], i, v, _, h, j, x, hx => by simp at h
  | u :: vs, 0, v, hv, h, j, x, hx => by
    obtain rfl : u = v := by simpa using h
    rw [List.flatten_cons, Nat.zero_mul, Nat.zero_add, List.getElem?_append_left (List.getElem?_eq_some_iff.1 hx).1]
    exact hx
  | u :: vs, i + 1, v, hv, h, j, x, hx => by
    have hu := hv u (by simp)
    rw [List.flatten_cons, List.getElem?_append_right (by rw [hu, Nat.succ_mul]; omega), hu, show (i + 1) * size + j - size = i * size + j by rw [Nat.succ_mul]; omega]
    exact flatten_at vs i v (fun w hw => hv w (by simp [hw])) (by simpa using h) j x hx
theorem rows_range {w : World} {g T size : Nat} {vs : List (List Value)} {fr : Nat × Nat} (h : w.heap[g]? = some (.cells vs.flatten.toArray T fr)) (hv : ∀ v ∈ vs, v.length = size) {i : Nat} {v : List Value} (hi : vs[i]? = some v) : w.rangeAt g (i * size) v := by
  intro j x hx
  rw [cell_of_row w g _ _ T fr h, List.getElem?_toArray]
  exact flatten_at vs i v hv hi j x hx
section
variable {P : Program} {ops : Array Oper} {rest : List Oper} {o : Oper} {a : Act} {Q : Exit → Act → World → Prop} {w : World}
theorem rows_exec {t e : TypeId} (n : Nat) (parts : Array (Nat × Operand)) (ho : o.op = .buildSlice t n parts) {it : TypeInfo} {z : Value} {size : Nat} (hu : P.underlying t = some (.slice e)) (hi : P.info? e = some it) (hz : it.zero = some z) (hs : it.size = size) (vs : List (List Value)) (hv : ∀ v ∈ vs, v.length = size) (hb : vs.length * size ≤ 2 ^ 24) (hp : vs.length * size ≠ 0)
    (hn : n = vs.length) (hparts : (parts.toList.map fun (i, x) => (i, a.eval x)) = vs.zipIdx.map fun x => (x.2, Value.agg x.1.toArray)) : (execOp a.eval o).run P w = .ok (.value (.slice (some ⟨w.heap.size, 0, none⟩) n n)) (w.alloc (.cells vs.flatten.toArray e)) := by
  unfold execOp
  simp only [ho, Sem.run_bind]
  rw [rows_run hu hi hz hs vs hv hb hp n hn _ (by simpa using hparts)]
  simp
/-- []T{x, y, ..}. -/
theorem rows_arm {t e : TypeId} (hgd : o.guard = none) (n : Nat) (parts : Array (Nat × Operand)) (ho : o.op = .buildSlice t n parts) {it : TypeInfo} {z : Value} {size : Nat} (hu : P.underlying t = some (.slice e)) (hi : P.info? e = some it) (hz : it.zero = some z) (hs : it.size = size) (vs : List (List Value)) (hv : ∀ v ∈ vs, v.length = size) (hb : vs.length * size ≤ 2 ^ 24) (hp : vs.length * size ≠ 0)
    (hn : n = vs.length) (hparts : (parts.toList.map fun (i, x) => (i, a.eval x)) = vs.zipIdx.map fun x => (x.2, Value.agg x.1.toArray))
    (h : ∀ w1 g, NewBlk w w1 g (.cells vs.flatten.toArray e (0, 0)) → wpList P ops Q rest (a.put o.dst (.slice (some ⟨g, 0, none⟩) n n)) w1) : wpList P ops Q (o :: rest) a w := by
  refine wpList_plain hgd fun K hK => ?_
  unfold Oper.wp
  rw [rows_exec n parts ho hu hi hz hs vs hv hb hp hn hparts]
  exact hK _ _ (h _ _ ⟨(Below.refl _ _).alloc (Nat.le_refl _) _, blk_new w _, Nat.le_refl _⟩)
end
section
variable {P : Program} {ops : Array Oper} {rest : List Oper} {a : Act} {Q : Exit → Act → World → Prop} {w : World} {d : Option Tmp} {ty0 : TypeId} {ps : String} {af : Array Edge} {n : Nat} {parts : Array (Nat × Operand)}
theorem at_bs (ty : TypeId) (h : wpList P ops Q ({ dst := d, op := .buildSlice ty n parts, type := ty0, pos := ps, after := af, guard := none } :: rest) a w) : wpList P ops Q ({ dst := d, op := .buildSlice ty n parts, type := ty0, pos := ps, after := af, guard := none } :: rest) a w := h
end
end Go.Proofs.Ytnohkhaagkkhjaa
