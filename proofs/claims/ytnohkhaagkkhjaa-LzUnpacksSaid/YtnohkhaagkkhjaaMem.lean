/- Whole rows of memory: loads, stores, results. Plain lemmas over any program. -/
import Derived.Test.YtnohkhaagkkhjaaBase
import Derived.Deep.MidRow
import Derived.Laws.Tables
namespace Go.Proofs.Ytnohkhaagkkhjaa
open Go.RowKit Go.Proofs.YtnohkhaagkkhjaaW.PrintWords Go.Proofs.YtnohkhaagkkhjaaW.PrintMore
set_option linter.unusedVariables false
set_option linter.unusedSimpArgs false
section
variable {P : Program}
/-- Block g holds another object; all else is as it was. -/
structure SetBlk (w w1 : World) (g : Nat) (o : Obj) : Prop where
  os : w1.os = w.os
  tape : w1.tape = w.tape
  output : w1.output = w.output
  size : w1.heap.size = w.heap.size
  at_ : w1.heap[g]? = some o
  else_ : ∀ k, k ≠ g → w1.heap[k]? = w.heap[k]?
theorem SetBlk.below {w w1 : World} {g B : Nat} {o : Obj} (h : SetBlk w w1 g o) (hB : B ≤ g) : Below B w w1 :=
  ⟨h.os, h.tape, h.output, by rw [h.size]; exact Nat.le_refl _, fun k hk => h.else_ k (by omega)⟩
theorem SetBlk.blk {w w1 : World} {g k : Nat} {o o' : Obj} (h : SetBlk w w1 g o) (hk : k ≠ g) (hb : w.heap[k]? = some o') : w1.heap[k]? = some o' := (h.else_ k hk).trans hb
theorem setBlk_cells {w : World} {g : Nat} {cur : Array Value} {e : TypeId} (hg : w.heap[g]? = some (.cells cur e (0, 0))) (vs : List Value) (hs : cur.size = vs.length) :
    SetBlk w (w.setCells g 0 vs) g (.cells vs.toArray e (0, 0)) := by
  obtain ⟨s1, s2, s3, s4⟩ := setCells_same g vs 0 w
  obtain ⟨cur', h1, h2, h3⟩ := setCells_row vs 0 w cur hg (by omega)
  refine ⟨s1, s2, s3, s4, ?_, fun k hk => setCells_far vs 0 k hk⟩
  have : cur' = vs.toArray := by
    apply Array.toList_inj.1
    rw [h3, List.take_zero, List.nil_append, Nat.zero_add, List.drop_eq_nil_of_le (by rw [Array.length_toList]; omega), List.append_nil]
  rw [h1, this]
theorem setBlk_cell {w : World} {g i : Nat} {cur : Array Value} {e : TypeId} (hg : w.heap[g]? = some (.cells cur e (0, 0))) (v : Value) :
    SetBlk w (w.setCell ⟨g, i, none⟩ v) g (.cells (cur.setIfInBounds i v) e (0, 0)) :=
  ⟨rfl, rfl, rfl, by simp [World.setCell], blk_set hg i v, fun k hk => Below.heap_setCell w ⟨g, i, none⟩ v k hk⟩

/-- A whole variable is read, is written (as the walk meets it). -/
theorem ld_row {w : World} {g : Nat} {t : TypeId} {cs : Array Value} {fr : Nat × Nat} (hg : w.heap[g]? = some (.cells cs t fr)) (ty : TypeId) (d : TypeDesc)
    (hu : P.underlying ty = some d) (hd : (match d with | .struct _ | .array _ _ => true | _ => false) = true) (hi : (P.info? ty).map (·.size) = some cs.size) :
    (Instr.loadAt ty (.pointer (some ⟨g, 0, none⟩))).run P w = .ok (.agg cs) w := by
  simp only [Instr.loadAt, Instr.sureAddr, Sem.run_bind, Sem.run_pure, Result.andThen_ok, run_loadVar_row w g t ty cs fr d hg hu hd hi]
theorem st_row {w : World} {g : Nat} {t : TypeId} {cur : Array Value} (hg : w.heap[g]? = some (.cells cur t (0, 0))) (ty : TypeId) (vs : List Value) (hs : cur.size = vs.length)
    (hi : (P.info? ty).map (·.size) = some vs.length) (h1 : ∀ v ∈ vs, v.oneCell' = true) :
    (Instr.storeAt ty (.pointer (some ⟨g, 0, none⟩)) (.agg vs.toArray)).run P w = .ok () (w.setCells g 0 vs) := by
  refine run_storeAt_mid w g 0 ty vs.toArray ?_ (by simpa using hi) (all_oneCell_toArray h1)
  intro j hj
  have hj' : j < cur.size := by rw [hs]; simpa using hj
  refine ⟨?_, blk_frozen hg _⟩
  rw [blk_cell hg, Nat.zero_add, Array.getElem?_eq_getElem hj']
  rfl
theorem load_run {o : Oper} {a : Act} {w : World} {ty : TypeId} {x : Operand} (ho : o.op = .load ty x) {p : Value} (hx : a.eval x = p) {v : Value} (hl : (Instr.loadAt ty p).run P w = .ok v w) : (execOp a.eval o).run P w = .ok (.value v) w := by
  unfold execOp
  simp only [ho, hx, Sem.run_bind, hl, Result.andThen_ok, Sem.run_pure]
theorem store_run {o : Oper} {a : Act} {w w1 : World} {ty : TypeId} {x y : Operand} (ho : o.op = .store ty x y) {p v : Value} (hx : a.eval x = p) (hy : a.eval y = v) (hl : (Instr.storeAt ty p v).run P w = .ok () w1) : (execOp a.eval o).run P w = .ok .skip w1 := by
  unfold execOp
  simp only [ho, hx, hy, Sem.run_bind, hl, Result.andThen_ok, Sem.run_pure]
section
variable {ops : Array Oper} {rest : List Oper} {o : Oper} {a : Act} {Q : Exit → Act → World → Prop} {w : World}
/-- Arms of a walk: a whole variable is read, is written. -/
theorem load_arm (hgd : o.guard = none) (ty : TypeId) (x : Operand) (ho : o.op = .load ty x) {p : Value} (hx : a.eval x = p) {v : Value} (hl : (Instr.loadAt ty p).run P w = .ok v w) (h : wpList P ops Q rest (a.put o.dst v) w) : wpList P ops Q (o :: rest) a w := by
  refine wpList_plain hgd fun K hK => ?_
  unfold Oper.wp
  rw [load_run ho hx hl]
  exact hK _ _ h
theorem store_arm {w1 : World} (hgd : o.guard = none) (ty : TypeId) (x : Operand) (y : Operand) (ho : o.op = .store ty x y) {p v : Value} (hx : a.eval x = p) (hy : a.eval y = v) (hl : (Instr.storeAt ty p v).run P w = .ok () w1) (h : wpList P ops Q rest (a.put o.dst undef) w1) : wpList P ops Q (o :: rest) a w := by
  refine wpList_plain hgd fun K hK => ?_
  unfold Oper.wp
  rw [store_run ho hx hy hl]
  exact hK _ _ h
end
/- Which operation is next: these fall at once (with_reducible) where it is another one. -/
section
variable {ops : Array Oper} {rest : List Oper} {a : Act} {Q : Exit → Act → World → Prop} {w : World} {d : Option Tmp} {ty0 : TypeId} {ps : String} {af : Array Edge}
theorem at_ld (ty : TypeId) (x : Operand) (h : wpList P ops Q ({ dst := d, op := .load ty x, type := ty0, pos := ps, after := af, guard := none } :: rest) a w) : wpList P ops Q ({ dst := d, op := .load ty x, type := ty0, pos := ps, after := af, guard := none } :: rest) a w := h
theorem at_st (ty : TypeId) (x y : Operand) (h : wpList P ops Q ({ dst := d, op := .store ty x y, type := ty0, pos := ps, after := af, guard := none } :: rest) a w) : wpList P ops Q ({ dst := d, op := .store ty x y, type := ty0, pos := ps, after := af, guard := none } :: rest) a w := h
theorem at_bd (ty : TypeId) {parts : Array (Nat × Operand)} (h : wpList P ops Q ({ dst := d, op := .build ty parts, type := ty0, pos := ps, after := af, guard := none } :: rest) a w) : wpList P ops Q ({ dst := d, op := .build ty parts, type := ty0, pos := ps, after := af, guard := none } :: rest) a w := h
theorem at_bin (op : BinOp) (ty : TypeId) {x y : Operand} {u : TypeId} (h : wpList P ops Q ({ dst := d, op := .binOp op ty x y u, type := ty0, pos := ps, after := af, guard := none } :: rest) a w) : wpList P ops Q ({ dst := d, op := .binOp op ty x y u, type := ty0, pos := ps, after := af, guard := none } :: rest) a w := h
theorem at_cv (src dst : TypeId) {x : Operand} (h : wpList P ops Q ({ dst := d, op := .convert src dst x, type := ty0, pos := ps, after := af, guard := none } :: rest) a w) : wpList P ops Q ({ dst := d, op := .convert src dst x, type := ty0, pos := ps, after := af, guard := none } :: rest) a w := h
end
section
variable {ops : Array Oper} {rest : List Oper} {o : Oper} {a : Act} {Q : Exit → Act → World → Prop} {w : World}
/-- Arms: composite literals, '==' of rows, conversions. -/
theorem build_run (t : TypeId) (parts : Array (Nat × Operand)) (ho : o.op = .build t parts) {cells : Array Value} (hb : P.built t (parts.toList.map fun (i, x) => (i, a.eval x)) = some cells) : (execOp a.eval o).run P w = .ok (.value (.agg cells)) w := by
  unfold execOp
  simp only [ho, Sem.run_bind]
  rw [run_build w t _ cells (by simpa using hb)]
  simp
theorem build_arm (hgd : o.guard = none) (t : TypeId) (parts : Array (Nat × Operand)) (ho : o.op = .build t parts) {cells : Array Value} (hb : P.built t (parts.toList.map fun (i, x) => (i, a.eval x)) = some cells) (h : wpList P ops Q rest (a.put o.dst (.agg cells)) w) : wpList P ops Q (o :: rest) a w := by
  refine wpList_plain hgd fun K hK => ?_
  unfold Oper.wp
  rw [build_run t parts ho hb]
  exact hK _ _ h
theorem bin_run (op : BinOp) (t : TypeId) (x y : Operand) (u : TypeId) (ho : o.op = .binOp op t x y u) {p q v : Value} (hx : a.eval x = p) (hy : a.eval y = q) (hg : (eqGuard op t x y p q).run P w = .ok () w) (hb : (binOp op t p q).run P w = .ok v w) : (execOp a.eval o).run P w = .ok (.value v) w := by
  unfold execOp
  simp only [ho, hx, hy, Sem.run_bind, hg, hb, Result.andThen_ok, Sem.run_pure]
theorem bin_arm (hgd : o.guard = none) (op : BinOp) (t : TypeId) (x y : Operand) (u : TypeId) (ho : o.op = .binOp op t x y u) {p q v : Value} (hx : a.eval x = p) (hy : a.eval y = q) (hg : (eqGuard op t x y p q).run P w = .ok () w) (hb : (binOp op t p q).run P w = .ok v w)
    (h : wpList P ops Q rest (a.put o.dst v) w) : wpList P ops Q (o :: rest) a w := by
  refine wpList_plain hgd fun K hK => ?_
  unfold Oper.wp
  rw [bin_run op t x y u ho hx hy hg hb]
  exact hK _ _ h
theorem conv_run (src dst : TypeId) (x : Operand) (ho : o.op = .convert src dst x) {p v : Value} {w1 : World} (hx : a.eval x = p) (hc : (convert src dst p).run P w = .ok v w1) : (execOp a.eval o).run P w = .ok (.value v) w1 := by
  unfold execOp
  simp only [ho, hx, Sem.run_bind, hc, Result.andThen_ok, Sem.run_pure]
theorem conv_arm (hgd : o.guard = none) (src dst : TypeId) (x : Operand) (ho : o.op = .convert src dst x) {p v : Value} {w1 : World} (hx : a.eval x = p) (hc : (convert src dst p).run P w = .ok v w1) (h : wpList P ops Q rest (a.put o.dst v) w1) : wpList P ops Q (o :: rest) a w := by
  refine wpList_plain hgd fun K hK => ?_
  unfold Oper.wp
  rw [conv_run src dst x ho hx hc]
  exact hK _ _ h
end
section
variable {ops : Array Oper} {rest : List Oper} {o : Oper} {a : Act} {Q : Exit → Act → World → Prop} {w : World}
/-- A whole variable is written: what is known of memory then. -/
theorem store_blk (hgd : o.guard = none) (ty : TypeId) (x y : Operand) (ho : o.op = .store ty x y) {g : Nat} {vs : List Value} (hx : a.eval x = .pointer (some ⟨g, 0, none⟩)) (hy : a.eval y = .agg vs.toArray)
    {cur : Array Value} {e : TypeId} (hg : w.heap[g]? = some (.cells cur e (0, 0))) (hs : cur.size = vs.length) (hi : (P.info? ty).map (·.size) = some vs.length) (h1 : ∀ v ∈ vs, v.oneCell' = true)
    (h : ∀ w1, SetBlk w w1 g (.cells vs.toArray e (0, 0)) → wpList P ops Q rest (a.put o.dst undef) w1) : wpList P ops Q (o :: rest) a w :=
  store_arm hgd ty x y ho hx hy (st_row hg ty vs hs hi h1) (h _ (setBlk_cells hg vs hs))
end
section
variable {ops : Array Oper} {rest : List Oper} {o : Oper} {a : Act} {Q : Exit → Act → World → Prop} {w w1 : World} {d : Option Tmp} {ty0 : TypeId} {ps : String} {af : Array Edge} {gd : Nat × Bool}
/-- Any operation that yields a value, its run given (guarded or not). -/
theorem val_arm {v : Value} (hw : Region.wanted o (yielded ops a.tmps) = true) (hr : (execOp a.eval o).run P w = .ok (.value v) w1) (h : wpList P ops Q rest (a.put o.dst v) w1) : wpList P ops Q (o :: rest) a w := by
  unfold wpList
  rw [if_pos hw]
  refine .inl ?_
  unfold Oper.wp
  rw [hr]
  exact h
theorem at_ldg (ty : TypeId) (x : Operand) (h : wpList P ops Q ({ dst := d, op := .load ty x, type := ty0, pos := ps, after := af, guard := some gd } :: rest) a w) : wpList P ops Q ({ dst := d, op := .load ty x, type := ty0, pos := ps, after := af, guard := some gd } :: rest) a w := h
theorem at_bdg (ty : TypeId) {parts : Array (Nat × Operand)} (h : wpList P ops Q ({ dst := d, op := .build ty parts, type := ty0, pos := ps, after := af, guard := some gd } :: rest) a w) : wpList P ops Q ({ dst := d, op := .build ty parts, type := ty0, pos := ps, after := af, guard := some gd } :: rest) a w := h
theorem at_bing (op : BinOp) (ty : TypeId) {x y : Operand} {u : TypeId} (h : wpList P ops Q ({ dst := d, op := .binOp op ty x y u, type := ty0, pos := ps, after := af, guard := some gd } :: rest) a w) : wpList P ops Q ({ dst := d, op := .binOp op ty x y u, type := ty0, pos := ps, after := af, guard := some gd } :: rest) a w := h
theorem at_cvg (src dst : TypeId) {x : Operand} (h : wpList P ops Q ({ dst := d, op := .convert src dst x, type := ty0, pos := ps, after := af, guard := some gd } :: rest) a w) : wpList P ops Q ({ dst := d, op := .convert src dst x, type := ty0, pos := ps, after := af, guard := some gd } :: rest) a w := h
end
theorem results_cell_tmp {fn : Func} {p q : Tmp} {ty : TypeId} (h : fn.results = #[.cell p ty, .tmp q]) (tmps : Array Value) (w : World) (g : Nat) (t : TypeId) (cs : Array Value) (fr : Nat × Nat) (d : TypeDesc)
    (hp : tmps.getD p undef = .pointer (some ⟨g, 0, none⟩)) (hg : w.heap[g]? = some (.cells cs t fr))
    (hu : P.underlying ty = some d) (hd : (match d with | .struct _ | .array _ _ => true | _ => false) = true) (hi : (P.info? ty).map (·.size) = some cs.size) :
    (results fn tmps).run P w = .ok (.tuple #[.agg cs, tmps.getD q undef]) w := by
  have hp' : tmps[p]?.getD undef = .pointer (some ⟨g, 0, none⟩) := by simpa using hp
  simp [results, h, hp', asAddr, run_loadVar_row w g t ty cs fr d hg hu hd hi]
theorem at_c {f : FuncId} {args : Array Value} {R : Ending → World → Prop} (w : World) (h : Calls P f args w R) : Calls P f args w R := h
/-- In which world the walk is (with_reducible). -/
theorem at_w {ops : Array Oper} {l : List Oper} {a : Act} {Q : Exit → Act → World → Prop} (w : World) (h : wpList P ops Q l a w) : wpList P ops Q l a w := h
theorem all_one_replicate (n : Nat) (v : Value) (h : v.oneCell' = true) : ∀ u ∈ List.replicate n v, u.oneCell' = true := by
  intro u hu
  rw [(List.mem_replicate.1 hu).2]
  exact h
end
end Go.Proofs.Ytnohkhaagkkhjaa
