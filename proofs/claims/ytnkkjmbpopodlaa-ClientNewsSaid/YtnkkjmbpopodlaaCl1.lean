/- client.Client in memory; New, find, Left, Asked, Asks, Done, Errno. Conditions: their own. -/
import Derived.Test.YtnkkjmbpopodlaaClM
namespace Go.Proofs.Ytnkkjmbpopodlaa
open Go.RowKit Go.Proofs.YtnkkjmbpopodlaaW.PrintWords Go.Proofs.YtnkkjmbpopodlaaW.PrintMore
set_option linter.unusedVariables false
set_option linter.unusedSimpArgs false
theorem row1_exec {P : Program} {o : Oper} {a : Act} {w : World} {t e : TypeId} (parts : Array (Nat × Operand)) (ho : o.op = .buildSlice t 1 parts) {z : Value} {size by_ : Nat} (hu : P.underlying t = some (.slice e)) (hinfo : (P.info? e).map (fun i => (i.zero, i.size, i.bytes)) = some (some z, size, by_)) (cs : List Value) (hl : cs.length = size) (hb : size ≤ 2 ^ 24) (hp : size ≠ 0)
    (hparts : (parts.toList.map fun (i, x) => (i, a.eval x)) = [(0, Value.agg cs.toArray)]) : (execOp a.eval o).run P w = .ok (.value (.slice (some ⟨w.heap.size, 0, none⟩) 1 1)) (w.alloc (.cells cs.toArray e)) := by
  obtain ⟨it, hi, hz, hs, _⟩ := info_parts hinfo
  have := rows_exec (P := P) (o := o) (a := a) (w := w) 1 parts ho hu hi hz hs [cs] (by simpa using hl) (by simpa using hb) (by simpa using hp) rfl (by rw [hparts]; rfl)
  simpa using this
theorem results_cell1 {P : Program} {fn : Func} {p : Tmp} {ty : TypeId} (h : fn.results = #[.cell p ty]) (tmps : Array Value) (w : World) (g : Nat) (t : TypeId) (cs : Array Value) (fr : Nat × Nat) (d : TypeDesc)
    (hp : tmps.getD p undef = .pointer (some ⟨g, 0, none⟩)) (hg : w.heap[g]? = some (.cells cs t fr))
    (hu : P.underlying ty = some d) (hd : (match d with | .struct _ | .array _ _ => true | _ => false) = true) (hi : (P.info? ty).map (·.size) = some cs.size) :
    (results fn tmps).run P w = .ok (.agg cs) w := by
  have hp' : tmps[p]?.getD undef = .pointer (some ⟨g, 0, none⟩) := by simpa using hp
  simp [results, h, hp', asAddr, run_loadVar_row w g t ty cs fr d hg hu hd hi]
theorem at_w1 {P : Program} {s : Code} {Q : Exit → Act → World → Prop} {a : Act} {w W : World} (hw : w = W) (h : s.wp P Q a w) : s.wp P Q a W := hw ▸ h
theorem infoDg : (Try.prog.info? 51).map (fun i => (i.zero, i.size, i.bytes)) = some (some (.agg (Nm Z32).toArray), 32, 32) := by kernel_rfl
theorem Z32_size : (Value.agg (Nm Z32).toArray).cells.size = 32 := by kernel_rfl
section
variable {ops : Array Oper} {rest : List Oper} {o : Oper} {a : Act} {Q : Exit → Act → World → Prop} {w : World}
theorem new_dg {o1 o2 : Oper} {N : Tmp} (hg1 : o1.guard = none) (hg2 : o2.guard = none) (hd1 : o1.dst = some N) (ho1 : o1.op = .alloc 51) (y : Operand) (ho2 : o2.op = .store 51 (.tmp N) y) (hN : N < a.tmps.size) {nm : List Int}
    (hy : (a.put (some N) (.pointer (some ⟨w.heap.size, 0, none⟩))).eval y = .agg (Nm nm).toArray) (hn : nm.length = 32)
    (h : ∀ w1 g, NewBlk w w1 g (.cells (Nm nm).toArray 51 (0, 0)) → wpList Try.prog ops Q rest ((a.put (some N) (.pointer (some ⟨g, 0, none⟩))).put o2.dst undef) w1) : wpList Try.prog ops Q (o1 :: o2 :: rest) a w := by
  obtain ⟨it, hi, hz, hs, _⟩ := info_parts infoDg
  exact new_var hg1 hg2 hd1 _ ho1 y ho2 hN hy hi hz (by rw [Nm_len, hn]; rfl) (by rw [hs, Nm_len, hn]) (Nm_one nm) h
theorem new_p {o1 o2 : Oper} {N : Tmp} (hg1 : o1.guard = none) (hg2 : o2.guard = none) (hd1 : o1.dst = some N) (ho1 : o1.op = .alloc 55) (y : Operand) (ho2 : o2.op = .store 55 (.tmp N) y) (hN : N < a.tmps.size) {x : Wt}
    (hy : (a.put (some N) (.pointer (some ⟨w.heap.size, 0, none⟩))).eval y = .agg (pcells x).toArray) (hn : x.nm.length = 32)
    (h : ∀ w1 g, NewBlk w w1 g (.cells (pcells x).toArray 55 (0, 0)) → wpList Try.prog ops Q rest ((a.put (some N) (.pointer (some ⟨g, 0, none⟩))).put o2.dst undef) w1) : wpList Try.prog ops Q (o1 :: o2 :: rest) a w := by
  obtain ⟨it, hi, hz, hs, _⟩ := info_parts infoP
  exact new_var hg1 hg2 hd1 _ ho1 y ho2 hN hy hi hz (by rw [zP_size, pcells_len hn]) (by rw [hs, pcells_len hn]) (pcells_one x) h
/-- append(v, names...) of digests. -/
theorem appD {w0 W : World} (base : Nat) (hgd : o.guard = none) (s x : Operand)
    (ho : o.op = .call { callee := .builtin .append, args := #[s, x], argTypes := #[28, 28] })
    (v : Value) (xs ys : List (List Int)) (A : Option Addr) (m c : Nat) (hs : a.eval s = v) (hx : a.eval x = .slice A m c)
    (HO : OwD W base v xs) (HR : RdD W A m ys) (HB : Below base w0 W) (hbase : base ≤ W.heap.size) (hl : (xs.length + m) * 32 ≤ 140737488355328)
    (h : ∀ v1 w1, OwD w1 base v1 (xs ++ ys) → Below base w0 w1 → W.grownBy w1 v.ownBlock → (v1.ownBlock = v.ownBlock ∨ ∃ b, v1.ownBlock = some b ∧ W.heap.size ≤ b) → wpList Try.prog ops Q rest (a.put o.dst v1) w1) :
    wpList Try.prog ops Q (o :: rest) a W :=
  Kd.R_append_rows KDg base hgd s x 28 51 (.agg (Nm Z32).toArray) 32 ho Try.underlying28 infoDg (by rfl) (by decide) (by decide) v xs ys A m c (fun _ => True) (fun _ => False) hs hx HO HR (fun _ _ h => h) (fun _ h => h.elim) (fun _ _ => trivial) HB hbase hl h
end
theorem rd_one {w : World} {g T : Nat} {nm : List Int} (h : w.heap[g]? = some (.cells (Nm nm).toArray T (0, 0))) (hn : nm.length = 32) : RdD w (some ⟨g, 0, none⟩) 1 [nm] := by
  refine ⟨rfl, by omega, fun _ => ⟨_, rfl, fun j p hj => ?_⟩⟩
  cases j with
  | succ j => simp at hj
  | zero =>
    obtain rfl := Option.some.inj hj
    refine ⟨Nm nm, Nm_len32 hn, ⟨hn, rfl⟩, fun i u hu => ?_⟩
    rw [show KDg.sz = 32 from rfl, Nat.zero_mul, Nat.zero_add, add_plain, blk_cell h, List.getElem?_toArray]
    exact hu
/-- The cells of one that is wanted, in a block of its own. -/
theorem four_cells {w : World} {g T : Nat} {nm : List Int} {a b c d : Value} {fr : Nat × Nat} (h : w.heap[g]? = some (.cells (Nm nm ++ [a, b, c, d]).toArray T fr)) (hn : nm.length = 32) :
    w.cell? ⟨g, 32, none⟩ = some a ∧ w.cell? ⟨g, 33, none⟩ = some b ∧ w.cell? ⟨g, 34, none⟩ = some c ∧ w.cell? ⟨g, 35, none⟩ = some d ∧ w.rangeAt g 0 (Nm nm) := by
  obtain ⟨h0, h1, h2, h3, h4⟩ := four_at nm a b c d hn
  have hc := fun j => cell_of_row w g j _ T fr h
  refine ⟨?_, ?_, ?_, ?_, fun j u hu => ?_⟩
  · rw [hc, List.getElem?_toArray]; exact h0
  · rw [hc, List.getElem?_toArray]; exact h1
  · rw [hc, List.getElem?_toArray]; exact h2
  · rw [hc, List.getElem?_toArray]; exact h3
  · rw [hc, Nat.zero_add, List.getElem?_toArray]; exact h4 j u hu
theorem four_dig {w : World} {g T : Nat} {nm : List Int} {a b c d : Value} {fr : Nat × Nat} (h : w.heap[g]? = some (.cells (Nm nm ++ [a, b, c, d]).toArray T fr)) (hn : nm.length = 32) :
    (Instr.loadAt 51 (.pointer (some ⟨g, 0, none⟩))).run Try.prog w = .ok (.agg (Nm nm).toArray) w :=
  run_loadAt_mid _ _ 0 _ (Nm nm) _ (four_cells h hn).2.2.2.2 Try.underlying51 rfl (size_d nm hn)
theorem p_dig {w : World} {g T : Nat} {x : Wt} {fr : Nat × Nat} (h : w.heap[g]? = some (.cells (pcells x).toArray T fr)) (hn : x.nm.length = 32) :
    (Instr.loadAt 51 (.pointer (some ⟨g, 0, none⟩))).run Try.prog w = .ok (.agg (Nm x.nm).toArray) w := four_dig h hn
theorem p_cells {w : World} {g T : Nat} {x : Wt} {fr : Nat × Nat} (h : w.heap[g]? = some (.cells (pcells x).toArray T fr)) (hn : x.nm.length = 32) :
    w.cell? ⟨g, 32, none⟩ = some (.bool (x.st == 2)) ∧ w.cell? ⟨g, 33, none⟩ = some (.int .i64 x.asks) ∧ w.cell? ⟨g, 34, none⟩ = some (.int .i64 x.seq) ∧ w.cell? ⟨g, 35, none⟩ = some (.int .i64 x.due) := by
  obtain ⟨a, b, c, d, _⟩ := four_cells h hn
  exact ⟨a, b, c, d⟩
/-- A client in memory: its block, its timeout's, its row of its own. -/
def Cc (c : Cl) (v : Value) (tb : Nat) : Array Value := #[v, .int .i64 c.window, .int .i64 c.tries, .int .i64 c.seq, .func (.func 15) #[] #[.pointer (some ⟨tb, 0, none⟩)], .int .i64 c.e]
structure PCl (w : World) (B g tb : Nat) (c : Cl) (v : Value) : Prop where
  blk : w.heap[g]? = some (.cells (Cc c v tb) 49 (0, 0))
  tim : w.heap[tb]? = some (.cells #[.int .i64 c.timeout] 3 (0, 0))
  own : OwP w B v c.L
  hg : B ≤ g
  ht : B ≤ tb
theorem PCl.below {w w1 : World} {B g tb : Nat} {c : Cl} {v : Value} (h : PCl w B g tb c v) (k : Below w.heap.size w w1) : PCl w1 B g tb c v :=
  ⟨Later.heap k h.blk, Later.heap k h.tim, Kd.R_below h.own k, h.hg, h.ht⟩
theorem PCl.reads {w : World} {B g tb : Nat} {c : Cl} {v : Value} (h : PCl w B g tb c v) : ∃ A cp, v = .slice A c.L.length cp ∧ c.L.length ≤ cp ∧ RdP w A c.L.length c.L := Kd.R_reads h.own
theorem PCl.cells {w : World} {B g tb : Nat} {c : Cl} {v : Value} (h : PCl w B g tb c v) :
    w.cell? ⟨g, 0, none⟩ = some v ∧ w.cell? ⟨g, 1, none⟩ = some (.int .i64 c.window) ∧ w.cell? ⟨g, 2, none⟩ = some (.int .i64 c.tries) ∧ w.cell? ⟨g, 3, none⟩ = some (.int .i64 c.seq) ∧
    w.cell? ⟨g, 4, none⟩ = some (.func (.func 15) #[] #[.pointer (some ⟨tb, 0, none⟩)]) ∧ w.cell? ⟨g, 5, none⟩ = some (.int .i64 c.e) ∧ w.cell? ⟨tb, 0, none⟩ = some (.int .i64 c.timeout) := by
  refine ⟨?_, ?_, ?_, ?_, ?_, ?_, ?_⟩
  case _ => rw [blk_cell h.blk]; rfl
  case _ => rw [blk_cell h.blk]; rfl
  case _ => rw [blk_cell h.blk]; rfl
  case _ => rw [blk_cell h.blk]; rfl
  case _ => rw [blk_cell h.blk]; rfl
  case _ => rw [blk_cell h.blk]; rfl
  case _ => rw [blk_cell h.tim]; rfl
/-- Who looks for a name. -/
theorem find1_calls (x : Wt) (nm : List Int) (q : Nat) (C : Array Value) (w : World) (hC : C = (pcells x).toArray) (hx : x.nm.length = 32) (hn : nm.length = 32) (hq : w.heap[q]? = some (.cells (Nm nm).toArray 51 (0, 0))) :
    Calls Try.prog 24 #[.agg C, .pointer (some ⟨q, 0, none⟩)] w fun e w' => e = .returned (.bool (decide (x.nm = nm))) ∧ Below w.heap.size w w' := by
  have HF : Aside0 ((w.alloc (.cells C 55)).heap[w.heap.size]? = some (.cells (pcells x).toArray 55 (0, 0))) := ⟨by rw [hC]; exact blk_new w _⟩
  have HQ : Aside0 ((w.alloc (.cells C 55)).heap[q]? = some (.cells (Nm nm).toArray 51 (0, 0))) := ⟨Later.heap (below_alloc (Below.refl _ w) _) hq⟩
  have hgd : Try.prog.eqGuardType Try.prog.depth 51 = false := by kernel_rfl
  have HX := Aside0.mk hx
  have HN := Aside0.mk hn
  clear hC hq hx hn
  go_enter Try.func24, Try.ntmps24
  go_wp2_with (first
    | ((with_reducible refine at_ld 51 (.tmp 4) ?_); refine load_arm rfl 51 (.tmp 4) rfl rfl (p_dig HF.out HX.out) ?_; simp only [Act.put, List.setIfInBounds_toArray, List.set_cons_zero, List.set_cons_succ])
    | ((with_reducible refine at_ld 51 (.tmp 1) ?_); refine load_arm rfl 51 (.tmp 1) rfl rfl (ld_row HQ.out 51 _ Try.underlying51 rfl (by rw [List.size_toArray]; exact size_d nm HN.out)) ?_; simp only [Act.put, List.setIfInBounds_toArray, List.set_cons_zero, List.set_cons_succ])
    | ((with_reducible refine at_bin .eql 51 ?_); refine val_arm (v := (.bool (decide (x.nm = nm)))) (by rfl) (bin_run .eql 51 (.tmp 5) (.tmp 6) 51 rfl (p := (.agg (Nm x.nm).toArray)) (q := (.agg (Nm nm).toArray)) rfl rfl (run_eqGuard_agg _ .eql _ _ _ _ _ hgd) (d_eql HX.out HN.out)) ?_)
    | fail)
  go_ret
  exact ⟨rfl, below_alloc (Below.refl _ w) _⟩
set_option maxRecDepth 20000 in
theorem ifn1_calls (A : Option Addr) (n cp : Nat) (xs : List Wt) (p : Wt → Bool) (K : Array Value) (w : World) (h : RdP w A n xs) (hn : n ≤ 1048576)
    (hF : ∀ x ∈ xs, ∀ W, Below w.heap.size w W → Calls Try.prog 24 (#[.agg (pcells x).toArray] ++ K) W fun e W' => e = .returned (.bool (p x)) ∧ Below W.heap.size W W') :
    Calls Try.prog 23 #[.slice A n cp, .func (.func 24) #[] K] w fun e w' => e = .returned (.int .i64 (fst p xs)) ∧ Below w.heap.size w w' := by
  have HX := Aside0.mk h
  obtain rfl : xs.length = n := h.1
  have HF := Aside0.mk hF
  clear h hF
  go_enter Try.func23, Try.ntmps23
  go_wp2
  go_loopw [5, 8] (fun _ i wr => ∃ k : Nat, k ≤ xs.length ∧ i = .int .i64 k ∧ (∀ x ∈ xs.take k, p x = false) ∧ Below w.heap.size w wr) (fun _ i _ => xs.length - (intOf i).toNat)
  case atStart => exact ⟨0, Nat.zero_le _, rfl, (fun x hx => by simp at hx), Below.refl _ _⟩
  case round =>
    obtain ⟨k, hk, rfl, hT, hB⟩ := hrel
    have HB := Aside0.mk hB
    have HT := Aside0.mk hT
    clear hB hT
    by_cases hlt : k < xs.length
    · obtain ⟨ad, rfl, hx32, hxc⟩ := kf_at (Kd.C_below HX.out HB.out) default k hlt
      have HXC := Aside0.mk hxc
      have HX32 := Aside0.mk hx32
      have HC : Aside0 (Calls Try.prog 24 (#[.agg (pcells (xs.getD k default)).toArray] ++ K) wr fun e W' => e = .returned (.bool (p (xs.getD k default))) ∧ Below wr.heap.size wr W') := ⟨HF.out _ (by rw [List.getD_eq_getElem?_getD, List.getElem?_eq_getElem hlt]; exact List.getElem_mem _) wr HB.out⟩
      have HS : Aside0 (p (xs.getD k default) = true → fst p xs = k) := ⟨fun h => fst_some hlt HT.out h⟩
      have HN : Aside0 (p (xs.getD k default) = false → ∀ x ∈ xs.take (k + 1), p x = false) := ⟨fun h x hx => by
        rw [List.take_add_one, List.getElem?_eq_getElem hlt] at hx
        rcases List.mem_append.1 hx with hx | hx
        · exact HT.out x hx
        · rw [List.getD_eq_getElem?_getD, List.getElem?_eq_getElem hlt] at h
          rw [List.mem_singleton.1 hx]; exact h⟩
      generalize xs.getD k default = X at *
      clear hxc hx32
      rcases hp : p X with _ | _
      · have HN := Aside0.mk (HN.out hp)
        rw [hp] at HC
        clear hp HS
        go_wp2_with (first
          | ((with_reducible refine at_ld 55 (.tmp 14) ?_); refine load_arm rfl 55 (.tmp 14) rfl rfl (ld_elem HXC.out 55 _ Try.underlying55 rfl (size_p HX32.out)) ?_; simp only [Act.put, List.setIfInBounds_toArray, List.set_cons_zero, List.set_cons_succ])
          | (go_at_call 24; refine (HC.out).mono ?_; rintro e w1 ⟨rfl, hB1⟩; have HB1 : Aside0 (Below w.heap.size w w1) := ⟨below_tr HB.out hB1 HB.out.size⟩; clear hB1)
          | fail)
        go_roundw
        case rel => exact ⟨k + 1, by omega, by go_num, HN.out, HB1.out⟩
        case measure => simp [intOf]; omega
      · have HS := Aside0.mk (HS.out hp)
        rw [hp] at HC
        clear hp HN
        go_wp2_with (first
          | ((with_reducible refine at_ld 55 (.tmp 14) ?_); refine load_arm rfl 55 (.tmp 14) rfl rfl (ld_elem HXC.out 55 _ Try.underlying55 rfl (size_p HX32.out)) ?_; simp only [Act.put, List.setIfInBounds_toArray, List.set_cons_zero, List.set_cons_succ])
          | (go_at_call 24; refine (HC.out).mono ?_; rintro e w1 ⟨rfl, hB1⟩; have HB1 : Aside0 (Below w.heap.size w w1) := ⟨below_tr HB.out hB1 HB.out.size⟩; clear hB1)
          | fail)
        go_ret
        exact ⟨by rw [HS.out]; rfl, HB1.out⟩
    · obtain rfl : k = xs.length := by omega
      have HS : Aside0 (fst p xs = -1) := ⟨fst_none (fun x hx => HT.out x (by rw [List.take_length]; exact hx))⟩
      go_wp2
      go_ret
      exact ⟨by rw [HS.out]; rfl, HB.out⟩
end Go.Proofs.Ytnkkjmbpopodlaa
