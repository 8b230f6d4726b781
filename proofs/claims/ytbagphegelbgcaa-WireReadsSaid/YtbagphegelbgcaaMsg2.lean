/- Messages in variables: made, their fields written. Plain lemmas. -/
import Derived.Test.YtbagphegelbgcaaMsg
import Derived.Test.YtbagphegelbgcaaRowsOf
namespace Go.Proofs.Ytbagphegelbgcaa
open Go.RowKit Go.Proofs.YtbagphegelbgcaaW.PrintWords Go.Proofs.YtbagphegelbgcaaW.PrintMore
set_option linter.unusedVariables false
set_option linter.unusedSimpArgs false
theorem m_info : ∃ it z, Try.prog.info? 25 = some it ∧ it.zero = some z ∧ it.size = 35 ∧ z.cells.size = 35 := by
  have h : (Try.prog.info? 25).map (fun i => (i.zero.map (·.cells.size), i.size)) = some (some 35, 35) := by kernel_rfl
  obtain ⟨it, h1, h2⟩ := Option.map_eq_some_iff.1 h
  simp only [Prod.mk.injEq] at h2
  obtain ⟨z, h3, h4⟩ := Option.map_eq_some_iff.1 h2.1
  exact ⟨it, z, h1, h3, h2.2, h4⟩
theorem w_info : ∃ it z, Try.prog.info? 36 = some it ∧ it.zero = some z ∧ it.size = 35 ∧ z.cells.size = 35 := by
  have h : (Try.prog.info? 36).map (fun i => (i.zero.map (·.cells.size), i.size)) = some (some 35, 35) := by kernel_rfl
  obtain ⟨it, h1, h2⟩ := Option.map_eq_some_iff.1 h
  simp only [Prod.mk.injEq] at h2
  obtain ⟨z, h3, h4⟩ := Option.map_eq_some_iff.1 h2.1
  exact ⟨it, z, h1, h3, h2.2, h4⟩
theorem Mc_one {k s : Int} {nm : List Int} {b : Value} (hb : b.oneCell' = true) : ∀ v ∈ Mc k s nm b, v.oneCell' = true := by
  intro v hv
  simp only [Mc, List.mem_cons, List.mem_append, List.not_mem_nil, or_false] at hv
  rcases hv with rfl | rfl | h | rfl
  · rfl
  · rfl
  · exact Nm_one nm v h
  · exact hb
section
variable {P : Program} {ops : Array Oper} {rest : List Oper} {a : Act} {Q : Exit → Act → World → Prop} {w : World} {d : Option Tmp} {ty0 : TypeId} {ps : String} {af : Array Edge}
theorem at_al (ty : TypeId) (h : wpList P ops Q ({ dst := d, op := .alloc ty, type := ty0, pos := ps, after := af, guard := none } :: rest) a w) : wpList P ops Q ({ dst := d, op := .alloc ty, type := ty0, pos := ps, after := af, guard := none } :: rest) a w := h
end
section
variable {ops : Array Oper} {rest : List Oper} {o : Oper} {a : Act} {Q : Exit → Act → World → Prop} {w : World} {g T : Nat} {k s : Int} {nm : List Int} {b : Value}
/-- A message's variable: made and written. -/
theorem new_m {o1 o2 : Oper} {N : Tmp} (hg1 : o1.guard = none) (hg2 : o2.guard = none) (hd1 : o1.dst = some N) (ho1 : o1.op = .alloc 25) (y : Operand) (ho2 : o2.op = .store 25 (.tmp N) y) (hN : N < a.tmps.size)
    (hy : (a.put (some N) (.pointer (some ⟨w.heap.size, 0, none⟩))).eval y = .agg (Mc k s nm b).toArray) (hn : nm.length = 32) (hb : b.oneCell' = true)
    (h : ∀ w1 g, NewBlk w w1 g (.cells (Mc k s nm b).toArray 25 (0, 0)) → wpList Try.prog ops Q rest ((a.put (some N) (.pointer (some ⟨g, 0, none⟩))).put o2.dst undef) w1) : wpList Try.prog ops Q (o1 :: o2 :: rest) a w := by
  obtain ⟨it, z, h1, h2, h3, h4⟩ := m_info
  exact new_var hg1 hg2 hd1 _ ho1 y ho2 hN hy h1 h2 (by rw [h4, Mc_len hn]) (by rw [h3, Mc_len hn]) (Mc_one hb) h
theorem new_w {o1 o2 : Oper} {N : Tmp} (hg1 : o1.guard = none) (hg2 : o2.guard = none) (hd1 : o1.dst = some N) (ho1 : o1.op = .alloc 36) (y : Operand) (ho2 : o2.op = .store 36 (.tmp N) y) (hN : N < a.tmps.size)
    (hy : (a.put (some N) (.pointer (some ⟨w.heap.size, 0, none⟩))).eval y = .agg (Mc k s nm b).toArray) (hn : nm.length = 32) (hb : b.oneCell' = true)
    (h : ∀ w1 g, NewBlk w w1 g (.cells (Mc k s nm b).toArray 36 (0, 0)) → wpList Try.prog ops Q rest ((a.put (some N) (.pointer (some ⟨g, 0, none⟩))).put o2.dst undef) w1) : wpList Try.prog ops Q (o1 :: o2 :: rest) a w := by
  obtain ⟨it, z, h1, h2, h3, h4⟩ := w_info
  exact new_var hg1 hg2 hd1 _ ho1 y ho2 hN hy h1 h2 (by rw [h4, Mc_len hn]) (by rw [h3, Mc_len hn]) (Mc_one hb) h
theorem st_there (hg : w.heap[g]? = some (.cells (Mc k s nm b).toArray T (0, 0))) (hn : nm.length = 32) (i : Nat) (hi : i < 35) : (∃ u, w.cell? ⟨g, i, none⟩ = some u) ∧ w.frozen? ⟨g, i, none⟩ = false :=
  ⟨⟨_, by rw [blk_cell hg, Array.getElem?_eq_getElem (show i < (Mc k s nm b).toArray.size by rw [List.size_toArray, Mc_len hn]; exact hi)]⟩, blk_frozen hg i⟩
theorem st_int (hg : w.heap[g]? = some (.cells (Mc k s nm b).toArray T (0, 0))) (hn : nm.length = 32) (i : Nat) (hi : i < 35) (v : Int) : (Instr.storeAt 3 (.pointer (some ⟨g, i, none⟩)) (.int .i64 v)).run Try.prog w = .ok () (w.setCell ⟨g, i, none⟩ (.int .i64 v)) := by
  obtain ⟨⟨u, hc⟩, hf⟩ := st_there hg hn i hi
  clear hg
  go_simp
theorem st_str (hg : w.heap[g]? = some (.cells (Mc k s nm b).toArray T (0, 0))) (hn : nm.length = 32) (v : ByteArray) : (Instr.storeAt 9 (.pointer (some ⟨g, 34, none⟩)) (.string v)).run Try.prog w = .ok () (w.setCell ⟨g, 34, none⟩ (.string v)) := by
  obtain ⟨⟨u, hc⟩, hf⟩ := st_there hg hn 34 (by omega)
  clear hg
  go_simp
theorem st_bs (hg : w.heap[g]? = some (.cells (Mc k s nm b).toArray T (0, 0))) (hn : nm.length = 32) (A : Option Addr) (n c : Nat) : (Instr.storeAt 27 (.pointer (some ⟨g, 34, none⟩)) (.slice A n c)).run Try.prog w = .ok () (w.setCell ⟨g, 34, none⟩ (.slice A n c)) := by
  obtain ⟨⟨u, hc⟩, hf⟩ := st_there hg hn 34 (by omega)
  clear hg
  go_simp
theorem store_f0 (hgd : o.guard = none) (x y : Operand) (ho : o.op = .store 3 x y) {v : Int} (hx : a.eval x = .pointer (some ⟨g, 0, none⟩)) (hy : a.eval y = .int .i64 v) (hg : w.heap[g]? = some (.cells (Mc k s nm b).toArray T (0, 0))) (hn : nm.length = 32)
    (h : ∀ w1, SetBlk w w1 g (.cells (Mc v s nm b).toArray T (0, 0)) → wpList Try.prog ops Q rest (a.put o.dst undef) w1) : wpList Try.prog ops Q (o :: rest) a w :=
  store_arm hgd _ x y ho hx hy (st_int hg hn 0 (by omega) v) (h _ (by have := setBlk_cell hg (.int .i64 v) (i := 0); rwa [mc_set0] at this))
theorem store_f1 (hgd : o.guard = none) (x y : Operand) (ho : o.op = .store 3 x y) {v : Int} (hx : a.eval x = .pointer (some ⟨g, 1, none⟩)) (hy : a.eval y = .int .i64 v) (hg : w.heap[g]? = some (.cells (Mc k s nm b).toArray T (0, 0))) (hn : nm.length = 32)
    (h : ∀ w1, SetBlk w w1 g (.cells (Mc k v nm b).toArray T (0, 0)) → wpList Try.prog ops Q rest (a.put o.dst undef) w1) : wpList Try.prog ops Q (o :: rest) a w :=
  store_arm hgd _ x y ho hx hy (st_int hg hn 1 (by omega) v) (h _ (by have := setBlk_cell hg (.int .i64 v) (i := 1); rwa [mc_set1] at this))
theorem store_f3s (hgd : o.guard = none) (x y : Operand) (ho : o.op = .store 9 x y) {v : ByteArray} (hx : a.eval x = .pointer (some ⟨g, 34, none⟩)) (hy : a.eval y = .string v) (hg : w.heap[g]? = some (.cells (Mc k s nm b).toArray T (0, 0))) (hn : nm.length = 32)
    (h : ∀ w1, SetBlk w w1 g (.cells (Mc k s nm (.string v)).toArray T (0, 0)) → wpList Try.prog ops Q rest (a.put o.dst undef) w1) : wpList Try.prog ops Q (o :: rest) a w :=
  store_arm hgd _ x y ho hx hy (st_str hg hn v) (h _ (by have := setBlk_cell hg (.string v) (i := 34); rwa [mc_set3 hn] at this))
theorem store_f3b (hgd : o.guard = none) (x y : Operand) (ho : o.op = .store 27 x y) {A : Option Addr} {n c : Nat} (hx : a.eval x = .pointer (some ⟨g, 34, none⟩)) (hy : a.eval y = .slice A n c) (hg : w.heap[g]? = some (.cells (Mc k s nm b).toArray T (0, 0))) (hn : nm.length = 32)
    (h : ∀ w1, SetBlk w w1 g (.cells (Mc k s nm (.slice A n c)).toArray T (0, 0)) → wpList Try.prog ops Q rest (a.put o.dst undef) w1) : wpList Try.prog ops Q (o :: rest) a w :=
  store_arm hgd _ x y ho hx hy (st_bs hg hn A n c) (h _ (by have := setBlk_cell hg (.slice A n c) (i := 34); rwa [mc_set3 hn] at this))
theorem setBlk_mid {cur : Array Value} {e : TypeId} (hg : w.heap[g]? = some (.cells cur e (0, 0))) (off : Nat) (vs : List Value) (hs : off + vs.length ≤ cur.size) :
    SetBlk w (w.setCells g off vs) g (.cells (cur.toList.take off ++ vs ++ cur.toList.drop (off + vs.length)).toArray e (0, 0)) := by
  obtain ⟨s1, s2, s3, s4⟩ := setCells_same g vs off w
  obtain ⟨cur', h1, h2, h3⟩ := setCells_row vs off w cur hg (by omega)
  refine ⟨s1, s2, s3, s4, ?_, fun k hk => setCells_far vs off k hk⟩
  have : cur' = (cur.toList.take off ++ vs ++ cur.toList.drop (off + vs.length)).toArray := by
    apply Array.toList_inj.1
    rw [h3]
  rw [h1, this]
theorem mc_mid (nm' : List Int) (hn : nm.length = 32) (hn' : nm'.length = 32) : (Mc k s nm b).toArray.toList.take 2 ++ Nm nm' ++ (Mc k s nm b).toArray.toList.drop (2 + (Nm nm').length) = Mc k s nm' b := by
  rw [Nm_len, hn']
  show [Value.int .i64 k, Value.int .i64 s] ++ Nm nm' ++ (Nm nm ++ [b]).drop 32 = _
  rw [List.drop_left' (by rw [Nm_len, hn])]
  simp [Mc]
theorem store_f2 (hgd : o.guard = none) (x y : Operand) (ho : o.op = .store 23 x y) {nm' : List Int} (hx : a.eval x = .pointer (some ⟨g, 2, none⟩)) (hy : a.eval y = .agg (Nm nm').toArray) (hg : w.heap[g]? = some (.cells (Mc k s nm b).toArray T (0, 0))) (hn : nm.length = 32) (hn' : nm'.length = 32)
    (h : ∀ w1, SetBlk w w1 g (.cells (Mc k s nm' b).toArray T (0, 0)) → wpList Try.prog ops Q rest (a.put o.dst undef) w1) : wpList Try.prog ops Q (o :: rest) a w := by
  have hst : (Instr.storeAt 23 (.pointer (some ⟨g, 2, none⟩)) (.agg (Nm nm').toArray)).run Try.prog w = .ok () (w.setCells g 2 (Nm nm')) := by
    refine run_storeAt_mid w g 2 23 (Nm nm').toArray ?_ (by rw [List.size_toArray, Nm_len, hn']; kernel_rfl) (all_oneCell_toArray (Nm_one nm'))
    intro j hj
    have hj' : 2 + j < 35 := by
      rw [List.size_toArray, Nm_len, hn'] at hj
      omega
    obtain ⟨⟨u, hc⟩, hf⟩ := st_there hg hn (2 + j) hj'
    exact ⟨by rw [hc]; rfl, hf⟩
  have hset := setBlk_mid hg 2 (Nm nm') (by rw [List.size_toArray, Mc_len hn, Nm_len, hn']; omega)
  rw [mc_mid nm' hn hn'] at hset
  exact store_arm hgd _ x y ho hx hy hst (h _ hset)
/-- Loads of a message's fields, the message a part of a row. -/
theorem in_f0 {off : Nat} (hr : w.rangeAt g off (Mc k s nm b)) : (Instr.loadAt 3 (.pointer (some ⟨g, off, none⟩))).run Try.prog w = .ok (.int .i64 k) w := by
  have hc := hr 0 (.int .i64 k) rfl
  rw [Nat.add_zero] at hc
  go_simp
theorem in_f1 {off : Nat} (hr : w.rangeAt g off (Mc k s nm b)) : (Instr.loadAt 3 (.pointer (some ⟨g, off + 1, none⟩))).run Try.prog w = .ok (.int .i64 s) w := by
  have hc := hr 1 (.int .i64 s) rfl
  go_simp
theorem in_f2 {off : Nat} (hr : w.rangeAt g off (Mc k s nm b)) (hn : nm.length = 32) : (Instr.loadAt 23 (.pointer (some ⟨g, off + 2, none⟩))).run Try.prog w = .ok (.agg (Nm nm).toArray) w := by
  refine run_loadAt_mid _ _ (off + 2) _ (Nm nm) _ ?_ Try.underlying23 rfl (by rw [Nm_len, hn]; kernel_rfl)
  intro j v hv
  have hj : j < (Nm nm).length := (List.getElem?_eq_some_iff.1 hv).1
  have := hr (2 + j) v (by
    rw [Nat.add_comm 2 j]
    show ((Nm nm ++ [b])[j]? : Option Value) = some v
    rw [List.getElem?_append_left hj]
    exact hv)
  rwa [show off + (2 + j) = off + 2 + j by omega] at this
end
end Go.Proofs.Ytbagphegelbgcaa
