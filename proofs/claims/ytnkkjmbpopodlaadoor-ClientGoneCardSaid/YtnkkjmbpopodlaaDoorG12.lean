/- Plain lemmas and contracts, several texts in one: Num2, WireBase, Num, Msg, Msg2, Wire, Wire2. Conditions: their own. -/
import Derived.Test.YtnkkjmbpopodlaaDoorG2
import Derived.Test.YtnkkjmbpopodlaaDoorG1
import Derived.Deep.MidRow
import Derived.Laws.Tables
import Derived.Test.YtnkkjmbpopodlaaDoorWEqStruct
import Derived.DeepKeys
import Derived.Test.YtnkkjmbpopodlaaDoorG6
namespace Go.Proofs.YtnkkjmbpopodlaaDoor
open Go.RowKit Go.Proofs.YtnkkjmbpopodlaaDoorW.PrintWords Go.Proofs.YtnkkjmbpopodlaaDoorW.PrintMore
set_option linter.unusedVariables false
set_option linter.unusedSimpArgs false
/-- Number: four bytes. -/
theorem num01_calls (n : Int) (w : World) (h0 : 0 ≤ n) (h1 : n < 4294967296) :
    Calls Tryd.prog 36 #[.int .i64 n] w fun e w' => ∃ B d, e = .returned (.slice B 4 d) ∧ OwB w' w.heap.size (.slice B 4 d) (le32 n.toNat) ∧ Below w.heap.size w w' := by
  obtain ⟨m, rfl⟩ := Int.eq_ofNat_of_zero_le h0
  rw [Int.toNat_natCast]
  go_enter Tryd.func36, Tryd.ntmps36
  go_wp2
  go_ret
  refine ⟨_, _, rfl, own_litB w _ (le32 m) _ 4 ?_ rfl (Nat.le_refl _) (by simp [le32]), (Below.refl _ _).alloc (Nat.le_refl _) _⟩
  simp [le32]
  omega

end Go.Proofs.YtnkkjmbpopodlaaDoor
namespace Go.Proofs.YtnkkjmbpopodlaaDoor
open Go.RowKit Go.Proofs.YtnkkjmbpopodlaaDoorW.PrintWords Go.Proofs.YtnkkjmbpopodlaaDoorW.PrintMore
set_option linter.unusedVariables false
set_option linter.unusedSimpArgs false

def Mc (k s : Int) (nm : List Int) (b : Value) : List Value := .int .i64 k :: .int .i64 s :: (Nm nm ++ [b])
theorem Mc_len {k s : Int} {nm : List Int} {b : Value} (h : nm.length = 32) : (Mc k s nm b).length = 35 := by simp [Mc, Nm_len, h]
theorem msg_cells {w : World} {g T : Nat} {k s : Int} {nm : List Int} {b : Value} {fr : Nat × Nat} (h : w.heap[g]? = some (.cells (Mc k s nm b).toArray T fr)) (hn : nm.length = 32) :
    w.cell? ⟨g, 0, none⟩ = some (.int .i64 k) ∧ w.cell? ⟨g, 1, none⟩ = some (.int .i64 s) ∧ w.cell? ⟨g, 34, none⟩ = some b ∧ w.rangeAt g 2 (Nm nm) ∧ w.rangeAt g 0 (Mc k s nm b) := by
  have hc := fun j => cell_of_row w g j _ T fr h
  refine ⟨by rw [hc]; rfl, by rw [hc]; rfl, ?_, ?_, ?_⟩
  · rw [hc]
    have : (Mc k s nm b)[34]? = some b := by
      show ((Nm nm ++ [b])[32]? : Option Value) = some b
      rw [List.getElem?_append_right (by simp [Nm_len, hn])]
      simp [Nm_len, hn]
    simpa using this
  · intro j v hv
    rw [hc]
    have hj : j < (Nm nm).length := (List.getElem?_eq_some_iff.1 hv).1
    show ((Mc k s nm b).toArray[2 + j]? : Option Value) = some v
    rw [List.getElem?_toArray, Nat.add_comm 2 j]
    show ((Nm nm ++ [b])[j]? : Option Value) = some v
    rw [List.getElem?_append_left hj]
    exact hv
  · intro j v hv
    rw [hc, Nat.zero_add, List.getElem?_toArray]
    exact hv
/-- Which messages may be. -/
def mayB (k s : Int) (n : Nat) : Bool := decide (1 ≤ k ∧ k ≤ 3 ∧ 0 ≤ s ∧ s ≤ 4294967295 ∧ (n = 0 ∨ (k = 2 ∧ n ≤ 4106)))

theorem ret_bool {a b : Bool} (h : a = b) : Ending.returned (.bool a) = Ending.returned (.bool b) := by rw [h]
theorem empty_iff (b : ByteArray) : b = ByteArray.empty ↔ b.size = 0 := by
  constructor
  · rintro rfl; rfl
  · intro h
    have h1 : b.data.toList = [] := List.eq_nil_of_length_eq_zero ((data_length b).trans h)
    calc b = ⟨b.data⟩ := rfl
      _ = ⟨#[]⟩ := by rw [Array.toList_eq_nil_iff.1 h1]
      _ = ByteArray.empty := rfl
/-- wire.May -/
theorem wmay_calls (k s : Int) (nm : List Int) (A : Option Addr) (n c : Nat) (C : Array Value) (w : World) (hC : C = (Mc k s nm (.slice A n c)).toArray) (hn : nm.length = 32) (hm : n ≤ 140737488355328) :
    Calls Tryd.prog 58 #[.agg C] w fun e w' => e = .returned (.bool (mayB k s n)) ∧ Below w.heap.size w w' := by
  obtain ⟨h0, h1, h2, _, _⟩ := msg_cells (by rw [← hC]; exact blk_new w (.cells C 66)) hn
  clear hC hn
  have h0' := fun o => (World.cell?_alloc_lt _ o _ (World.block_lt_of_cell? _ _ h0)).trans h0
  clear h0'
  go_enter Tryd.func58, Tryd.ntmps58
  go_wp2
  all_goals
    go_ret
    refine ⟨?_, (Below.refl _ _).alloc (Nat.le_refl _) _⟩
    refine ret_bool ?_
    unfold mayB
    rw [Bool.eq_iff_iff]
    try simp only [decide_eq_true_eq, Bool.or_eq_true, beq_iff_eq, beq_eq_false_iff_ne, empty_iff, Bool.false_eq_true, false_iff, true_iff] at *
    omega

end Go.Proofs.YtnkkjmbpopodlaaDoor
namespace Go.Proofs.YtnkkjmbpopodlaaDoor
open Go.RowKit Go.Proofs.YtnkkjmbpopodlaaDoorW.PrintWords Go.Proofs.YtnkkjmbpopodlaaDoorW.PrintMore
set_option linter.unusedVariables false
set_option linter.unusedSimpArgs false

end Go.Proofs.YtnkkjmbpopodlaaDoor
namespace Go.Proofs.YtnkkjmbpopodlaaDoor
open Go.RowKit Go.Proofs.YtnkkjmbpopodlaaDoorW.PrintWords Go.Proofs.YtnkkjmbpopodlaaDoorW.PrintMore
set_option linter.unusedVariables false
set_option linter.unusedSimpArgs false
set_option maxRecDepth 100000

theorem len32 (l : List Int) (h : l.length = 32) : ∃ x0 x1 x2 x3 x4 x5 x6 x7 x8 x9 x10 x11 x12 x13 x14 x15 x16 x17 x18 x19 x20 x21 x22 x23 x24 x25 x26 x27 x28 x29 x30 x31, l = [x0, x1, x2, x3, x4, x5, x6, x7, x8, x9, x10, x11, x12, x13, x14, x15, x16, x17, x18, x19, x20, x21, x22, x23, x24, x25, x26, x27, x28, x29, x30, x31] := by
  match l, h with
  | [x0, x1, x2, x3, x4, x5, x6, x7, x8, x9, x10, x11, x12, x13, x14, x15, x16, x17, x18, x19, x20, x21, x22, x23, x24, x25, x26, x27, x28, x29, x30, x31], _ => exact ⟨_, _, _, _, _, _, _, _, _, _, _, _, _, _, _, _, _, _, _, _, _, _, _, _, _, _, _, _, _, _, _, _, rfl⟩
/-- 32 zeros. -/
def Z32 : List Int := List.replicate 32 0
theorem built_m4 (k s : Int) (nm : List Int) (b : ByteArray) (hn : nm.length = 32) : Tryd.prog.built 48 [(0, .int .i64 k), (1, .int .i64 s), (2, .agg (Nm nm).toArray), (3, .string b)] = some (Mc k s nm (.string b)).toArray := by
  obtain ⟨x0, x1, x2, x3, x4, x5, x6, x7, x8, x9, x10, x11, x12, x13, x14, x15, x16, x17, x18, x19, x20, x21, x22, x23, x24, x25, x26, x27, x28, x29, x30, x31, rfl⟩ := len32 nm hn
  kernel_rfl
theorem built_m3 (k s : Int) (nm : List Int) (hn : nm.length = 32) : Tryd.prog.built 48 [(0, .int .i64 k), (1, .int .i64 s), (2, .agg (Nm nm).toArray)] = some (Mc k s nm (.string ⟨#[]⟩)).toArray := by
  obtain ⟨x0, x1, x2, x3, x4, x5, x6, x7, x8, x9, x10, x11, x12, x13, x14, x15, x16, x17, x18, x19, x20, x21, x22, x23, x24, x25, x26, x27, x28, x29, x30, x31, rfl⟩ := len32 nm hn
  kernel_rfl
theorem built_w3 (k s : Int) (nm : List Int) (hn : nm.length = 32) : Tryd.prog.built 66 [(0, .int .i64 k), (1, .int .i64 s), (2, .agg (Nm nm).toArray)] = some (Mc k s nm (.slice none 0 0)).toArray := by
  obtain ⟨x0, x1, x2, x3, x4, x5, x6, x7, x8, x9, x10, x11, x12, x13, x14, x15, x16, x17, x18, x19, x20, x21, x22, x23, x24, x25, x26, x27, x28, x29, x30, x31, rfl⟩ := len32 nm hn
  kernel_rfl
theorem built_w02 (k s : Int) (nm : List Int) (hn : nm.length = 32) : Tryd.prog.built 66 [(0, .int .i64 k), (2, .agg (Nm nm).toArray)] = some (Mc k 0 nm (.slice none 0 0)).toArray := by
  obtain ⟨x0, x1, x2, x3, x4, x5, x6, x7, x8, x9, x10, x11, x12, x13, x14, x15, x16, x17, x18, x19, x20, x21, x22, x23, x24, x25, x26, x27, x28, x29, x30, x31, rfl⟩ := len32 nm hn
  kernel_rfl
theorem built_wz : Tryd.prog.built 66 [] = some (Mc 0 0 Z32 (.slice none 0 0)).toArray := by kernel_rfl
section
variable {P : Program} {w : World}
end
/-- Two messages (as the document has them) are the same. -/
def mSame (k s : Int) (nm : List Int) (b : ByteArray) (k' s' : Int) (nm' : List Int) (b' : ByteArray) : Bool := k == k' && (s == s' && (decide (nm = nm') && decide (b = b')))
section
variable {ops : Array Oper} {rest : List Oper} {o : Oper} {a : Act} {Q : Exit → Act → World → Prop} {w : World}
end
section
variable {W : World} {g T : Nat} {k s : Int} {nm : List Int} {b : Value} {fr : Nat × Nat}
/-- Loads of a message's fields. -/
theorem ld_f0 (h : W.heap[g]? = some (.cells (Mc k s nm b).toArray T fr)) (hn : nm.length = 32) : (Instr.loadAt 3 (.pointer (some ⟨g, 0, none⟩))).run Tryd.prog W = .ok (.int .i64 k) W := by
  have hc := (msg_cells h hn).1
  go_simp
theorem ld_f1 (h : W.heap[g]? = some (.cells (Mc k s nm b).toArray T fr)) (hn : nm.length = 32) : (Instr.loadAt 3 (.pointer (some ⟨g, 1, none⟩))).run Tryd.prog W = .ok (.int .i64 s) W := by
  have hc := (msg_cells h hn).2.1
  go_simp
theorem ld_f2 (h : W.heap[g]? = some (.cells (Mc k s nm b).toArray T fr)) (hn : nm.length = 32) : (Instr.loadAt 40 (.pointer (some ⟨g, 2, none⟩))).run Tryd.prog W = .ok (.agg (Nm nm).toArray) W :=
  run_loadAt_mid _ _ 2 _ (Nm nm) _ (msg_cells h hn).2.2.2.1 Tryd.underlying40 rfl (by rw [Nm_len, hn]; kernel_rfl)
theorem ld_f3s {x : ByteArray} (h : W.heap[g]? = some (.cells (Mc k s nm (.string x)).toArray T fr)) (hn : nm.length = 32) : (Instr.loadAt 9 (.pointer (some ⟨g, 34, none⟩))).run Tryd.prog W = .ok (.string x) W := by
  have hc := (msg_cells h hn).2.2.1
  go_simp
theorem ld_f3b {A : Option Addr} {n c : Nat} (h : W.heap[g]? = some (.cells (Mc k s nm (.slice A n c)).toArray T fr)) (hn : nm.length = 32) : (Instr.loadAt 37 (.pointer (some ⟨g, 34, none⟩))).run Tryd.prog W = .ok (.slice A n c) W := by
  have hc := (msg_cells h hn).2.2.1
  go_simp
theorem ld_w {A : Option Addr} {n c : Nat} (h : W.heap[g]? = some (.cells (Mc k s nm (.slice A n c)).toArray T fr)) (hn : nm.length = 32) : (Instr.loadAt 66 (.pointer (some ⟨g, 0, none⟩))).run Tryd.prog W = .ok (.agg (Mc k s nm (.slice A n c)).toArray) W :=
  ld_row h _ _ Tryd.underlying66 rfl (by rw [List.size_toArray, Mc_len hn]; kernel_rfl)
theorem mc_set1 (x : Int) : (Mc k s nm b).toArray.setIfInBounds 1 (.int .i64 x) = (Mc k x nm b).toArray := by simp [Mc]
theorem mc_set3 (hn : nm.length = 32) (x : Value) : (Mc k s nm b).toArray.setIfInBounds 34 x = (Mc k s nm x).toArray := by
  have : (Nm nm ++ [b]).set 32 x = Nm nm ++ [x] := by
    rw [List.set_append_right _ _ (by rw [Nm_len]; omega), Nm_len, hn]
    rfl
  simp [Mc, this]
end

end Go.Proofs.YtnkkjmbpopodlaaDoor
namespace Go.Proofs.YtnkkjmbpopodlaaDoor
open Go.RowKit Go.Proofs.YtnkkjmbpopodlaaDoorW.PrintWords Go.Proofs.YtnkkjmbpopodlaaDoorW.PrintMore
set_option linter.unusedVariables false
set_option linter.unusedSimpArgs false
theorem w_info : ∃ it z, Tryd.prog.info? 66 = some it ∧ it.zero = some z ∧ it.size = 35 ∧ z.cells.size = 35 := by
  have h : (Tryd.prog.info? 66).map (fun i => (i.zero.map (·.cells.size), i.size)) = some (some 35, 35) := by kernel_rfl
  obtain ⟨it, h1, h2⟩ := Option.map_eq_some_iff.1 h
  simp only [Prod.mk.injEq] at h2
  obtain ⟨z, h3, h4⟩ := Option.map_eq_some_iff.1 h2.1
  exact ⟨it, z, h1, h3, h2.2, h4⟩
theorem Mc_one {k s : Int} {nm : List Int} {b : Value} (hb : b.oneCell' = true) : ∀ v ∈ Mc k s nm b, v.oneCell' = true := by
  intro v hv
  simp only [Mc, List.mem_cons, List.mem_append, List.not_mem_nil, or_false] at hv
  rcases hv with rfl | rfl | h | rfl
  · rfl
  · rfl
  · exact Nm_one nm v h
  · exact hb
section
variable {P : Program} {ops : Array Oper} {rest : List Oper} {a : Act} {Q : Exit → Act → World → Prop} {w : World} {d : Option Tmp} {ty0 : TypeId} {ps : String} {af : Array Edge}
end
section
variable {ops : Array Oper} {rest : List Oper} {o : Oper} {a : Act} {Q : Exit → Act → World → Prop} {w : World} {g T : Nat} {k s : Int} {nm : List Int} {b : Value}
theorem new_w {o1 o2 : Oper} {N : Tmp} (hg1 : o1.guard = none) (hg2 : o2.guard = none) (hd1 : o1.dst = some N) (ho1 : o1.op = .alloc 66) (y : Operand) (ho2 : o2.op = .store 66 (.tmp N) y) (hN : N < a.tmps.size)
    (hy : (a.put (some N) (.pointer (some ⟨w.heap.size, 0, none⟩))).eval y = .agg (Mc k s nm b).toArray) (hn : nm.length = 32) (hb : b.oneCell' = true)
    (h : ∀ w1 g, NewBlk w w1 g (.cells (Mc k s nm b).toArray 66 (0, 0)) → wpList Tryd.prog ops Q rest ((a.put (some N) (.pointer (some ⟨g, 0, none⟩))).put o2.dst undef) w1) : wpList Tryd.prog ops Q (o1 :: o2 :: rest) a w := by
  obtain ⟨it, z, h1, h2, h3, h4⟩ := w_info
  exact new_var hg1 hg2 hd1 _ ho1 y ho2 hN hy h1 h2 (by rw [h4, Mc_len hn]) (by rw [h3, Mc_len hn]) (Mc_one hb) h
theorem st_there (hg : w.heap[g]? = some (.cells (Mc k s nm b).toArray T (0, 0))) (hn : nm.length = 32) (i : Nat) (hi : i < 35) : (∃ u, w.cell? ⟨g, i, none⟩ = some u) ∧ w.frozen? ⟨g, i, none⟩ = false :=
  ⟨⟨_, by rw [blk_cell hg, Array.getElem?_eq_getElem (show i < (Mc k s nm b).toArray.size by rw [List.size_toArray, Mc_len hn]; exact hi)]⟩, blk_frozen hg i⟩
theorem st_bs (hg : w.heap[g]? = some (.cells (Mc k s nm b).toArray T (0, 0))) (hn : nm.length = 32) (A : Option Addr) (n c : Nat) : (Instr.storeAt 37 (.pointer (some ⟨g, 34, none⟩)) (.slice A n c)).run Tryd.prog w = .ok () (w.setCell ⟨g, 34, none⟩ (.slice A n c)) := by
  obtain ⟨⟨u, hc⟩, hf⟩ := st_there hg hn 34 (by omega)
  clear hg
  go_simp
theorem store_f3b (hgd : o.guard = none) (x y : Operand) (ho : o.op = .store 37 x y) {A : Option Addr} {n c : Nat} (hx : a.eval x = .pointer (some ⟨g, 34, none⟩)) (hy : a.eval y = .slice A n c) (hg : w.heap[g]? = some (.cells (Mc k s nm b).toArray T (0, 0))) (hn : nm.length = 32)
    (h : ∀ w1, SetBlk w w1 g (.cells (Mc k s nm (.slice A n c)).toArray T (0, 0)) → wpList Tryd.prog ops Q rest (a.put o.dst undef) w1) : wpList Tryd.prog ops Q (o :: rest) a w :=
  store_arm hgd _ x y ho hx hy (st_bs hg hn A n c) (h _ (by have := setBlk_cell hg (.slice A n c) (i := 34); rwa [mc_set3 hn] at this))
end
end Go.Proofs.YtnkkjmbpopodlaaDoor
namespace Go.Proofs.YtnkkjmbpopodlaaDoor
open Go.RowKit Go.Proofs.YtnkkjmbpopodlaaDoorW.PrintWords Go.Proofs.YtnkkjmbpopodlaaDoorW.PrintMore
set_option linter.unusedVariables false
set_option linter.unusedSimpArgs false

theorem size_w {k s : Int} {nm : List Int} {b : Value} (hn : nm.length = 32) : (Tryd.prog.info? 66).map (·.size) = some (Mc k s nm b).length := by rw [Mc_len hn]; kernel_rfl
end Go.Proofs.YtnkkjmbpopodlaaDoor
namespace Go.Proofs.YtnkkjmbpopodlaaDoor
open Go.Proofs.YtnkkjmbpopodlaaDoorW.PrintLast (i64_w i32_w)
open Go.RowKit Go.Proofs.YtnkkjmbpopodlaaDoorW.PrintWords Go.Proofs.YtnkkjmbpopodlaaDoorW.PrintMore
set_option linter.unusedVariables false
set_option maxRecDepth 20000
set_option linter.unusedSimpArgs false

/-- A message's bytes, their check not yet among them. -/
def wbody (k s : Int) (nm body : List Int) : List Int := [k] ++ le32 s.toNat ++ nm ++ body
theorem wbody_bytes {k s : Int} {nm body : List Int} (hk0 : 0 ≤ k) (hk1 : k < 256) (hb : Bytes nm) (hx : Bytes body) : Bytes (wbody k s nm body) :=
  (((Bytes.one hk0 hk1).append (le32_bytes _)).append hb).append hx
theorem wbody_len {k s : Int} {nm body : List Int} (hn : nm.length = 32) : (wbody k s nm body).length = 37 + body.length := by
  simp [wbody, le32, hn]
  omega

/-- ref18.Bytes -/
theorem rbytes_calls (k s : Int) (nm : List Int) (b : ByteArray) (C : Array Value) (w : World) (hC : C = (Mc k s nm (.string b)).toArray) (hn : nm.length = 32) (hbn : Bytes nm) (hm : b.size ≤ 4294967296)
    (hk0 : 0 ≤ k) (hk1 : k < 256) (hs0 : 0 ≤ s) (hs1 : s < 4294967296) :
    Calls Tryd.prog 15 #[.agg C] w fun e w' => ∃ v, e = .returned v ∧ OwB w' w.heap.size v (cput (wbody k s nm (bytesOf b))) ∧ Below w.heap.size w w' := by
  have HF : Aside0 ((w.alloc (.cells C 48)).heap[w.heap.size]? = some (.cells (Mc k s nm (.string b)).toArray 48 (0, 0))) := ⟨by rw [← hC]; exact blk_new w (.cells C 48)⟩
  have HF1 : Aside0 (∀ o, ((w.alloc (.cells C 48)).alloc o).heap[w.heap.size]? = some (.cells (Mc k s nm (.string b)).toArray 48 (0, 0))) := ⟨fun o => by rw [← hC]; exact heap_alloc2_old w _ _⟩
  have HW0 : Aside0 (Below w.heap.size w (w.alloc (.cells C 48)) ∧ (w.alloc (.cells C 48)).heap.size = w.heap.size + 1) := ⟨⟨(Below.refl _ _).alloc (Nat.le_refl _) _, by simp⟩⟩
  clear hC
  have HN := Aside0.mk hn
  have HM := Aside0.mk hm
  have hm' : b.size ≤ 140737488355328 := by omega
  clear hn
  go_enter Tryd.func15, Tryd.ntmps15
  go_wp2_with (first
    | ((with_reducible refine at_ld 3 (.tmp 4) ?_); refine load_arm rfl 3 (.tmp 4) rfl rfl (ld_f0 HF.out HN.out) ?_; simp only [Act.put, List.setIfInBounds_toArray, List.set_cons_zero, List.set_cons_succ])
    | ((with_reducible refine at_ld 3 (.tmp 9) ?_); refine load_arm rfl 3 (.tmp 9) rfl rfl (ld_f1 (HF1.out _) HN.out) ?_; simp only [Act.put, List.setIfInBounds_toArray, List.set_cons_zero, List.set_cons_succ])
    | (go_at_call 36; refine (num01_calls s _ hs0 hs1).mono ?_; rintro e w1 ⟨B1, d1, rfl, hO1, hB1⟩)
    | (at_builtin; have q1 := OwB.below (own_litB (w.alloc (.cells C 48)) (w.heap.size + 1) [k] _ 1 rfl rfl (by simp) (by simp)) hB1; rw [HW0.out.2] at q1; refine appBs (w0 := w.alloc (.cells C 48)) (w.heap.size + 1) rfl (.tmp 8) (.tmp 11) rfl (.slice (some ⟨w.heap.size + 1, 0, none⟩) 1 1) [k] (le32 s.toNat) B1 4 d1 rfl rfl q1 (OwB.parts hO1).2 (((Below.refl _ _).alloc (by simp) _).trans (hB1.mono (by simp))) (by have := hB1.size; simp at this; omega) (by simp) ?_; intro v2 w2 hO2 hB2 _ _; have hs2 : w.heap.size + 1 ≤ w2.heap.size := by (have := hB2.size; simpa using this))
    | ((with_reducible refine at_ld 40 (.tmp 14) ?_); refine load_arm rfl 40 (.tmp 14) rfl rfl (ld_f2 ((hB2.block _ (by omega)).trans HF.out) HN.out) ?_; simp only [Act.put, List.setIfInBounds_toArray, List.set_cons_zero, List.set_cons_succ])
    | (go_at_call 39; refine (bytes32_calls nm _ _ rfl HN.out hbn).mono ?_; rintro e w3 ⟨v3, rfl, hO3, hB3⟩; obtain ⟨B3, d3, rfl, hc3, hr3⟩ := OwB.reads hO3)
    | (at_builtin; refine appBs (w0 := w.alloc (.cells C 48)) (w.heap.size + 1) rfl (.tmp 13) (.tmp 16) rfl v2 _ nm B3 _ _ rfl rfl (OwB.below hO2 hB3) hr3 (below_tr hB2 hB3 hs2) (by have := hB3.size; omega) (by simp [le32, HN.out]) ?_; intro v4 w4 hO4 hB4 _ _; have hs4 : w.heap.size + 1 ≤ w4.heap.size := by (have := hB4.size; simpa using this))
    | ((with_reducible refine at_ld 9 (.tmp 19) ?_); refine load_arm rfl 9 (.tmp 19) rfl rfl (ld_f3s ((hB4.block _ (by omega)).trans HF.out) HN.out) ?_; simp only [Act.put, List.setIfInBounds_toArray, List.set_cons_zero, List.set_cons_succ])
    | ((with_reducible refine at_cv 9 37 ?_); refine conv_new rfl _ rfl rfl hm' ?_; rintro g5 c5 w5 hR5 hc5 hg5 hB5)
    | (at_builtin; refine appBs (w0 := w.alloc (.cells C 48)) (w.heap.size + 1) rfl (.tmp 18) (.tmp 21) rfl v4 _ (bytesOf b) _ _ _ rfl rfl (OwB.below hO4 hB5) hR5 (below_tr hB4 hB5 hs4) (by have := hB5.size; omega) (by simp [le32, HN.out]; omega) ?_; intro v6 w6 hO6 hB6 _ _; obtain ⟨xs6, HX6, hO7⟩ : ∃ xs, Aside0 (xs = wbody k s nm (bytesOf b)) ∧ OwB w6 (w.heap.size + 1) v6 xs := ⟨_, ⟨rfl⟩, hO6⟩; clear hO6; obtain ⟨B6, d6, rfl, hc6, hr6⟩ := OwB.reads hO7)
    | (go_at_call 40; refine (rput_calls B6 _ d6 xs6 _ hr6 (by rw [HX6.out]; exact wbody_bytes hk0 hk1 hbn (bytesOf_bytes b)) (by rw [HX6.out, wbody_len HN.out, bytesOf_len]; omega)).mono ?_; rintro e w7 ⟨v7, rfl, hO8, hB7⟩))
  go_ret
  have hs6 : w.heap.size + 1 ≤ w6.heap.size := by have := hB6.size; simpa using this
  exact ⟨_, rfl, by rw [← HX6.out]; exact Kd.R_lower hO8 (by omega), (HW0.out.1.trans (hB6.mono (by omega))).trans (hB7.mono (by omega))⟩

/-- A message's name is read as a row. -/
theorem nm_read {W : World} {g T : Nat} {k s : Int} {nm : List Int} {b : Value} {fr : Nat × Nat} (h : W.heap[g]? = some (.cells (Mc k s nm b).toArray T fr)) (hn : nm.length = 32) : RdB W (some ⟨g, 2, none⟩) 32 nm := by
  refine Kd.C_of_reads (d := (0 : Int)) ⟨hn, by omega, fun _ => ⟨_, rfl, fun j hj => ?_⟩⟩
  have hr := (msg_cells h hn).2.2.2.1 j (.int .u8 (nm.getD j 0)) (by simp [Nm, List.getD_eq_getElem?_getD, List.getElem?_eq_getElem (show j < nm.length by omega)])
  rw [show (⟨g, 2, none⟩ : Addr).add j = ⟨g, 2 + j, none⟩ from by unfold Addr.add; split <;> simp_all]
  exact hr

/-- What Write's buffer holds behind its loop's rounds. -/
def wbuf (k s : Int) (n j : Nat) : List Int := [k] ++ (le32 s.toNat).take j ++ List.replicate (36 + n - j) 0
theorem wbuf_len (k s : Int) (n j : Nat) (h : j ≤ 4) : (wbuf k s n j).length = 37 + n := by
  simp [wbuf, le32]
  omega
theorem wbuf_set (k s : Int) (n j : Nat) (h : j < 4) : (wbuf k s n j).set (j + 1) (rd (le32 s.toNat) j) = wbuf k s n (j + 1) := by
  unfold wbuf
  rw [take_snoc (by simp [le32]; omega), List.append_assoc, List.append_assoc, List.append_assoc, List.set_append_right _ _ (by simp), List.set_append_right _ _ (by simp [le32]; omega)]
  congr 2
  rw [show j + 1 - [k].length - (List.take j (le32 s.toNat)).length = 0 by simp [le32]; omega, show 36 + n - j = (36 + n - (j + 1)) + 1 by omega, List.replicate_succ, List.set_cons_zero]
  rfl
theorem wbuf_over (k s : Int) (n : Nat) (nm body : List Int) (hn : nm.length = 32) (hb : body.length = n) : over (over (wbuf k s n 4) nm 5) body 37 = wbody k s nm body := by
  have h4 : (le32 s.toNat).take 4 = le32 s.toNat := rfl
  have e1 : over (wbuf k s n 4) nm 5 = [k] ++ le32 s.toNat ++ nm ++ List.replicate n 0 := by
    unfold over wbuf
    rw [h4, List.take_left' (by simp [le32]), ← List.drop_drop, List.drop_left' (by simp [le32]), hn, List.drop_replicate, show 36 + n - 4 - 32 = n by omega]
  rw [e1]
  unfold over wbody
  rw [List.take_left' (by simp [le32, hn]), List.drop_of_length_le (by simp [le32, hn, hb]; omega), List.append_nil]

set_option maxHeartbeats 1600000 in
/-- wire.Write -/
theorem wwrite_calls (k s : Int) (nm : List Int) (A : Option Addr) (n c : Nat) (body : List Int) (C : Array Value) (w : World) (hC : C = (Mc k s nm (.slice A n c)).toArray) (hn : nm.length = 32) (hbn : Bytes nm) (hx : RdB w A n body) (hbb : Bytes body) (hm : n ≤ 4294967296) :
    Calls Tryd.prog 83 #[.agg C] w fun e w' => ∃ v, e = .returned (.tuple #[v, .int .i64 (if mayB k s n then 0 else 1)]) ∧ OwB w' w.heap.size v (if mayB k s n then cput (wbody k s nm body) else []) ∧ Below w.heap.size w w' := by
  have HF : Aside0 ((w.alloc (.cells C 66)).heap[w.heap.size]? = some (.cells (Mc k s nm (.slice A n c)).toArray 66 (0, 0))) := ⟨by rw [← hC]; exact blk_new w (.cells C 66)⟩
  have HW0 : Aside0 (Below w.heap.size w (w.alloc (.cells C 66)) ∧ (w.alloc (.cells C 66)).heap.size = w.heap.size + 1) := ⟨⟨(Below.refl _ _).alloc (Nat.le_refl _) _, by simp⟩⟩
  have HX := Aside0.mk hx
  have HN := Aside0.mk hn
  clear hC hn hx
  rcases hmay : mayB k s n with _ | _
  · have HM := Aside0.mk hmay
    clear hmay
    go_enter Tryd.func83, Tryd.ntmps83
    go_wp2_with (first
      | ((with_reducible refine at_ld 66 (.tmp 1) ?_); refine load_arm rfl 66 (.tmp 1) rfl rfl (ld_w HF.out HN.out) ?_; simp only [Act.put, List.setIfInBounds_toArray, List.set_cons_zero, List.set_cons_succ])
      | (go_at_call 58; refine (wmay_calls k s nm A n c _ _ rfl HN.out (by omega)).mono ?_; rw [HM.out]; rintro e w1 ⟨rfl, hB1⟩))
    go_ret2
    exact ⟨_, rfl, Kd.R_nil _ _ _ _ _, HW0.out.1.trans (hB1.mono (by rw [HW0.out.2]; omega))⟩
  · have HM := Aside0.mk hmay
    have hmm : 1 ≤ k ∧ k ≤ 3 ∧ 0 ≤ s ∧ s ≤ 4294967295 := by
      unfold mayB at hmay
      rw [decide_eq_true_iff] at hmay
      omega
    obtain ⟨hk0, hk1, hs0, hs1⟩ := hmm
    clear hmay
    go_enter Tryd.func83, Tryd.ntmps83
    go_wp2_with (first
      | ((with_reducible refine at_ld 66 (.tmp 1) ?_); refine load_arm rfl 66 (.tmp 1) rfl rfl (ld_w HF.out HN.out) ?_; simp only [Act.put, List.setIfInBounds_toArray, List.set_cons_zero, List.set_cons_succ])
      | (go_at_call 58; refine (wmay_calls k s nm A n c _ _ rfl HN.out (by omega)).mono ?_; rw [HM.out]; rintro e w1 ⟨rfl, hB1⟩; rw [HW0.out.2] at hB1)
      | ((with_reducible refine at_ld 37 (.tmp 9) ?_); refine load_arm rfl 37 (.tmp 9) rfl rfl (ld_f3b ((hB1.block _ (by omega)).trans HF.out) HN.out) ?_; simp only [Act.put, List.setIfInBounds_toArray, List.set_cons_zero, List.set_cons_succ])
      | (refine makeB (w0 := w.alloc (.cells C 66)) (w.heap.size + 1) rfl rfl (.tmp 12) (.tmp 12) rfl (37 + (n : Int)) rfl rfl (by omega) (by omega) hB1 (by have := hB1.size; rw [HW0.out.2] at this; exact this) ?_; intro v2 w2 hO2 hB2; obtain ⟨xs2, HX2, hO3⟩ : ∃ xs, Aside0 (xs = List.replicate (37 + (n : Int)).toNat 0) ∧ OwB w2 (w.heap.size + 1) v2 xs := ⟨_, ⟨rfl⟩, hO2⟩; clear hO2; have hl2 : xs2.length = 37 + n := (by rw [HX2.out, List.length_replicate]; omega); obtain ⟨g, cap, hv2, hg, hg'⟩ := OwB.place hO3 (by omega); subst hv2; obtain ⟨hc0, hf0⟩ := OwB.cell hO3 0 (by omega) (by omega); simp only [Int.toNat_zero] at hc0 hf0)
      | ((with_reducible refine at_ld 3 (.tmp 15) ?_); refine load_arm rfl 3 (.tmp 15) rfl rfl (ld_f0 ((hB2.block _ (by omega)).trans HF.out) HN.out) ?_; simp only [Act.put, List.setIfInBounds_toArray, List.set_cons_zero, List.set_cons_succ]))
    have hB3 : Aside0 (Below (w.heap.size + 1) (w.alloc (.cells C 66)) (w2.setCell ⟨g, 0, none⟩ (.int .u8 k))) := ⟨hB2.setCell hg _⟩
    have hO4 : Aside0 (OwB (w2.setCell ⟨g, 0, none⟩ (.int .u8 k)) (w.heap.size + 1) (.slice (some ⟨g, 0, none⟩) (37 + n) cap) (wbuf k s n 0)) := ⟨by
      have h := OwB.store hO3 0 k
      rw [Int.toNat_zero, hl2, HX2.out] at h
      have e : (List.replicate (37 + (n : Int)).toNat (0 : Int)).set 0 k = wbuf k s n 0 := by
        rw [show (37 + (n : Int)).toNat = (36 + n) + 1 by omega, List.replicate_succ, List.set_cons_zero]
        simp [wbuf]
      rw [e] at h
      exact h⟩
    clear hO3 hB2 hB1 hc0 hf0 hl2 HX2
    go_loopw [5, 19] (fun _ i wr => ∃ j : Nat, j ≤ 4 ∧ i = .int .i64 j ∧ OwB wr (w.heap.size + 1) (.slice (some ⟨g, 0, none⟩) (37 + n) cap) (wbuf k s n j) ∧ Below (w.heap.size + 1) (w.alloc (.cells C 66)) wr) (fun _ i _ => 4 - (intOf i).toNat)
    case atStart => exact ⟨0, by omega, rfl, hO4.out, hB3.out⟩
    case round =>
      obtain ⟨j, hj, rfl, hO, hB⟩ := hrel
      have HO := Aside0.mk hO
      have HB := Aside0.mk hB
      by_cases hlt : j < 4
      · obtain ⟨hc1, hf1⟩ := Kd.R_celln (0 : Int) hO ((j + 1 : Nat) : Int) (by omega) (by omega)
        rw [Int.toNat_natCast] at hc1 hf1
        clear hO hB hO4 hB3
        obtain ⟨x, hx⟩ : ∃ x, x = rd (le32 s.toNat) j := ⟨_, rfl⟩
        have HS : Aside0 (∀ y, y = x → OwB (wr.setCell ⟨g, j + 1, none⟩ (.int .u8 y)) (w.heap.size + 1) (.slice (some ⟨g, 0, none⟩) (37 + n) cap) (wbuf k s n (j + 1))) := ⟨by
          rintro y rfl
          have h := Kd.R_putn (enc := Value.int .u8) HO.out ((j + 1 : Nat) : Int) y
          rw [Int.toNat_natCast, hx, wbuf_set k s n j hlt] at h
          rw [hx]
          exact h⟩
        have HBS : Aside0 (∀ y, Below (w.heap.size + 1) (w.alloc (.cells C 66)) (wr.setCell ⟨g, j + 1, none⟩ y)) := ⟨fun y => HB.out.setCell hg y⟩
        obtain rfl | rfl | rfl | rfl : j = 0 ∨ j = 1 ∨ j = 2 ∨ j = 3 := by omega
        all_goals
          simp only [rd, le32] at hx
          have HX0 := Aside0.mk hx
          clear hx hlt hj
          go_wp2_with ((with_reducible refine at_ld 3 (.tmp 25) ?_); refine load_arm rfl 3 (.tmp 25) rfl rfl (ld_f1 ((HB.out.block _ (by omega)).trans HF.out) HN.out) ?_; simp only [Act.put, List.setIfInBounds_toArray, List.set_cons_zero, List.set_cons_succ])
          go_roundw
          case rel =>
            refine ⟨_, ?_, ?_, HS.out _ (by rw [HX0.out]; simp; omega), HBS.out _⟩
            · decide
            · rfl
          case measure => simp [intOf]
      · obtain rfl : j = 4 := by omega
        clear hO hB hO4 hB3
        have hbuf := wbuf_len k s n 4 (by omega)
        go_wp2
        have HO1 := OwB.below HO.out (Below.drew (Below.refl _ wr))
        have HB1 := Below.drew HB.out
        have HFd : wr.drew.heap[w.heap.size]? = some (.cells (Mc k s nm (.slice A n c)).toArray 66 (0, 0)) := (HB1.block _ (by omega)).trans HF.out
        obtain ⟨D5, hD5, hcut5⟩ := cut_own HO1 5 (by omega)
        obtain ⟨w3, hr3, HO3, HB3⟩ := copy_bytes' HO1 HB1 5 HN.out (by omega) D5 (fun _ => hD5 (by omega)) (37 + n - 5) (cap - 5) (by omega) (some ⟨w.heap.size, 2, none⟩) 32 (nm_read HFd HN.out) 3
        refine seq_start [4] (.take 0 (.take 1 (.take 2 (.take 3 (.run 4 .done))))) (by kernel_rfl) (by kernel_rfl) (fun _ _ d _ _ h => by cases d <;> exact h) ?_
        refine seq_take (v := ?_) (a' := ?_) rfl rfl (by rfl) (fun w' hw' => ?_) ?_ ?_
        rotate_left 2
        · go_simp
          with_reducible rfl
        · simp only [Act.put, List.setIfInBounds_toArray, List.set_cons_zero, List.set_cons_succ, i64_w, i32_w]
          rfl
        refine seq_take (v := _) (a' := ?_) rfl rfl (by rfl) (fun w' hw' => slice_from_run Tryd.underlying37 (.tmp 33) (.const (.int .i64 5)) rfl rfl rfl (hcut5 _ 5 rfl)) ?_ ?_
        rotate_left
        · simp only [Act.put, List.setIfInBounds_toArray, List.set_cons_zero, List.set_cons_succ, i64_w, i32_w]
          rfl
        refine seq_take (v := ?_) (a' := ?_) rfl rfl (by rfl) (fun w' hw' => ?_) ?_ ?_
        rotate_left 2
        · go_simp
          with_reducible rfl
        · simp only [Act.put, List.setIfInBounds_toArray, List.set_cons_zero, List.set_cons_succ, i64_w, i32_w]
          rfl
        refine seq_take (v := ?_) (a' := ?_) rfl rfl (by rfl) (fun w' hw' => ?_) ?_ ?_
        rotate_left 2
        · go_simp
          with_reducible rfl
        · simp only [Act.put, List.setIfInBounds_toArray, List.set_cons_zero, List.set_cons_succ, i64_w, i32_w]
          rfl
        refine seq_run ?_
        refine do_val (v := _) (a' := ?_) (w1 := _) rfl rfl (by rfl) (copy_exec _ _ _ _ rfl rfl rfl hr3) ?_ ?_
        rotate_left
        · simp only [Act.put, List.setIfInBounds_toArray, List.set_cons_zero, List.set_cons_succ, i64_w, i32_w]
          rfl
        refine ⟨fun h => absurd (by simp) h, ?_⟩
        refine seq_end ?_
        clear hr3 hcut5 hD5 HB1 HO1
        go_wp2
        have HO2 := OwB.below HO3 (Below.drew (Below.refl _ w3))
        have HB2 := Below.drew HB3
        have HFd2 : w3.drew.heap[w.heap.size]? = some (.cells (Mc k s nm (.slice A n c)).toArray 66 (0, 0)) := (HB2.block _ (by omega)).trans HF.out
        have hlb := HX.out.1
        obtain ⟨D6, hD6, hcut6⟩ := cut_own HO2 37 (by omega)
        obtain ⟨w4, hr4, HO4, HB4⟩ := copy_bytes' HO2 HB2 37 hlb (by omega) D6 (fun h => hD6 (by omega)) (37 + n - 37) (cap - 37) (by omega) A c (Kd.C_below (Kd.C_below HX.out HW0.out.1) (HB2.mono (by rw [HW0.out.2]; omega))) 3
        refine seq_start [4] (.take 0 (.take 1 (.take 2 (.take 3 (.run 4 .done))))) (by kernel_rfl) (by kernel_rfl) (fun _ _ d _ _ h => by cases d <;> exact h) ?_
        refine seq_take (v := ?_) (a' := ?_) rfl rfl (by rfl) (fun w' hw' => ?_) ?_ ?_
        rotate_left 2
        · go_simp
          with_reducible rfl
        · simp only [Act.put, List.setIfInBounds_toArray, List.set_cons_zero, List.set_cons_succ, i64_w, i32_w]
          rfl
        refine seq_take (v := _) (a' := ?_) rfl rfl (by rfl) (fun w' hw' => slice_from_run Tryd.underlying37 (.tmp 38) (.const (.int .i64 37)) rfl rfl rfl (hcut6 _ 37 rfl)) ?_ ?_
        rotate_left
        · simp only [Act.put, List.setIfInBounds_toArray, List.set_cons_zero, List.set_cons_succ, i64_w, i32_w]
          rfl
        refine seq_take (v := ?_) (a' := ?_) rfl rfl (by rfl) (fun w' hw' => ?_) ?_ ?_
        rotate_left 2
        · go_simp
          with_reducible rfl
        · simp only [Act.put, List.setIfInBounds_toArray, List.set_cons_zero, List.set_cons_succ, i64_w, i32_w]
          rfl
        refine seq_take (v := _) (a' := ?_) rfl rfl (by rfl) (fun w' hw' => load_run rfl (p := .pointer (some ⟨w.heap.size, 34, none⟩)) rfl (ld_f3b (hw'.heap HFd2) HN.out)) ?_ ?_
        rotate_left
        · simp only [Act.put, List.setIfInBounds_toArray, List.set_cons_zero, List.set_cons_succ, i64_w, i32_w]
          rfl
        refine seq_run ?_
        refine do_val (v := _) (a' := ?_) (w1 := _) rfl rfl (by rfl) (copy_exec _ _ _ _ rfl rfl rfl hr4) ?_ ?_
        rotate_left
        · simp only [Act.put, List.setIfInBounds_toArray, List.set_cons_zero, List.set_cons_succ, i64_w, i32_w]
          rfl
        refine ⟨fun h => absurd (by simp) h, ?_⟩
        refine seq_end ?_
        clear hr4 hcut6 hD6 HB2 HO2
        obtain ⟨xs7, HX7, HO7⟩ : ∃ xs, Aside0 (xs = wbody k s nm body) ∧ OwB w4 (w.heap.size + 1) (.slice (some ⟨g, 0, none⟩) (37 + n) cap) xs := ⟨_, ⟨rfl⟩, by rw [← wbuf_over k s n nm body HN.out hlb]; exact HO4⟩
        clear HO4
        have hr7 := (OwB.parts HO7).2
        have HR7 := Aside0.mk hr7
        clear hr7
        go_wp2_with (go_at_call 89; refine (put_calls (some ⟨g, 0, none⟩) (37 + n) cap xs7 _ HR7.out (by rw [HX7.out]; exact wbody_bytes (by omega) (by omega) hbn hbb) (by omega)).mono ?_; rintro e w5 ⟨v5, rfl, hO5, hB5⟩)
        go_ret2
        refine ⟨_, rfl, ?_, ?_⟩
        · rw [← HX7.out]
          exact Kd.R_lower hO5 (by have := HB4.size; rw [HW0.out.2] at this; omega)
        · exact (HW0.out.1.trans (HB4.mono (by omega))).trans (hB5.mono (by have := HB4.size; rw [HW0.out.2] at this; omega))
end Go.Proofs.YtnkkjmbpopodlaaDoor
