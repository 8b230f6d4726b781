/- Plain lemmas and contracts, several texts in one: Idx0, Idx1, Idx2, Idx3. Conditions: their own. -/
import Derived.Test.YtdfahblgnbdndaaDoorG9
import Derived.Test.YtdfahblgnbdndaaDoorNum2
import Derived.Deep.CutBlock
namespace Go.Proofs.YtdfahblgnbdndaaDoor
open Go.RowKit Go.Proofs.YtdfahblgnbdndaaDoorW.PrintWords Go.Proofs.YtdfahblgnbdndaaDoorW.PrintMore
set_option linter.unusedVariables false
set_option linter.unusedSimpArgs false
set_option maxRecDepth 100000
/-- An index's cells: its parameters, its image's digest, its items. -/
def Xc (a b c : Int) (im : List Int) (v : Value) : List Value := .int .i64 a :: .int .i64 b :: .int .i64 c :: (Nm im ++ [v])
theorem Xc_len {a b c : Int} {im : List Int} {v : Value} (h : im.length = 32) : (Xc a b c im v).length = 36 := by simp [Xc, Nm_len, h]
theorem Xc_one {a b c : Int} {im : List Int} {v : Value} (hv : v.oneCell' = true) : ∀ u ∈ Xc a b c im v, u.oneCell' = true := by
  intro u hu
  unfold Xc at hu
  simp only [List.mem_cons, List.mem_append, List.not_mem_nil, or_false] at hu
  rcases hu with rfl | rfl | rfl | hu | rfl
  · rfl
  · rfl
  · rfl
  · exact Nm_one _ u hu
  · exact hv
theorem Xc_at {a b c : Int} {im : List Int} {v : Value} (h : im.length = 32) : (Xc a b c im v)[0]? = some (.int .i64 a) ∧ (Xc a b c im v)[1]? = some (.int .i64 b) ∧ (Xc a b c im v)[2]? = some (.int .i64 c) ∧ (Xc a b c im v)[35]? = some v ∧ ∀ j u, (Nm im)[j]? = some u → (Xc a b c im v)[3 + j]? = some u := by
  refine ⟨rfl, rfl, rfl, ?_, fun j u hu => ?_⟩
  · show ((Nm im ++ [v])[32]? : Option Value) = some v
    rw [List.getElem?_append_right (by simp [Nm_len, h])]
    simp [Nm_len, h]
  · rw [Nat.add_comm 3 j]
    show ((Nm im ++ [v])[j]? : Option Value) = some u
    rw [List.getElem?_append_left (List.getElem?_eq_some_iff.1 hu).1]
    exact hu
theorem x_cells {w : World} {g T : Nat} {a b c : Int} {im : List Int} {v : Value} {fr : Nat × Nat} (h : w.heap[g]? = some (.cells (Xc a b c im v).toArray T fr)) (hn : im.length = 32) :
    w.cell? ⟨g, 0, none⟩ = some (.int .i64 a) ∧ w.cell? ⟨g, 1, none⟩ = some (.int .i64 b) ∧ w.cell? ⟨g, 2, none⟩ = some (.int .i64 c) ∧ w.cell? ⟨g, 35, none⟩ = some v ∧ w.rangeAt g 3 (Nm im) := by
  have hc := fun j => cell_of_row w g j _ T fr h
  obtain ⟨h0, h1, h2, h3, h4⟩ := Xc_at (a := a) (b := b) (c := c) (v := v) hn
  exact ⟨by rw [hc, List.getElem?_toArray]; exact h0, by rw [hc, List.getElem?_toArray]; exact h1, by rw [hc, List.getElem?_toArray]; exact h2, by rw [hc, List.getElem?_toArray]; exact h3, fun j u hu => by rw [hc, List.getElem?_toArray]; exact h4 j u hu⟩
theorem size_X {a b c : Int} {im : List Int} {v : Value} (h : im.length = 32) : (Tryd.prog.info? 29).map (·.size) = some (Xc a b c im v).length := by rw [Xc_len h]; kernel_rfl
theorem size_RX {a b c : Int} {im : List Int} {v : Value} (h : im.length = 32) : (Tryd.prog.info? 38).map (·.size) = some (Xc a b c im v).length := by rw [Xc_len h]; kernel_rfl
def Z32 : List Int := List.replicate 32 0
theorem Z32_len : Z32.length = 32 := by simp [Z32]
theorem built_x3 (a b c : Int) (im : List Int) (A : Option Addr) (n cp : Nat) (hn : im.length = 32) : Tryd.prog.built 29 [(0, .agg #[.int .i64 a, .int .i64 b, .int .i64 c]), (1, .agg (Nm im).toArray), (2, .slice A n cp)] = some (Xc a b c im (.slice A n cp)).toArray := by
  obtain ⟨x0, x1, x2, x3, x4, x5, x6, x7, x8, x9, x10, x11, x12, x13, x14, x15, x16, x17, x18, x19, x20, x21, x22, x23, x24, x25, x26, x27, x28, x29, x30, x31, rfl⟩ := l32 im hn
  kernel_rfl
theorem built_rx3 (a b c : Int) (im : List Int) (A : Option Addr) (n cp : Nat) (hn : im.length = 32) : Tryd.prog.built 38 [(0, .agg #[.int .i64 a, .int .i64 b, .int .i64 c]), (1, .agg (Nm im).toArray), (2, .slice A n cp)] = some (Xc a b c im (.slice A n cp)).toArray := by
  obtain ⟨x0, x1, x2, x3, x4, x5, x6, x7, x8, x9, x10, x11, x12, x13, x14, x15, x16, x17, x18, x19, x20, x21, x22, x23, x24, x25, x26, x27, x28, x29, x30, x31, rfl⟩ := l32 im hn
  kernel_rfl
theorem built_rx2 (a b c : Int) (im : List Int) (hn : im.length = 32) : Tryd.prog.built 38 [(0, .agg #[.int .i64 a, .int .i64 b, .int .i64 c]), (1, .agg (Nm im).toArray)] = some (Xc a b c im (.slice none 0 0)).toArray := by
  obtain ⟨x0, x1, x2, x3, x4, x5, x6, x7, x8, x9, x10, x11, x12, x13, x14, x15, x16, x17, x18, x19, x20, x21, x22, x23, x24, x25, x26, x27, x28, x29, x30, x31, rfl⟩ := l32 im hn
  kernel_rfl
theorem built_x2 (a b c : Int) (im : List Int) (hn : im.length = 32) : Tryd.prog.built 29 [(0, .agg #[.int .i64 a, .int .i64 b, .int .i64 c]), (1, .agg (Nm im).toArray)] = some (Xc a b c im (.slice none 0 0)).toArray := by
  obtain ⟨x0, x1, x2, x3, x4, x5, x6, x7, x8, x9, x10, x11, x12, x13, x14, x15, x16, x17, x18, x19, x20, x21, x22, x23, x24, x25, x26, x27, x28, x29, x30, x31, rfl⟩ := l32 im hn
  kernel_rfl
theorem built_x0 : Tryd.prog.built 29 [] = some (Xc 0 0 0 Z32 (.slice none 0 0)).toArray := by kernel_rfl
theorem built_rx0 : Tryd.prog.built 38 [] = some (Xc 0 0 0 Z32 (.slice none 0 0)).toArray := by kernel_rfl
def P3 (a b c : Int) : List Value := [.int .i64 a, .int .i64 b, .int .i64 c]
theorem p3_size (a b c : Int) : (Tryd.prog.info? 24).map (·.size) = some (P3 a b c).length := by kernel_rfl
/-- The parameters, the digest of one in memory. -/
theorem x_params {w : World} {g T : Nat} {a b c : Int} {im : List Int} {v : Value} {fr : Nat × Nat} (h : w.heap[g]? = some (.cells (Xc a b c im v).toArray T fr)) : (Instr.loadAt 24 (.pointer (some ⟨g, 0, none⟩))).run Tryd.prog w = .ok (.agg #[.int .i64 a, .int .i64 b, .int .i64 c]) w := by
  refine run_loadAt_mid w g 0 24 (P3 a b c) _ (fun j u hu => ?_) Tryd.underlying24 rfl (p3_size a b c)
  rw [cell_of_row w g (0 + j) _ T fr h, Nat.zero_add, List.getElem?_toArray]
  match j, hu with
  | 0, hu => exact hu
  | 1, hu => exact hu
  | 2, hu => exact hu
theorem x_dig {w : World} {g T : Nat} {a b c : Int} {im : List Int} {v : Value} {fr : Nat × Nat} (h : w.heap[g]? = some (.cells (Xc a b c im v).toArray T fr)) (hn : im.length = 32) : (Instr.loadAt 26 (.pointer (some ⟨g, 3, none⟩))).run Tryd.prog w = .ok (.agg (Nm im).toArray) w :=
  run_loadAt_mid w g 3 26 (Nm im) _ (x_cells h hn).2.2.2.2 Tryd.underlying26 rfl (size_d im hn)
/-- The sum of sizes. -/
def tot (its : List Itm) : Int := (its.map (·.2)).foldl (· + ·) 0
theorem foldl_add (l : List Int) (x : Int) : l.foldl (· + ·) x = x + l.foldl (· + ·) 0 := by
  induction l generalizing x with
  | nil => simp
  | cons y l ih => rw [List.foldl_cons, ih, List.foldl_cons, ih (0 + y)]; omega
theorem tot_nil : tot [] = 0 := rfl
theorem tot_snoc (its : List Itm) (x : Itm) : tot (its ++ [x]) = tot its + x.2 := by
  unfold tot
  rw [List.map_append, List.foldl_append]
  rfl
theorem tot_cons (its : List Itm) (x : Itm) : tot (x :: its) = x.2 + tot its := by
  unfold tot
  rw [List.map_cons, List.foldl_cons, foldl_add]
  omega
theorem tot_take {its : List Itm} {k : Nat} (h : k < its.length) : tot (its.take (k + 1)) = tot (its.take k) + (its.getD k ([], 0)).2 := by
  have e : its.take (k + 1) = its.take k ++ [its.getD k ([], 0)] := by
    rw [List.take_add_one, List.getD_eq_getElem?_getD, List.getElem?_eq_getElem h]; rfl
  rw [e, tot_snoc]
end Go.Proofs.YtdfahblgnbdndaaDoor
namespace Go.Proofs.YtdfahblgnbdndaaDoor
open Go.RowKit Go.Proofs.YtdfahblgnbdndaaDoorW.PrintWords Go.Proofs.YtdfahblgnbdndaaDoorW.PrintMore
set_option linter.unusedVariables false
set_option linter.unusedSimpArgs false
theorem infoX : (Tryd.prog.info? 29).map (fun i => (i.zero, i.size, i.bytes)) = some (some (.agg (Xc 0 0 0 Z32 (.slice none 0 0)).toArray), 36, 80) := by kernel_rfl
theorem infoRX : (Tryd.prog.info? 38).map (fun i => (i.zero, i.size, i.bytes)) = some (some (.agg (Xc 0 0 0 Z32 (.slice none 0 0)).toArray), 36, 80) := by kernel_rfl
section
variable {ops : Array Oper} {rest : List Oper} {o : Oper} {a : Act} {Q : Exit → Act → World → Prop} {w : World}
theorem new_it {o1 o2 : Oper} {N : Tmp} (hg1 : o1.guard = none) (hg2 : o2.guard = none) (hd1 : o1.dst = some N) (ho1 : o1.op = .alloc 41) (y : Operand) (ho2 : o2.op = .store 41 (.tmp N) y) (hN : N < a.tmps.size) {x : Itm}
    (hy : (a.put (some N) (.pointer (some ⟨w.heap.size, 0, none⟩))).eval y = .agg (icells x).toArray) (hn : x.1.length = 32)
    (h : ∀ w1 g, NewBlk w w1 g (.cells (icells x).toArray 41 (0, 0)) → wpList Tryd.prog ops Q rest ((a.put (some N) (.pointer (some ⟨g, 0, none⟩))).put o2.dst undef) w1) : wpList Tryd.prog ops Q (o1 :: o2 :: rest) a w := by
  obtain ⟨it, hi, hz, hs, _⟩ := info_parts infoI
  exact new_var hg1 hg2 hd1 _ ho1 y ho2 hN hy hi hz (by rw [zI_size, icells_len hn]) (by rw [hs, icells_len hn]) (icells_one x) h
theorem new_x {o1 o2 : Oper} {N : Tmp} {p q r : Int} {im : List Int} {v : Value} (hg1 : o1.guard = none) (hg2 : o2.guard = none) (hd1 : o1.dst = some N) (ho1 : o1.op = .alloc 29) (y : Operand) (ho2 : o2.op = .store 29 (.tmp N) y) (hN : N < a.tmps.size)
    (hy : (a.put (some N) (.pointer (some ⟨w.heap.size, 0, none⟩))).eval y = .agg (Xc p q r im v).toArray) (hn : im.length = 32) (hv : v.oneCell' = true)
    (h : ∀ w1 g, NewBlk w w1 g (.cells (Xc p q r im v).toArray 29 (0, 0)) → wpList Tryd.prog ops Q rest ((a.put (some N) (.pointer (some ⟨g, 0, none⟩))).put o2.dst undef) w1) : wpList Tryd.prog ops Q (o1 :: o2 :: rest) a w := by
  obtain ⟨it, hi, hz, hs, _⟩ := info_parts infoX
  exact new_var hg1 hg2 hd1 _ ho1 y ho2 hN hy hi hz (by rw [Xc_len hn]; exact Xc_len Z32_len) (by rw [hs, Xc_len hn]) (Xc_one hv) h
theorem new_rx {o1 o2 : Oper} {N : Tmp} {p q r : Int} {im : List Int} {v : Value} (hg1 : o1.guard = none) (hg2 : o2.guard = none) (hd1 : o1.dst = some N) (ho1 : o1.op = .alloc 38) (y : Operand) (ho2 : o2.op = .store 38 (.tmp N) y) (hN : N < a.tmps.size)
    (hy : (a.put (some N) (.pointer (some ⟨w.heap.size, 0, none⟩))).eval y = .agg (Xc p q r im v).toArray) (hn : im.length = 32) (hv : v.oneCell' = true)
    (h : ∀ w1 g, NewBlk w w1 g (.cells (Xc p q r im v).toArray 38 (0, 0)) → wpList Tryd.prog ops Q rest ((a.put (some N) (.pointer (some ⟨g, 0, none⟩))).put o2.dst undef) w1) : wpList Tryd.prog ops Q (o1 :: o2 :: rest) a w := by
  obtain ⟨it, hi, hz, hs, _⟩ := info_parts infoRX
  exact new_var hg1 hg2 hd1 _ ho1 y ho2 hN hy hi hz (by rw [Xc_len hn]; exact Xc_len Z32_len) (by rw [hs, Xc_len hn]) (Xc_one hv) h
end
theorem it_cells {w : World} {g T : Nat} {x : Itm} {fr : Nat × Nat} (h : w.heap[g]? = some (.cells (icells x).toArray T fr)) (hn : x.1.length = 32) : w.cell? ⟨g, 32, none⟩ = some (.int .i64 x.2) ∧ w.rangeAt g 0 (Nm x.1) := by
  have hc := fun j => cell_of_row w g j _ T fr h
  refine ⟨by rw [hc]; exact it_last hn, fun j u hu => ?_⟩
  rw [hc, Nat.zero_add, List.getElem?_toArray]
  unfold icells
  rw [List.getElem?_append_left (List.getElem?_eq_some_iff.1 hu).1]
  exact hu
theorem ic_last {x : Itm} (hn : x.1.length = 32) : (icells x)[32]? = some (.int .i64 x.2) := by
  have := it_last hn
  rwa [List.getElem?_toArray] at this
theorem ic_name {x : Itm} (hn : x.1.length = 32) (j : Nat) (u : Value) (h : (Nm x.1)[j]? = some u) : (icells x)[j]? = some u := by
  unfold icells
  rw [List.getElem?_append_left (List.getElem?_eq_some_iff.1 h).1]
  exact h
/-- The size of an element that is read. -/
theorem elem_size {w : World} {ad : Addr} {k : Nat} {x : Itm} (hn : x.1.length = 32) (h : ∀ j u, (icells x)[j]? = some u → w.cell? (ad.add (k + j)) = some u) : w.cell? ⟨(ad.add k).block, (ad.add k).off + 32, none⟩ = some (.int .i64 x.2) := by
  have := h 32 _ (ic_last hn)
  rwa [add_field _ _ _ (by omega)] at this
def szs (its : List Itm) (m : Int) : Prop := ∀ k, k < its.length → 0 ≤ (its.getD k ([], 0)).2 ∧ (its.getD k ([], 0)).2 ≤ m
theorem tot_range {its : List Itm} {m : Int} (h : szs its m) (k : Nat) (hk : k ≤ its.length) : 0 ≤ tot (its.take k) ∧ tot (its.take k) ≤ k * m := by
  induction k with
  | zero => simp [tot_nil]
  | succ k ih =>
    have h1 := ih (by omega)
    have h2 := h k (by omega)
    rw [tot_take (by omega)]
    rw [Int.natCast_add, Int.add_mul]
    omega
set_option maxRecDepth 20000 in
set_option maxHeartbeats 1600000 in
theorem itotal_calls (a b c : Int) (im : List Int) (A : Option Addr) (n cp : Nat) (its : List Itm) (C : Array Value) (w : World) (hC : C = (Xc a b c im (.slice A n cp)).toArray) (hn : im.length = 32) (h : RdI w A n its) (hs : szs its 1048576) (hl : n ≤ 1048576) :
    Calls Tryd.prog 12 #[.agg C] w fun e w' => e = .returned (.int .i64 (tot its)) ∧ Below w.heap.size w w' := by
  obtain rfl : its.length = n := h.1
  have HX := Aside0.mk h
  have HS := Aside0.mk hs
  have HR := Aside0.mk (tot_range hs)
  have hc35 : (w.alloc (.cells C 29)).cell? ⟨w.heap.size, 35, none⟩ = some (.slice A its.length cp) := (x_cells (by rw [hC]; exact blk_new w _) hn).2.2.2.1
  clear hC h hs
  go_enter Tryd.func12, Tryd.ntmps12
  go_wp2
  obtain ⟨w1, hw1⟩ : ∃ w1, w1 = w.alloc (.cells C 29) := ⟨_, rfl⟩
  have L1 : Aside0 (Below w.heap.size w w1) := ⟨by rw [hw1]; exact below_alloc (Below.refl _ _) _⟩
  rw [← hw1]
  clear hw1 hc35
  go_loopw [3, 5, 9] (fun s _ i wr => ∃ k : Nat, k ≤ its.length ∧ i = .int .i64 k ∧ s = .int .i64 (tot (its.take k)) ∧ Below w.heap.size w wr) (fun _ _ i _ => its.length - (intOf i).toNat)
  case atStart => exact ⟨0, Nat.zero_le _, rfl, rfl, L1.out⟩
  case round =>
    obtain ⟨k, hk, rfl, rfl, hB⟩ := hrel
    have HB := Aside0.mk hB
    clear hB
    by_cases hlt : k < its.length
    · obtain ⟨ad, rfl, hx32, hxc⟩ := kf_at (Kd.C_below HX.out HB.out) ([], 0) k hlt
      have HXC := Aside0.mk hxc
      have HX32 := Aside0.mk hx32
      have HT := Aside0.mk (tot_take hlt)
      have hr1 := HR.out k (by omega)
      have hr2 := HS.out k hlt
      have hm1 : (k : Int) * 1048576 ≤ 1099511627776 := by omega
      generalize its.getD k ([], 0) = X at *
      obtain ⟨nm, sz⟩ := X
      generalize tot (its.take k) = T at *
      clear hxc hx32
      dsimp only at hr2
      go_wp2_with (first
        | ((with_reducible refine at_ld 41 (.tmp 11) ?_); refine load_arm rfl 41 (.tmp 11) rfl rfl (ld_elem HXC.out 41 _ Tryd.underlying41 rfl (size_it HX32.out)) ?_; simp only [Act.put, List.setIfInBounds_toArray, List.set_cons_zero, List.set_cons_succ])
        | ((with_reducible refine at_al 41 ?_); refine new_it rfl rfl rfl rfl (.tmp 12) rfl (of_decide_eq_true rfl) rfl HX32.out ?_; rintro w3 g3 HN); have hc3 := (it_cells HN.at_ HX32.out).1; have HB3 : Aside0 (Below w.heap.size w w3) := ⟨HB.out.trans (HN.below.mono HB.out.size)⟩; clear HN; dsimp only at hc3)
      go_roundw
      case rel => exact ⟨k + 1, by omega, by go_num, by rw [HT.out], HB3.out⟩
      case measure => simp [intOf]; omega
    · obtain rfl : k = its.length := by omega
      rw [List.take_length]
      go_wp2
      go_ret
      exact ⟨rfl, HB.out⟩
end Go.Proofs.YtdfahblgnbdndaaDoor
namespace Go.Proofs.YtdfahblgnbdndaaDoor
open Go.RowKit Go.Proofs.YtdfahblgnbdndaaDoorW.PrintWords Go.Proofs.YtdfahblgnbdndaaDoorW.PrintMore
set_option linter.unusedVariables false
set_option linter.unusedSimpArgs false
def sz (its : List Itm) (k : Nat) : Int := (its.getD k ([], 0)).2
/-- An item's size may be. -/
def okI (a c : Int) (its : List Itm) (k : Nat) : Prop := 1 ≤ sz its k ∧ sz its k ≤ c ∧ (k + 1 < its.length → a ≤ sz its k)
instance (a c : Int) (its : List Itm) (k : Nat) : Decidable (okI a c its k) := by unfold okI; infer_instance
def allOk (a c : Int) (its : List Itm) (m : Nat) : Prop := ∀ k, k < m → okI a c its k
instance (a c : Int) (its : List Itm) (m : Nat) : Decidable (allOk a c its m) := by unfold allOk; infer_instance
/-- Which indexes may be. -/
def mayX (a b c : Int) (its : List Itm) : Bool := mayB a b c && (decide (its.length ≤ 4096) && (decide (allOk a c its its.length) && decide (tot its ≤ 65536)))
theorem allOk_succ {a c : Int} {its : List Itm} {k : Nat} (h : allOk a c its k) (h2 : okI a c its k) : allOk a c its (k + 1) := fun j hj => by
  rcases Nat.lt_or_ge j k with hl | hl
  · exact h j hl
  · obtain rfl : j = k := by omega
    exact h2
theorem mayX_not {a b c : Int} {its : List Itm} {k : Nat} (hk : k < its.length) (h : ¬ okI a c its k) : mayX a b c its = false := by
  unfold mayX
  rw [decide_eq_false (p := allOk a c its its.length) (fun h2 => h (h2 k hk))]
  simp
theorem mayX_end {a b c : Int} {its : List Itm} (h0 : mayB a b c = true) (h1 : its.length ≤ 4096) (h : allOk a c its its.length) : mayX a b c its = decide (tot its ≤ 65536) := by
  unfold mayX
  rw [h0, decide_eq_true h1, decide_eq_true h]
  simp
theorem szs_of {a b c : Int} {its : List Itm} (h0 : mayB a b c = true) (h : allOk a c its its.length) (m : Int) (hm : 4096 ≤ m) : szs its m := fun k hk => by
  have h1 := h k hk
  unfold okI sz at h1
  unfold mayB at h0
  simp at h0
  omega
/-- What may be. -/
theorem mayX_spec {a b c : Int} {its : List Itm} (h : mayX a b c its = true) : mayB a b c = true ∧ its.length ≤ 4096 ∧ allOk a c its its.length ∧ tot its ≤ 65536 := by
  unfold mayX at h
  simp only [Bool.and_eq_true, decide_eq_true_eq] at h
  exact ⟨h.1, h.2.1, h.2.2.1, h.2.2.2⟩
set_option maxRecDepth 20000 in
set_option maxHeartbeats 3200000 in
theorem imay_calls (a b c : Int) (im : List Int) (A : Option Addr) (n cp : Nat) (its : List Itm) (C : Array Value) (w : World) (hC : C = (Xc a b c im (.slice A n cp)).toArray) (hn : im.length = 32) (h : RdI w A n its) (hl : n ≤ 1099511627776) :
    Calls Tryd.prog 19 #[.agg C] w fun e w' => e = .returned (.bool (mayX a b c its)) ∧ Below w.heap.size w w' := by
  obtain rfl : its.length = n := h.1
  have HX := Aside0.mk h
  have HCE := Aside0.mk hC
  have HBK : Aside0 ((w.alloc (.cells C 29)).heap[w.heap.size]? = some (.cells C 29 (0, 0))) := ⟨blk_new w _⟩
  have HBX : Aside0 ((w.alloc (.cells C 29)).heap[w.heap.size]? = some (.cells (Xc a b c im (.slice A its.length cp)).toArray 29 (0, 0))) := ⟨by rw [← hC]; exact blk_new w _⟩
  clear hC h
  obtain ⟨w1, hw1⟩ : ∃ w1, w1 = w.alloc (.cells C 29) := ⟨_, rfl⟩
  have L1 : Aside0 (Below w.heap.size w w1) := ⟨by rw [hw1]; exact below_alloc (Below.refl _ _) _⟩
  rw [← hw1] at HBK HBX
  have HL : Aside0 (∀ W, Below w1.heap.size w1 W → W.cell? ⟨w.heap.size, 0, none⟩ = some (.int .i64 a) ∧ W.cell? ⟨w.heap.size, 1, none⟩ = some (.int .i64 b) ∧ W.cell? ⟨w.heap.size, 2, none⟩ = some (.int .i64 c) ∧ W.cell? ⟨w.heap.size, 35, none⟩ = some (.slice A its.length cp)) := ⟨fun W hW => by
    obtain ⟨q0, q1, q2, q3, _⟩ := x_cells (Later.heap hW HBX.out) hn
    exact ⟨q0, q1, q2, q3⟩⟩
  have HP := Aside0.mk (x_params HBX.out)
  by_cases hm : mayB a b c = true
  · have HM := Aside0.mk hm
    obtain ⟨a0, b0, c0, rfl, rfl, rfl, m1, m2, m3, m4⟩ := mayB_nat hm
    clear hm
    by_cases hbig : its.length ≤ 4096
    · have hbigI : ¬ (4096 : Int) < (its.length : Int) := by omega
      obtain ⟨q0, q1, q2, q3⟩ := HL.out w1 (Below.refl _ _)
      go_enter Tryd.func19, Tryd.ntmps19
      go_upto_region 1 with fail
      rw [← hw1]
      clear hw1
      go_wp2_with (first
        | ((with_reducible refine at_ld (w := w1) 24 (.tmp 6) ?_); refine load_arm rfl 24 (.tmp 6) rfl rfl HP.out ?_; simp only [Act.put, List.setIfInBounds_toArray, List.set_cons_zero, List.set_cons_succ])
        | (go_at_call 40; refine (may_calls a0 b0 c0 w1).mono ?_; rw [HM.out]; rintro e w2 ⟨rfl, hB⟩; have HB2 := Aside0.mk hB; obtain ⟨p0, p1, p2, p3⟩ := HL.out w2 hB; clear hB q0 q1 q2 q3)
        | fail)
      clear p0 p1 p2 p3
      go_loopw [3, 4, 5, 19] (fun _ _ _ i wr => ∃ k : Nat, k ≤ its.length ∧ i = .int .i64 k ∧ allOk a0 c0 its k ∧ Below w1.heap.size w1 wr) (fun _ _ _ i _ => its.length - (intOf i).toNat)
      case atStart => exact ⟨0, Nat.zero_le _, rfl, fun j hj => absurd hj (by omega), HB2.out⟩
      case round =>
        obtain ⟨k, hk, rfl, hok, hB⟩ := hrel
        have HB := Aside0.mk hB
        have HOK := Aside0.mk hok
        clear hB hok
        by_cases hlt : k < its.length
        · obtain ⟨ad, rfl, hx32, hxc⟩ := kf_at (Kd.C_below HX.out (below_tr L1.out HB.out L1.out.size)) ([], 0) k hlt
          have HXC := Aside0.mk hxc
          have HX32 := Aside0.mk hx32
          have HNO : Aside0 (¬ okI a0 c0 its k → mayX a0 b0 c0 its = false) := ⟨mayX_not hlt⟩
          have HYES : Aside0 (okI a0 c0 its k → allOk a0 c0 its (k + 1)) := ⟨allOk_succ HOK.out⟩
          unfold okI sz at HNO HYES
          generalize its.getD k ([], 0) = X at *
          obtain ⟨nm, s⟩ := X
          clear hxc hx32
          dsimp only at HNO HYES
          obtain ⟨low, hlow⟩ : ∃ low : Int, low = if k + 1 = its.length then 1 else (a0 : Int) := ⟨_, rfl⟩
          go_upto_if 32 with (first
            | ((with_reducible refine at_ld 41 (.tmp 22) ?_); refine load_arm rfl 41 (.tmp 22) rfl rfl (ld_elem HXC.out 41 _ Tryd.underlying41 rfl (size_it HX32.out)) ?_; simp only [Act.put, List.setIfInBounds_toArray, List.set_cons_zero, List.set_cons_succ])
            | ((with_reducible refine at_st 41 (.tmp 4) (.tmp 23) ?_); refine store_blk rfl 41 (.tmp 4) (.tmp 23) rfl rfl rfl (blk_new _ _) (by rw [icells_len HX32.out]; rfl) (size_it HX32.out) (icells_one _) ?_; rintro w3 HS3); have hc3 := (it_cells HS3.at_ HX32.out).1; have HB3 : Aside0 (Below w1.heap.size w1 w3) := ⟨(below_alloc HB.out _).trans (HS3.below HB.out.size)⟩; obtain ⟨p0, p1, p2, p3⟩ := HL.out w3 HB3.out; clear HS3; dsimp only at hc3)
          go_cut [5] from 20 to 45 (fun v w' => v = .int .i64 low ∧ w3 = w')
          case first =>
            by_cases hlast : k + 1 = its.length
            · have hB1 : ((k : Int) + 1 == (its.length : Int)) = true := by rw [beq_iff_eq]; omega
              rw [if_pos hlast] at hlow
              subst hlow
              clear hlast
              go_wp2
              go_meet
              case rel => exact ⟨rfl, rfl⟩
            · have hB1 : ((k : Int) + 1 == (its.length : Int)) = false := by rw [beq_eq_false_iff_ne]; omega
              rw [if_neg hlast] at hlow
              subst hlow
              clear hlast
              go_wp2
              go_meet
              case rel => exact ⟨rfl, rfl⟩
          case rest =>
            obtain ⟨rfl, rfl⟩ := hcut
            by_cases h1 : s < low
            · have HF : Aside0 (mayX (a0 : Int) b0 c0 its = false) := ⟨HNO.out (fun h => by split at hlow <;> omega)⟩
              clear hlow
              go_wp2
              go_ret
              exact ⟨by rw [HF.out]; rfl, below_tr L1.out HB3.out L1.out.size⟩
            · by_cases h2 : (c0 : Int) < s
              · have HF : Aside0 (mayX (a0 : Int) b0 c0 its = false) := ⟨HNO.out (fun h => by omega)⟩
                clear hlow
                go_wp2
                go_ret
                exact ⟨by rw [HF.out]; rfl, below_tr L1.out HB3.out L1.out.size⟩
              · have HO2 := Aside0.mk (HYES.out (by split at hlow <;> omega))
                clear hlow
                go_wp2
                go_roundw
                case rel => exact ⟨k + 1, by omega, by go_num, HO2.out, HB3.out⟩
                case measure => simp [intOf]; omega
        · obtain rfl : k = its.length := by omega
          have HE := Aside0.mk (mayX_end (b := (b0 : Int)) HM.out hbig HOK.out)
          have HSZ := Aside0.mk (szs_of (b := (b0 : Int)) HM.out HOK.out 1048576 (by omega))
          have HBR := Aside0.mk (Later.heap HB.out HBK.out)
          have HXR : Aside0 (RdI wr A its.length its) := ⟨Kd.C_below HX.out (below_tr L1.out HB.out L1.out.size)⟩
          go_wp2_with (first
            | ((with_reducible refine at_ld (w := wr) 29 (.tmp 1) ?_); refine load_arm rfl 29 (.tmp 1) rfl rfl (ld_row HBR.out 29 _ Tryd.underlying29 rfl (by rw [HCE.out, List.size_toArray]; exact size_X hn)) ?_; simp only [Act.put, List.setIfInBounds_toArray, List.set_cons_zero, List.set_cons_succ])
            | (go_at_call 12; refine (itotal_calls a0 b0 c0 im A its.length cp its C wr HCE.out hn HXR.out HSZ.out (by omega)).mono ?_; rintro e w4 ⟨rfl, hB⟩; have HB4 := Aside0.mk (below_tr HB.out hB HB.out.size); clear hB))
          go_ret
          exact ⟨by rw [HE.out]; rfl, below_tr L1.out HB4.out L1.out.size⟩
    · have hbigI : (4096 : Int) < (its.length : Int) := by omega
      have HF : Aside0 (mayX (a0 : Int) b0 c0 its = false) := ⟨by unfold mayX; rw [decide_eq_false hbig]; simp⟩
      clear hbig
      obtain ⟨q0, q1, q2, q3⟩ := HL.out w1 (Below.refl _ _)
      go_enter Tryd.func19, Tryd.ntmps19
      go_upto_region 1 with fail
      rw [← hw1]
      clear hw1
      go_wp2_with (first
        | ((with_reducible refine at_ld (w := w1) 24 (.tmp 6) ?_); refine load_arm rfl 24 (.tmp 6) rfl rfl HP.out ?_; simp only [Act.put, List.setIfInBounds_toArray, List.set_cons_zero, List.set_cons_succ])
        | (go_at_call 40; refine (may_calls a0 b0 c0 w1).mono ?_; rw [HM.out]; rintro e w2 ⟨rfl, hB⟩; have HB2 := Aside0.mk hB; obtain ⟨p0, p1, p2, p3⟩ := HL.out w2 hB; clear hB q0 q1 q2 q3)
        | fail)
      go_ret
      exact ⟨by rw [HF.out]; rfl, below_tr L1.out HB2.out L1.out.size⟩
  · have HM : Aside0 (mayB a b c = false) := ⟨by simpa using hm⟩
    have HF : Aside0 (mayX a b c its = false) := ⟨by unfold mayX; rw [HM.out]; rfl⟩
    clear hm
    obtain ⟨q0, q1, q2, q3⟩ := HL.out w1 (Below.refl _ _)
    go_enter Tryd.func19, Tryd.ntmps19
    go_upto_region 1 with fail
    rw [← hw1]
    clear hw1
    go_wp2_with (first
      | ((with_reducible refine at_ld (w := w1) 24 (.tmp 6) ?_); refine load_arm rfl 24 (.tmp 6) rfl rfl HP.out ?_; simp only [Act.put, List.setIfInBounds_toArray, List.set_cons_zero, List.set_cons_succ])
      | (go_at_call 40; refine (may_calls a b c w1).mono ?_; rw [HM.out]; rintro e w2 ⟨rfl, hB⟩; have HB2 := Aside0.mk hB; clear hB q0 q1 q2 q3)
      | fail)
    go_ret
    exact ⟨by rw [HF.out]; rfl, below_tr L1.out HB2.out L1.out.size⟩
end Go.Proofs.YtdfahblgnbdndaaDoor
namespace Go.Proofs.YtdfahblgnbdndaaDoor
open Go.RowKit Go.Proofs.YtdfahblgnbdndaaDoorW.PrintWords Go.Proofs.YtdfahblgnbdndaaDoorW.PrintMore
set_option linter.unusedVariables false
set_option linter.unusedSimpArgs false
theorem tot_bound {a c : Int} {its : List Itm} (hc : c ≤ 4096) (k : Nat) (hk : k ≤ its.length) (h : allOk a c its k) : 0 ≤ tot (its.take k) ∧ tot (its.take k) ≤ k * 4096 := by
  induction k with
  | zero => simp [tot_nil]
  | succ k ih =>
    have h1 := ih (by omega) (fun j hj => h j (by omega))
    have h2 := h k (by omega)
    rw [tot_take (by omega)]
    unfold okI sz at h2
    rw [Int.natCast_add, Int.add_mul]
    omega
set_option maxRecDepth 20000 in
set_option maxHeartbeats 3200000 in
theorem rimay_calls (a b c : Int) (im : List Int) (A : Option Addr) (n cp : Nat) (its : List Itm) (C : Array Value) (w : World) (hC : C = (Xc a b c im (.slice A n cp)).toArray) (hn : im.length = 32) (h : RdI w A n its) (hl : n ≤ 1099511627776) :
    Calls Tryd.prog 16 #[.agg C] w fun e w' => e = .returned (.bool (mayX a b c its)) ∧ Below w.heap.size w w' := by
  obtain rfl : its.length = n := h.1
  have HX := Aside0.mk h
  have HCE := Aside0.mk hC
  have HBX : Aside0 ((w.alloc (.cells C 38)).heap[w.heap.size]? = some (.cells (Xc a b c im (.slice A its.length cp)).toArray 38 (0, 0))) := ⟨by rw [← hC]; exact blk_new w _⟩
  clear hC h
  obtain ⟨w1, hw1⟩ : ∃ w1, w1 = w.alloc (.cells C 38) := ⟨_, rfl⟩
  have L1 : Aside0 (Below w.heap.size w w1) := ⟨by rw [hw1]; exact below_alloc (Below.refl _ _) _⟩
  rw [← hw1] at HBX
  have HL : Aside0 (∀ W, Below w1.heap.size w1 W → W.cell? ⟨w.heap.size, 0, none⟩ = some (.int .i64 a) ∧ W.cell? ⟨w.heap.size, 1, none⟩ = some (.int .i64 b) ∧ W.cell? ⟨w.heap.size, 2, none⟩ = some (.int .i64 c) ∧ W.cell? ⟨w.heap.size, 35, none⟩ = some (.slice A its.length cp)) := ⟨fun W hW => by
    obtain ⟨q0, q1, q2, q3, _⟩ := x_cells (Later.heap hW HBX.out) hn
    exact ⟨q0, q1, q2, q3⟩⟩
  have HP := Aside0.mk (x_params HBX.out)
  obtain ⟨q0, q1, q2, q3⟩ := HL.out w1 (Below.refl _ _)
  by_cases hm : mayB a b c = true
  · have HM := Aside0.mk hm
    obtain ⟨a0, b0, c0, rfl, rfl, rfl, m1, m2, m3, m4⟩ := mayB_nat hm
    clear hm
    by_cases hbig : its.length ≤ 4096
    · have hbigI : ¬ (4096 : Int) < (its.length : Int) := by omega
      go_enter Tryd.func16, Tryd.ntmps16
      go_upto_region 1 with fail
      rw [← hw1]
      clear hw1
      go_wp2_with (first
        | ((with_reducible refine at_ld (w := w1) 24 (.tmp 7) ?_); refine load_arm rfl 24 (.tmp 7) rfl rfl HP.out ?_; simp only [Act.put, List.setIfInBounds_toArray, List.set_cons_zero, List.set_cons_succ])
        | (go_at_call 28; refine (pmay_calls a0 b0 c0 w1).mono ?_; rw [HM.out]; rintro e w2 ⟨rfl, hB⟩; have HB2 := Aside0.mk hB; obtain ⟨p0, p1, p2, p3⟩ := HL.out w2 hB; clear hB q0 q1 q2 q3)
        | fail)
      go_loopw [4, 5, 6] (fun s i _ wr => ∃ k : Nat, k ≤ its.length ∧ i = .int .i64 k ∧ s = .int .i64 (tot (its.take k)) ∧ allOk a0 c0 its k ∧ w2 = wr) (fun _ i _ _ => its.length - (intOf i).toNat)
      case atStart => exact ⟨0, Nat.zero_le _, rfl, rfl, fun j hj => absurd hj (by omega), rfl⟩
      case round =>
        obtain ⟨k, hk, rfl, rfl, hok, rfl⟩ := hrel
        have HOK := Aside0.mk hok
        have hT := tot_bound (its := its) (show (c0 : Int) ≤ 4096 by omega) k hk hok
        have hT2 : (k : Int) * 4096 ≤ 16777216 := by omega
        clear hok
        by_cases hlt : k < its.length
        · obtain ⟨ad, rfl, hx32, hxc⟩ := kf_at (Kd.C_below HX.out (below_tr L1.out HB2.out L1.out.size)) ([], 0) k hlt
          have HNO : Aside0 (¬ okI a0 c0 its k → mayX a0 b0 c0 its = false) := ⟨mayX_not hlt⟩
          have HYES : Aside0 (okI a0 c0 its k → allOk a0 c0 its (k + 1)) := ⟨allOk_succ HOK.out⟩
          have HTT := Aside0.mk (tot_take hlt)
          have hes := elem_size hx32 hxc
          unfold okI sz at HNO HYES
          generalize its.getD k ([], 0) = X at *
          obtain ⟨nm, s⟩ := X
          generalize tot (its.take k) = T at *
          clear hxc hx32
          dsimp only at HNO HYES hes
          by_cases h1 : s < 1
          · have HF : Aside0 (mayX (a0 : Int) b0 c0 its = false) := ⟨HNO.out (fun h => by omega)⟩
            go_wp2
            go_ret
            exact ⟨by rw [HF.out]; rfl, below_tr L1.out HB2.out L1.out.size⟩
          · by_cases h2 : (c0 : Int) < s
            · have HF : Aside0 (mayX (a0 : Int) b0 c0 its = false) := ⟨HNO.out (fun h => by omega)⟩
              go_wp2
              go_ret
              exact ⟨by rw [HF.out]; rfl, below_tr L1.out HB2.out L1.out.size⟩
            · by_cases h3 : s < (a0 : Int)
              · by_cases h4 : k + 1 < its.length
                · have h4I : (k : Int) + 1 < (its.length : Int) := by omega
                  have HF : Aside0 (mayX (a0 : Int) b0 c0 its = false) := ⟨HNO.out (fun h => by omega)⟩
                  go_wp2
                  go_ret
                  exact ⟨by rw [HF.out]; rfl, below_tr L1.out HB2.out L1.out.size⟩
                · have h4I : ¬ (k : Int) + 1 < (its.length : Int) := by omega
                  have HO2 := Aside0.mk (HYES.out (by omega))
                  go_wp2
                  go_roundw
                  case rel => exact ⟨k + 1, by omega, by go_num, by rw [HTT.out], HO2.out, trivial⟩
                  case measure => simp [intOf]; omega
              · have HO2 := Aside0.mk (HYES.out (by omega))
                go_wp2
                go_roundw
                case rel => exact ⟨k + 1, by omega, by go_num, by rw [HTT.out], HO2.out, trivial⟩
                case measure => simp [intOf]; omega
        · obtain rfl : k = its.length := by omega
          have HE := Aside0.mk (mayX_end (b := (b0 : Int)) HM.out hbig HOK.out)
          rw [List.take_length] at hT ⊢
          go_wp2
          go_ret
          exact ⟨by rw [HE.out]; rfl, below_tr L1.out HB2.out L1.out.size⟩
    · have hbigI : (4096 : Int) < (its.length : Int) := by omega
      have HF : Aside0 (mayX (a0 : Int) b0 c0 its = false) := ⟨by unfold mayX; rw [decide_eq_false hbig]; simp⟩
      clear hbig
      go_enter Tryd.func16, Tryd.ntmps16
      go_upto_region 1 with fail
      rw [← hw1]
      clear hw1
      go_wp2_with (first
        | ((with_reducible refine at_ld (w := w1) 24 (.tmp 7) ?_); refine load_arm rfl 24 (.tmp 7) rfl rfl HP.out ?_; simp only [Act.put, List.setIfInBounds_toArray, List.set_cons_zero, List.set_cons_succ])
        | (go_at_call 28; refine (pmay_calls a0 b0 c0 w1).mono ?_; rw [HM.out]; rintro e w2 ⟨rfl, hB⟩; have HB2 := Aside0.mk hB; obtain ⟨p0, p1, p2, p3⟩ := HL.out w2 hB; clear hB q0 q1 q2 q3)
        | fail)
      go_ret
      exact ⟨by rw [HF.out]; rfl, below_tr L1.out HB2.out L1.out.size⟩
  · have HM : Aside0 (mayB a b c = false) := ⟨by simpa using hm⟩
    have HF : Aside0 (mayX a b c its = false) := ⟨by unfold mayX; rw [HM.out]; rfl⟩
    clear hm
    go_enter Tryd.func16, Tryd.ntmps16
    go_upto_region 1 with fail
    rw [← hw1]
    clear hw1
    go_wp2_with (first
      | ((with_reducible refine at_ld (w := w1) 24 (.tmp 7) ?_); refine load_arm rfl 24 (.tmp 7) rfl rfl HP.out ?_; simp only [Act.put, List.setIfInBounds_toArray, List.set_cons_zero, List.set_cons_succ])
      | (go_at_call 28; refine (pmay_calls a b c w1).mono ?_; rw [HM.out]; rintro e w2 ⟨rfl, hB⟩; have HB2 := Aside0.mk hB; clear hB q0 q1 q2 q3)
      | fail)
    go_ret
    exact ⟨by rw [HF.out]; rfl, below_tr L1.out HB2.out L1.out.size⟩
end Go.Proofs.YtdfahblgnbdndaaDoor
