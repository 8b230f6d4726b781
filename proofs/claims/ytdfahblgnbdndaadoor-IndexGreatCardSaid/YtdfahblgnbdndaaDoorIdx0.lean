/- Indexes in memory: their cells; what composite literals build. Plain lemmas. -/
import Derived.Test.YtdfahblgnbdndaaDoorCutR
import Derived.Test.YtdfahblgnbdndaaDoorNum2
namespace Go.Proofs.YtdfahblgnbdndaaDoor
open Go.RowKit Go.Proofs.YtdfahblgnbdndaaDoorW.PrintWords Go.Proofs.YtdfahblgnbdndaaDoorW.PrintMore
set_option linter.unusedVariables false
set_option linter.unusedSimpArgs false
set_option maxRecDepth 100000
/-- An index's cells: its parameters, its image's digest, its items. -/
def Xc (a b c : Int) (im : List Int) (v : Value) : List Value := .int .i64 a :: .int .i64 b :: .int .i64 c :: (Nm im ++ [v])
theorem Xc_len {a b c : Int} {im : List Int} {v : Value} (h : im.length = 32) : (Xc a b c im v).length = 36 := by simp [Xc, Nm_len, h]
theorem Xc_one {a b c : Int} {im : List Int} {v : Value} (hv : v.oneCell' = true) : ∀ u ∈ Xc a b c im v, u.oneCell' = true := by
  intro u hu
  unfold Xc at hu
  simp only [List.mem_cons, List.mem_append, List.not_mem_nil, or_false] at hu
  rcases hu with rfl | rfl | rfl | hu | rfl
  · rfl
  · rfl
  · rfl
  · exact Nm_one _ u hu
  · exact hv
theorem Xc_at {a b c : Int} {im : List Int} {v : Value} (h : im.length = 32) : (Xc a b c im v)[0]? = some (.int .i64 a) ∧ (Xc a b c im v)[1]? = some (.int .i64 b) ∧ (Xc a b c im v)[2]? = some (.int .i64 c) ∧ (Xc a b c im v)[35]? = some v ∧ ∀ j u, (Nm im)[j]? = some u → (Xc a b c im v)[3 + j]? = some u := by
  refine ⟨rfl, rfl, rfl, ?_, fun j u hu => ?_⟩
  · show ((Nm im ++ [v])[32]? : Option Value) = some v
    rw [List.getElem?_append_right (by simp [Nm_len, h])]
    simp [Nm_len, h]
  · rw [Nat.add_comm 3 j]
    show ((Nm im ++ [v])[j]? : Option Value) = some u
    rw [List.getElem?_append_left (List.getElem?_eq_some_iff.1 hu).1]
    exact hu
theorem x_cells {w : World} {g T : Nat} {a b c : Int} {im : List Int} {v : Value} {fr : Nat × Nat} (h : w.heap[g]? = some (.cells (Xc a b c im v).toArray T fr)) (hn : im.length = 32) :
    w.cell? ⟨g, 0, none⟩ = some (.int .i64 a) ∧ w.cell? ⟨g, 1, none⟩ = some (.int .i64 b) ∧ w.cell? ⟨g, 2, none⟩ = some (.int .i64 c) ∧ w.cell? ⟨g, 35, none⟩ = some v ∧ w.rangeAt g 3 (Nm im) := by
  have hc := fun j => cell_of_row w g j _ T fr h
  obtain ⟨h0, h1, h2, h3, h4⟩ := Xc_at (a := a) (b := b) (c := c) (v := v) hn
  exact ⟨by rw [hc, List.getElem?_toArray]; exact h0, by rw [hc, List.getElem?_toArray]; exact h1, by rw [hc, List.getElem?_toArray]; exact h2, by rw [hc, List.getElem?_toArray]; exact h3, fun j u hu => by rw [hc, List.getElem?_toArray]; exact h4 j u hu⟩
theorem size_X {a b c : Int} {im : List Int} {v : Value} (h : im.length = 32) : (Tryd.prog.info? 29).map (·.size) = some (Xc a b c im v).length := by rw [Xc_len h]; kernel_rfl
theorem size_RX {a b c : Int} {im : List Int} {v : Value} (h : im.length = 32) : (Tryd.prog.info? 38).map (·.size) = some (Xc a b c im v).length := by rw [Xc_len h]; kernel_rfl
def Z32 : List Int := List.replicate 32 0
theorem Z32_len : Z32.length = 32 := by simp [Z32]
theorem built_x3 (a b c : Int) (im : List Int) (A : Option Addr) (n cp : Nat) (hn : im.length = 32) : Tryd.prog.built 29 [(0, .agg #[.int .i64 a, .int .i64 b, .int .i64 c]), (1, .agg (Nm im).toArray), (2, .slice A n cp)] = some (Xc a b c im (.slice A n cp)).toArray := by
  obtain ⟨x0, x1, x2, x3, x4, x5, x6, x7, x8, x9, x10, x11, x12, x13, x14, x15, x16, x17, x18, x19, x20, x21, x22, x23, x24, x25, x26, x27, x28, x29, x30, x31, rfl⟩ := l32 im hn
  kernel_rfl
theorem built_rx3 (a b c : Int) (im : List Int) (A : Option Addr) (n cp : Nat) (hn : im.length = 32) : Tryd.prog.built 38 [(0, .agg #[.int .i64 a, .int .i64 b, .int .i64 c]), (1, .agg (Nm im).toArray), (2, .slice A n cp)] = some (Xc a b c im (.slice A n cp)).toArray := by
  obtain ⟨x0, x1, x2, x3, x4, x5, x6, x7, x8, x9, x10, x11, x12, x13, x14, x15, x16, x17, x18, x19, x20, x21, x22, x23, x24, x25, x26, x27, x28, x29, x30, x31, rfl⟩ := l32 im hn
  kernel_rfl
theorem built_rx2 (a b c : Int) (im : List Int) (hn : im.length = 32) : Tryd.prog.built 38 [(0, .agg #[.int .i64 a, .int .i64 b, .int .i64 c]), (1, .agg (Nm im).toArray)] = some (Xc a b c im (.slice none 0 0)).toArray := by
  obtain ⟨x0, x1, x2, x3, x4, x5, x6, x7, x8, x9, x10, x11, x12, x13, x14, x15, x16, x17, x18, x19, x20, x21, x22, x23, x24, x25, x26, x27, x28, x29, x30, x31, rfl⟩ := l32 im hn
  kernel_rfl
theorem built_x2 (a b c : Int) (im : List Int) (hn : im.length = 32) : Tryd.prog.built 29 [(0, .agg #[.int .i64 a, .int .i64 b, .int .i64 c]), (1, .agg (Nm im).toArray)] = some (Xc a b c im (.slice none 0 0)).toArray := by
  obtain ⟨x0, x1, x2, x3, x4, x5, x6, x7, x8, x9, x10, x11, x12, x13, x14, x15, x16, x17, x18, x19, x20, x21, x22, x23, x24, x25, x26, x27, x28, x29, x30, x31, rfl⟩ := l32 im hn
  kernel_rfl
theorem built_x0 : Tryd.prog.built 29 [] = some (Xc 0 0 0 Z32 (.slice none 0 0)).toArray := by kernel_rfl
theorem built_rx0 : Tryd.prog.built 38 [] = some (Xc 0 0 0 Z32 (.slice none 0 0)).toArray := by kernel_rfl
def P3 (a b c : Int) : List Value := [.int .i64 a, .int .i64 b, .int .i64 c]
theorem p3_size (a b c : Int) : (Tryd.prog.info? 24).map (·.size) = some (P3 a b c).length := by kernel_rfl
/-- The parameters, the digest of one in memory. -/
theorem x_params {w : World} {g T : Nat} {a b c : Int} {im : List Int} {v : Value} {fr : Nat × Nat} (h : w.heap[g]? = some (.cells (Xc a b c im v).toArray T fr)) : (Instr.loadAt 24 (.pointer (some ⟨g, 0, none⟩))).run Tryd.prog w = .ok (.agg #[.int .i64 a, .int .i64 b, .int .i64 c]) w := by
  refine run_loadAt_mid w g 0 24 (P3 a b c) _ (fun j u hu => ?_) Tryd.underlying24 rfl (p3_size a b c)
  rw [cell_of_row w g (0 + j) _ T fr h, Nat.zero_add, List.getElem?_toArray]
  match j, hu with
  | 0, hu => exact hu
  | 1, hu => exact hu
  | 2, hu => exact hu
theorem x_dig {w : World} {g T : Nat} {a b c : Int} {im : List Int} {v : Value} {fr : Nat × Nat} (h : w.heap[g]? = some (.cells (Xc a b c im v).toArray T fr)) (hn : im.length = 32) : (Instr.loadAt 26 (.pointer (some ⟨g, 3, none⟩))).run Tryd.prog w = .ok (.agg (Nm im).toArray) w :=
  run_loadAt_mid w g 3 26 (Nm im) _ (x_cells h hn).2.2.2.2 Tryd.underlying26 rfl (size_d im hn)
/-- The sum of sizes. -/
def tot (its : List Itm) : Int := (its.map (·.2)).foldl (· + ·) 0
theorem foldl_add (l : List Int) (x : Int) : l.foldl (· + ·) x = x + l.foldl (· + ·) 0 := by
  induction l generalizing x with
  | nil => simp
  | cons y l ih => rw [List.foldl_cons, ih, List.foldl_cons, ih (0 + y)]; omega
theorem tot_nil : tot [] = 0 := rfl
theorem tot_snoc (its : List Itm) (x : Itm) : tot (its ++ [x]) = tot its + x.2 := by
  unfold tot
  rw [List.map_append, List.foldl_append]
  rfl
theorem tot_cons (its : List Itm) (x : Itm) : tot (x :: its) = x.2 + tot its := by
  unfold tot
  rw [List.map_cons, List.foldl_cons, foldl_add]
  omega
theorem tot_take {its : List Itm} {k : Nat} (h : k < its.length) : tot (its.take (k + 1)) = tot (its.take k) + (its.getD k ([], 0)).2 := by
  have e : its.take (k + 1) = its.take k ++ [its.getD k ([], 0)] := by
    rw [List.take_add_one, List.getD_eq_getElem?_getD, List.getElem?_eq_getElem h]; rfl
  rw [e, tot_snoc]
end Go.Proofs.YtdfahblgnbdndaaDoor
