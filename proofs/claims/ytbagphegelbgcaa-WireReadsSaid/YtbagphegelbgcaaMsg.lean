/- Messages as values: what Go's composite literals build, what two of them compare to. Plain lemmas. -/
import Derived.Test.YtbagphegelbgcaaWireBase
import Derived.Test.YtbagphegelbgcaaMem
import Derived.Test.YtbagphegelbgcaaStr
import Derived.Laws.Tables
import Derived.Test.YtbagphegelbgcaaWEqStruct
import Derived.DeepKeys
namespace Go.Proofs.Ytbagphegelbgcaa
open Go.RowKit Go.Proofs.YtbagphegelbgcaaW.PrintWords Go.Proofs.YtbagphegelbgcaaW.PrintMore
set_option linter.unusedVariables false
set_option linter.unusedSimpArgs false
set_option maxRecDepth 100000

theorem len32 (l : List Int) (h : l.length = 32) : ∃ x0 x1 x2 x3 x4 x5 x6 x7 x8 x9 x10 x11 x12 x13 x14 x15 x16 x17 x18 x19 x20 x21 x22 x23 x24 x25 x26 x27 x28 x29 x30 x31, l = [x0, x1, x2, x3, x4, x5, x6, x7, x8, x9, x10, x11, x12, x13, x14, x15, x16, x17, x18, x19, x20, x21, x22, x23, x24, x25, x26, x27, x28, x29, x30, x31] := by
  match l, h with
  | [x0, x1, x2, x3, x4, x5, x6, x7, x8, x9, x10, x11, x12, x13, x14, x15, x16, x17, x18, x19, x20, x21, x22, x23, x24, x25, x26, x27, x28, x29, x30, x31], _ => exact ⟨_, _, _, _, _, _, _, _, _, _, _, _, _, _, _, _, _, _, _, _, _, _, _, _, _, _, _, _, _, _, _, _, rfl⟩
/-- 32 zeros. -/
def Z32 : List Int := List.replicate 32 0
theorem built_m4 (k s : Int) (nm : List Int) (b : ByteArray) (hn : nm.length = 32) : Try.prog.built 25 [(0, .int .i64 k), (1, .int .i64 s), (2, .agg (Nm nm).toArray), (3, .string b)] = some (Mc k s nm (.string b)).toArray := by
  obtain ⟨x0, x1, x2, x3, x4, x5, x6, x7, x8, x9, x10, x11, x12, x13, x14, x15, x16, x17, x18, x19, x20, x21, x22, x23, x24, x25, x26, x27, x28, x29, x30, x31, rfl⟩ := len32 nm hn
  kernel_rfl
theorem built_w4 (k s : Int) (nm : List Int) (A : Option Addr) (n c : Nat) (hn : nm.length = 32) : Try.prog.built 36 [(0, .int .i64 k), (1, .int .i64 s), (2, .agg (Nm nm).toArray), (3, .slice A n c)] = some (Mc k s nm (.slice A n c)).toArray := by
  obtain ⟨x0, x1, x2, x3, x4, x5, x6, x7, x8, x9, x10, x11, x12, x13, x14, x15, x16, x17, x18, x19, x20, x21, x22, x23, x24, x25, x26, x27, x28, x29, x30, x31, rfl⟩ := len32 nm hn
  kernel_rfl
theorem built_m3 (k s : Int) (nm : List Int) (hn : nm.length = 32) : Try.prog.built 25 [(0, .int .i64 k), (1, .int .i64 s), (2, .agg (Nm nm).toArray)] = some (Mc k s nm (.string ⟨#[]⟩)).toArray := by
  obtain ⟨x0, x1, x2, x3, x4, x5, x6, x7, x8, x9, x10, x11, x12, x13, x14, x15, x16, x17, x18, x19, x20, x21, x22, x23, x24, x25, x26, x27, x28, x29, x30, x31, rfl⟩ := len32 nm hn
  kernel_rfl
theorem built_w3 (k s : Int) (nm : List Int) (hn : nm.length = 32) : Try.prog.built 36 [(0, .int .i64 k), (1, .int .i64 s), (2, .agg (Nm nm).toArray)] = some (Mc k s nm (.slice none 0 0)).toArray := by
  obtain ⟨x0, x1, x2, x3, x4, x5, x6, x7, x8, x9, x10, x11, x12, x13, x14, x15, x16, x17, x18, x19, x20, x21, x22, x23, x24, x25, x26, x27, x28, x29, x30, x31, rfl⟩ := len32 nm hn
  kernel_rfl
theorem built_w02 (k s : Int) (nm : List Int) (hn : nm.length = 32) : Try.prog.built 36 [(0, .int .i64 k), (2, .agg (Nm nm).toArray)] = some (Mc k 0 nm (.slice none 0 0)).toArray := by
  obtain ⟨x0, x1, x2, x3, x4, x5, x6, x7, x8, x9, x10, x11, x12, x13, x14, x15, x16, x17, x18, x19, x20, x21, x22, x23, x24, x25, x26, x27, x28, x29, x30, x31, rfl⟩ := len32 nm hn
  kernel_rfl
theorem built_w01 (k s : Int) : Try.prog.built 36 [(0, .int .i64 k), (1, .int .i64 s)] = some (Mc k s Z32 (.slice none 0 0)).toArray := by
  kernel_rfl
theorem built_w0 (k s : Int) : Try.prog.built 36 [(0, .int .i64 k)] = some (Mc k 0 Z32 (.slice none 0 0)).toArray := by
  kernel_rfl
theorem built_m03 (k s : Int) (b : ByteArray) : Try.prog.built 25 [(0, .int .i64 k), (3, .string b)] = some (Mc k 0 Z32 (.string b)).toArray := by
  kernel_rfl
theorem built_mz : Try.prog.built 25 [] = some (Mc 0 0 Z32 (.string ⟨#[]⟩)).toArray := by kernel_rfl
theorem built_wz : Try.prog.built 36 [] = some (Mc 0 0 Z32 (.slice none 0 0)).toArray := by kernel_rfl
section
variable {P : Program} {w : World}
theorem isAgg_run {t : TypeId} {d : TypeDesc} (hu : P.underlying t = some d) : (isAgg t).run P w = .ok (match d with | .struct _ | .array _ _ => true | _ => false) w := by
  unfold isAgg
  simp only [Sem.run_bind, run_underlying hu, Result.andThen_ok]
  cases d <;> rfl
theorem part_one {t : TypeId} {d : TypeDesc} (hu : P.underlying t = some d) (hd : (match d with | .struct _ | .array _ _ => true | _ => false) = false) {cs : Array Value} {off : Nat} {v : Value} (h : cs[off]? = some v) : (part t cs off).run P w = .ok v w := by
  unfold part
  simp only [Sem.run_bind, isAgg_run hu, Result.andThen_ok, hd, Bool.false_eq_true, if_false, h, Sem.run_pure]
theorem part_row {t : TypeId} {d : TypeDesc} {i : TypeInfo} (hu : P.underlying t = some d) (hd : (match d with | .struct _ | .array _ _ => true | _ => false) = true) (hi : P.info? t = some i) (cs : Array Value) (off : Nat) : (part t cs off).run P w = .ok (.agg (cs.extract off (off + i.size))) w := by
  unfold part
  simp only [Sem.run_bind, isAgg_run hu, Result.andThen_ok, hd, if_true, Sem.run_pure, sizeOf, typeInfo, hi]
  simp [hi]
/-- Arrays of bytes are the same. -/
theorem eq_items {e : TypeId} {k : IntKind} {d : Nat} (hu : P.underlying e = some (.int k)) {xs ys : List Int} (a b : Array Value) (ha : a = (xs.map (Value.int .u8)).toArray) (hb : b = (ys.map (Value.int .u8)).toArray) (hl : xs.length = ys.length) : ∀ (m i : Nat), i + m = xs.length →
    (Op.eqItems (d + 1) e 1 a b (List.range' i m)).run P w = .ok (decide (xs.drop i = ys.drop i)) w := by
  intro m
  induction m with
  | zero =>
    intro i hi
    rw [List.drop_of_length_le (by omega), List.drop_of_length_le (by omega)]
    simp [Op.eqItems]
  | succ m ih =>
    intro i hi
    have h1 : a[i * 1]? = some (.int .u8 (xs[i]'(by omega))) := by subst ha; simp [List.getElem?_eq_getElem (show i < xs.length by omega)]
    have h2 : b[i * 1]? = some (.int .u8 (ys[i]'(by omega))) := by subst hb; simp [List.getElem?_eq_getElem (show i < ys.length by omega)]
    rw [List.range'_succ]
    simp only [Op.eqItems, Sem.run_bind, part_one hu rfl h1, part_one hu rfl h2, Result.andThen_ok, run_equalIn_int w d e .u8 k _ _ hu]
    rw [List.drop_eq_getElem_cons (show i < xs.length by omega), List.drop_eq_getElem_cons (show i < ys.length by omega)]
    simp only [List.cons.injEq]
    by_cases h : xs[i]'(by omega) = ys[i]'(by omega)
    · simp [h, ih (i + 1) (by omega)]
    · simp [h]
end
theorem digest_info : ∃ i, Try.prog.info? 5 = some i := by
  have : (Try.prog.info? 5).isSome = true := by kernel_rfl
  exact Option.isSome_iff_exists.1 this
theorem digest_eq {d : Nat} {w : World} {xs ys : List Int} (hx : xs.length = 32) (hy : ys.length = 32) : (Op.equalIn (d + 2) 23 (.agg (Nm xs).toArray) (.agg (Nm ys).toArray)).run Try.prog w = .ok (decide (xs = ys)) w := by
  obtain ⟨i, hi⟩ := digest_info
  rw [run_equalIn_array w (d + 1) _ _ Try.underlying23 hi, show Try.prog.cellsOf 5 = 1 by kernel_rfl, List.range_eq_range']
  have := eq_items (P := Try.prog) (w := w) (d := d) Try.underlying5 (xs := xs) (ys := ys) _ _ rfl rfl (by omega) 32 0 (by omega)
  simpa [Nm] using this
theorem mc_row {k s : Int} {nm : List Int} {b : Value} (hn : nm.length = 32) : (Mc k s nm b).toArray.extract 2 (2 + 32) = (Nm nm).toArray := by
  rw [List.extract_toArray]
  have : (Mc k s nm b).extract 2 (2 + 32) = Nm nm := by
    show (((Nm nm ++ [b])).take 32) = Nm nm
    rw [List.take_left' (by rw [Nm_len, hn])]
  rw [this]
theorem mc_dig {w : World} {k s : Int} {nm : List Int} {b : Value} (hn : nm.length = 32) : (part 23 (Mc k s nm b).toArray 2).run Try.prog w = .ok (.agg (Nm nm).toArray) w := by
  obtain ⟨i, hi, hs⟩ : ∃ i, Try.prog.info? 23 = some i ∧ i.size = 32 := by
    have : (Try.prog.info? 23).map (·.size) = some 32 := by kernel_rfl
    exact Option.map_eq_some_iff.1 this
  rw [part_row Try.underlying23 rfl hi, hs, mc_row hn]
/-- Two messages (as the document has them) are the same. -/
def mSame (k s : Int) (nm : List Int) (b : ByteArray) (k' s' : Int) (nm' : List Int) (b' : ByteArray) : Bool := k == k' && (s == s' && (decide (nm = nm') && decide (b = b')))
theorem m_eq {w : World} {k s k' s' : Int} {nm nm' : List Int} {b b' : ByteArray} (hn : nm.length = 32) (hn' : nm'.length = 32) :
    (Op.equalIn 10000 25 (.agg (Mc k s nm (.string b)).toArray) (.agg (Mc k' s' nm' (.string b')).toArray)).run Try.prog w = .ok (mSame k s nm b k' s' nm' b') w := by
  obtain ⟨a0, a1, a2, _⟩ := msg_arr rfl hn (k := k) (s := s) (b := .string b)
  obtain ⟨c0, c1, c2, _⟩ := msg_arr rfl hn' (k := k') (s := s') (b := .string b')
  refine eqA_of (d := 9999) Try.underlying25 Try.stoodInHeld25 ?_
  refine eqf_cons rfl (part_one Try.underlying3 rfl a0) (part_one Try.underlying3 rfl c0) (run_equalIn_int w 9998 _ _ _ _ _ Try.underlying3) ?_
  refine eqf_cons rfl (part_one Try.underlying3 rfl a1) (part_one Try.underlying3 rfl c1) (run_equalIn_int w 9998 _ _ _ _ _ Try.underlying3) ?_
  refine eqf_cons rfl (mc_dig hn) (mc_dig hn') (digest_eq (d := 9997) hn hn') ?_
  refine eqf_last rfl (part_one Try.underlying9 rfl a2) (part_one Try.underlying9 rfl c2) ?_
  rw [run_equalIn_string w 9998 _ _ _ Try.underlying9, bytes_beq]
/-- '==' of two. -/
theorem m_eql {w : World} {k s k' s' : Int} {nm nm' : List Int} {b b' : ByteArray} (hn : nm.length = 32) (hn' : nm'.length = 32) :
    (binOp .eql 25 (.agg (Mc k s nm (.string b)).toArray) (.agg (Mc k' s' nm' (.string b')).toArray)).run Try.prog w = .ok (.bool (mSame k s nm b k' s' nm' b')) w := by
  rw [run_eql_struct, m_eq hn hn']; rfl
theorem m_neq {w : World} {k s k' s' : Int} {nm nm' : List Int} {b b' : ByteArray} (hn : nm.length = 32) (hn' : nm'.length = 32) :
    (binOp .neq 25 (.agg (Mc k s nm (.string b)).toArray) (.agg (Mc k' s' nm' (.string b')).toArray)).run Try.prog w = .ok (.bool (!mSame k s nm b k' s' nm' b')) w := by
  rw [run_neq_struct, m_eq hn hn']; rfl
theorem d_eql {w : World} {nm nm' : List Int} (hn : nm.length = 32) (hn' : nm'.length = 32) :
    (binOp .eql 23 (.agg (Nm nm).toArray) (.agg (Nm nm').toArray)).run Try.prog w = .ok (.bool (decide (nm = nm'))) w := by
  rw [run_eql_struct, digest_eq (d := 9998) hn hn']; rfl

/-- [](byte)(s): the walk's world behind it. -/
theorem str_conv (b : ByteArray) (w : World) : (convert 9 27 (.string b)).run Try.prog w = .ok (.slice (some ⟨w.heap.size, 0, none⟩) b.size (grownCap w b.size 0 5)) (Lib.bytesWorld w 5 b) :=
  print_bytes 9 27 5 Try.underlying9 Try.underlying27 Try.underlying5 b w
section
variable {ops : Array Oper} {rest : List Oper} {o : Oper} {a : Act} {Q : Exit → Act → World → Prop} {w : World}
/-- []byte(s), the memory behind it hidden. -/
theorem conv_new (hgd : o.guard = none) (x : Operand) (ho : o.op = .convert 9 27 x) {b : ByteArray} (hx : a.eval x = .string b) (hb : b.size ≤ 140737488355328)
    (h : ∀ g c w1, RdB w1 (some ⟨g, 0, none⟩) b.size (bytesOf b) → b.size ≤ c → w.heap.size ≤ g → Below w.heap.size w w1 → wpList Try.prog ops Q rest (a.put o.dst (.slice (some ⟨g, 0, none⟩) b.size c)) w1) : wpList Try.prog ops Q (o :: rest) a w :=
  conv_arm hgd _ _ x ho hx (str_conv b w) (h _ _ _ (Kd.C_of_reads (d := (0 : Int)) (bytes_reads w 5 b (by omega))) (by simpa using grownCap_ge w b.size 0 5) (Nat.le_refl _) (bytes_below (Below.refl _ _) (Nat.le_refl _) 5 b))
end
/-- What is read stays, where another block is written. -/
theorem RdB.setBlk {w w1 : World} {g g1 n : Nat} {xs : List Int} {ob : Obj} (h : RdB w (some ⟨g, 0, none⟩) n xs) (hs : SetBlk w w1 g1 ob) (hne : g ≠ g1) : RdB w1 (some ⟨g, 0, none⟩) n xs := by
  have hr := Kd.reads_of_C (d := (0 : Int)) h
  refine Kd.C_of_reads (d := (0 : Int)) ⟨hr.1, hr.2.1, fun hp => ?_⟩
  obtain ⟨ad, he, hc⟩ := hr.2.2 hp
  injection he with he
  subst he
  refine ⟨_, rfl, fun j hj => ?_⟩
  rw [← hc j hj, add_plain]
  unfold World.cell?
  rw [hs.else_ g hne]
section
variable {W : World} {g T : Nat} {k s : Int} {nm : List Int} {b : Value} {fr : Nat × Nat}
/-- Loads of a message's fields. -/
theorem ld_f0 (h : W.heap[g]? = some (.cells (Mc k s nm b).toArray T fr)) (hn : nm.length = 32) : (Instr.loadAt 3 (.pointer (some ⟨g, 0, none⟩))).run Try.prog W = .ok (.int .i64 k) W := by
  have hc := (msg_cells h hn).1
  go_simp
theorem ld_f1 (h : W.heap[g]? = some (.cells (Mc k s nm b).toArray T fr)) (hn : nm.length = 32) : (Instr.loadAt 3 (.pointer (some ⟨g, 1, none⟩))).run Try.prog W = .ok (.int .i64 s) W := by
  have hc := (msg_cells h hn).2.1
  go_simp
theorem ld_f2 (h : W.heap[g]? = some (.cells (Mc k s nm b).toArray T fr)) (hn : nm.length = 32) : (Instr.loadAt 23 (.pointer (some ⟨g, 2, none⟩))).run Try.prog W = .ok (.agg (Nm nm).toArray) W :=
  run_loadAt_mid _ _ 2 _ (Nm nm) _ (msg_cells h hn).2.2.2.1 Try.underlying23 rfl (by rw [Nm_len, hn]; kernel_rfl)
theorem ld_f3s {x : ByteArray} (h : W.heap[g]? = some (.cells (Mc k s nm (.string x)).toArray T fr)) (hn : nm.length = 32) : (Instr.loadAt 9 (.pointer (some ⟨g, 34, none⟩))).run Try.prog W = .ok (.string x) W := by
  have hc := (msg_cells h hn).2.2.1
  go_simp
theorem ld_f3b {A : Option Addr} {n c : Nat} (h : W.heap[g]? = some (.cells (Mc k s nm (.slice A n c)).toArray T fr)) (hn : nm.length = 32) : (Instr.loadAt 27 (.pointer (some ⟨g, 34, none⟩))).run Try.prog W = .ok (.slice A n c) W := by
  have hc := (msg_cells h hn).2.2.1
  go_simp
theorem ld_m {x : ByteArray} (h : W.heap[g]? = some (.cells (Mc k s nm (.string x)).toArray T fr)) (hn : nm.length = 32) : (Instr.loadAt 25 (.pointer (some ⟨g, 0, none⟩))).run Try.prog W = .ok (.agg (Mc k s nm (.string x)).toArray) W :=
  ld_row h _ _ Try.underlying25 rfl (by rw [List.size_toArray, Mc_len hn]; kernel_rfl)
theorem ld_w {A : Option Addr} {n c : Nat} (h : W.heap[g]? = some (.cells (Mc k s nm (.slice A n c)).toArray T fr)) (hn : nm.length = 32) : (Instr.loadAt 36 (.pointer (some ⟨g, 0, none⟩))).run Try.prog W = .ok (.agg (Mc k s nm (.slice A n c)).toArray) W :=
  ld_row h _ _ Try.underlying36 rfl (by rw [List.size_toArray, Mc_len hn]; kernel_rfl)
/-- Stores into a message's fields: which cells it has then. -/
theorem mc_set0 (x : Int) : (Mc k s nm b).toArray.setIfInBounds 0 (.int .i64 x) = (Mc x s nm b).toArray := by simp [Mc]
theorem mc_set1 (x : Int) : (Mc k s nm b).toArray.setIfInBounds 1 (.int .i64 x) = (Mc k x nm b).toArray := by simp [Mc]
theorem mc_set3 (hn : nm.length = 32) (x : Value) : (Mc k s nm b).toArray.setIfInBounds 34 x = (Mc k s nm x).toArray := by
  have : (Nm nm ++ [b]).set 32 x = Nm nm ++ [x] := by
    rw [List.set_append_right _ _ (by rw [Nm_len]; omega), Nm_len, hn]
    rfl
  simp [Mc, this]
end

end Go.Proofs.Ytbagphegelbgcaa
