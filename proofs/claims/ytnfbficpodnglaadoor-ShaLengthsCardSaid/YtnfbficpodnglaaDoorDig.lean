/- Digests, bytes of a digest, copies of bytes. Conditions: each contract's own. -/
import Derived.Test.YtnfbficpodnglaaDoorRef01
import Derived.Test.YtnfbficpodnglaaDoorStr
import Derived.Test.YtnfbficpodnglaaDoorBag
import Derived.Laws.Cover3
namespace Go.Proofs.YtnfbficpodnglaaDoor
open Go.RowKit Go.Proofs.YtnfbficpodnglaaDoorW.PrintWords Go.Proofs.YtnfbficpodnglaaDoorW.PrintMore
set_option linter.unusedVariables false
set_option linter.unusedSimpArgs false
def Nm (nm : List Int) : List Value := nm.map (Value.int .u8)
theorem Nm_len (nm : List Int) : (Nm nm).length = nm.length := by simp [Nm]
theorem Nm_one (nm : List Int) : ∀ v ∈ Nm nm, v.oneCell' = true := by
  intro v hv
  obtain ⟨x, _, rfl⟩ := List.mem_map.1 hv
  rfl

/-- Which messages may be. -/theorem size_d (nm : List Int) (hn : nm.length = 32) : (Tryd.prog.info? 26).map (·.size) = some (Nm nm).length := by rw [Nm_len, hn]; kernel_rfl
section
variable {P : Program} {w : World}
theorem isAgg_run {t : TypeId} {d : TypeDesc} (hu : P.underlying t = some d) : (isAgg t).run P w = .ok (match d with | .struct _ | .array _ _ => true | _ => false) w := by
  unfold isAgg
  simp only [Sem.run_bind, run_underlying hu, Result.andThen_ok]
  cases d <;> rfl
theorem part_one {t : TypeId} {d : TypeDesc} (hu : P.underlying t = some d) (hd : (match d with | .struct _ | .array _ _ => true | _ => false) = false) {cs : Array Value} {off : Nat} {v : Value} (h : cs[off]? = some v) : (part t cs off).run P w = .ok v w := by
  unfold part
  simp only [Sem.run_bind, isAgg_run hu, Result.andThen_ok, hd, Bool.false_eq_true, if_false, h, Sem.run_pure]
theorem part_row {t : TypeId} {d : TypeDesc} {i : TypeInfo} (hu : P.underlying t = some d) (hd : (match d with | .struct _ | .array _ _ => true | _ => false) = true) (hi : P.info? t = some i) (cs : Array Value) (off : Nat) : (part t cs off).run P w = .ok (.agg (cs.extract off (off + i.size))) w := by
  unfold part
  simp only [Sem.run_bind, isAgg_run hu, Result.andThen_ok, hd, if_true, Sem.run_pure, sizeOf, typeInfo, hi]
  simp [hi]
/-- Arrays of bytes are the same. -/
theorem eq_items {e : TypeId} {k : IntKind} {d : Nat} (hu : P.underlying e = some (.int k)) {xs ys : List Int} (a b : Array Value) (ha : a = (xs.map (Value.int .u8)).toArray) (hb : b = (ys.map (Value.int .u8)).toArray) (hl : xs.length = ys.length) : ∀ (m i : Nat), i + m = xs.length →
    (Op.eqItems (d + 1) e 1 a b (List.range' i m)).run P w = .ok (decide (xs.drop i = ys.drop i)) w := by
  intro m
  induction m with
  | zero =>
    intro i hi
    rw [List.drop_of_length_le (by omega), List.drop_of_length_le (by omega)]
    simp [Op.eqItems]
  | succ m ih =>
    intro i hi
    have h1 : a[i * 1]? = some (.int .u8 (xs[i]'(by omega))) := by subst ha; simp [List.getElem?_eq_getElem (show i < xs.length by omega)]
    have h2 : b[i * 1]? = some (.int .u8 (ys[i]'(by omega))) := by subst hb; simp [List.getElem?_eq_getElem (show i < ys.length by omega)]
    rw [List.range'_succ]
    simp only [Op.eqItems, Sem.run_bind, part_one hu rfl h1, part_one hu rfl h2, Result.andThen_ok, run_equalIn_int w d e .u8 k _ _ hu]
    rw [List.drop_eq_getElem_cons (show i < xs.length by omega), List.drop_eq_getElem_cons (show i < ys.length by omega)]
    simp only [List.cons.injEq]
    by_cases h : xs[i]'(by omega) = ys[i]'(by omega)
    · simp [h, ih (i + 1) (by omega)]
    · simp [h]
end
theorem digest_info : ∃ i, Tryd.prog.info? 5 = some i := by
  have : (Tryd.prog.info? 5).isSome = true := by kernel_rfl
  exact Option.isSome_iff_exists.1 this
theorem digest_eq {d : Nat} {w : World} {xs ys : List Int} (hx : xs.length = 32) (hy : ys.length = 32) : (Op.equalIn (d + 2) 26 (.agg (Nm xs).toArray) (.agg (Nm ys).toArray)).run Tryd.prog w = .ok (decide (xs = ys)) w := by
  obtain ⟨i, hi⟩ := digest_info
  rw [run_equalIn_array w (d + 1) _ _ Tryd.underlying26 hi, show Tryd.prog.cellsOf 5 = 1 by kernel_rfl, List.range_eq_range']
  have := eq_items (P := Tryd.prog) (w := w) (d := d) Tryd.underlying5 (xs := xs) (ys := ys) _ _ rfl rfl (by omega) 32 0 (by omega)
  simpa [Nm] using this
theorem d_eql {w : World} {nm nm' : List Int} (hn : nm.length = 32) (hn' : nm'.length = 32) :
    (binOp .eql 26 (.agg (Nm nm).toArray) (.agg (Nm nm').toArray)).run Tryd.prog w = .ok (.bool (decide (nm = nm'))) w := by
  rw [run_eql_struct, digest_eq (d := 9998) hn hn']; rfl

/-- [](byte)(s): the walk's world behind it. -/
theorem str_conv (b : ByteArray) (w : World) : (convert 9 22 (.string b)).run Tryd.prog w = .ok (.slice (some ⟨w.heap.size, 0, none⟩) b.size (grownCap w b.size 0 5)) (Lib.bytesWorld w 5 b) :=
  print_bytes 9 22 5 Tryd.underlying9 Tryd.underlying22 Tryd.underlying5 b w
section
variable {ops : Array Oper} {rest : List Oper} {o : Oper} {a : Act} {Q : Exit → Act → World → Prop} {w : World}
/-- []byte(s), the memory behind it hidden. -/
theorem conv_new (hgd : o.guard = none) (x : Operand) (ho : o.op = .convert 9 22 x) {b : ByteArray} (hx : a.eval x = .string b) (hb : b.size ≤ 140737488355328)
    (h : ∀ g c w1, RdB w1 (some ⟨g, 0, none⟩) b.size (bytesOf b) → b.size ≤ c → w.heap.size ≤ g → Below w.heap.size w w1 → wpList Tryd.prog ops Q rest (a.put o.dst (.slice (some ⟨g, 0, none⟩) b.size c)) w1) : wpList Tryd.prog ops Q (o :: rest) a w :=
  conv_arm hgd _ _ x ho hx (str_conv b w) (h _ _ _ (Kd.C_of_reads (d := (0 : Int)) (bytes_reads w 5 b (by omega))) (by simpa using grownCap_ge w b.size 0 5) (Nat.le_refl _) (bytes_below (Below.refl _ _) (Nat.le_refl _) 5 b))
end
theorem take_snoc {xs : List Int} {k : Nat} (h : k < xs.length) : xs.take (k + 1) = xs.take k ++ [rd xs k] := by
  rw [List.take_succ_eq_append_getElem h]
  simp [rd, List.getD_eq_getElem?_getD, List.getElem?_eq_getElem h]

theorem Nm_take_rd {nm : List Int} {k : Nat} (h : k < nm.length) : (Nm nm).toArray[k]? = some (.int .u8 (rd nm k)) := by
  simp [Nm, rd, List.getD_eq_getElem?_getD, List.getElem?_eq_getElem h]

/-- Bytes: a digest's bytes. -/
theorem bytes32_calls (nm : List Int) (C : Array Value) (w : World) (hC : C = (Nm nm).toArray) (hn : nm.length = 32) (hb : Bytes nm) :
    Calls Tryd.prog 28 #[.agg C] w fun e w' => ∃ v, e = .returned v ∧ OwB w' w.heap.size v nm ∧ Below w.heap.size w w' := by
  have hblk := blk_new w (.cells C 26)
  have hcell : Aside0 (∀ k : Nat, k < 32 → (w.alloc (.cells C 26)).cell? ⟨w.heap.size, k, none⟩ = some (.int .u8 (rd nm k))) := ⟨fun k hk => by
    rw [blk_cell hblk, hC]
    exact Nm_take_rd (by omega)⟩
  have hsz : (w.alloc (.cells C 26)).heap.size = w.heap.size + 1 := by simp
  have HN := Aside0.mk hn
  clear hC hn hblk
  go_enter Tryd.func28, Tryd.ntmps28
  go_wp2
  obtain ⟨w1, hw1⟩ : ∃ w1, w1 = w.alloc (.cells C 26) := ⟨_, rfl⟩
  rw [← hw1] at hcell hsz ⊢
  have hB1 : Below w.heap.size w w1 := by rw [hw1]; exact (Below.refl _ _).alloc (Nat.le_refl _) _
  clear hw1
  go_loopw [3, 4] (fun v i wr => ∃ k : Nat, k ≤ 32 ∧ i = .int .i64 k ∧ OwB wr w1.heap.size v (nm.take k) ∧ Below w1.heap.size w1 wr) (fun _ i _ => 32 - (intOf i).toNat)
  case atStart => exact ⟨0, by omega, rfl, Kd.R_nil _ _ _ _ _, Below.refl _ _⟩
  case round =>
    obtain ⟨k, hk, rfl, hO, hB⟩ := hrel
    by_cases hlt : k < 32
    · have hc := pw_cell_below hB (hcell.out k hlt)
      have HT : Aside0 (nm.take (k + 1) = nm.take k ++ [rd nm k]) := ⟨take_snoc (by have := HN.out; omega)⟩
      have hl : (nm.take k).length < 140737488355328 := by rw [List.length_take]; omega
      have HO := Aside0.mk hO
      have HL := Aside0.mk hl
      clear hl hO
      generalize rd nm k = x at *
      go_wp2_with (at_builtin; refine appB (w0 := w1) w1.heap.size rfl (.tmp 9) (.tmp 13) rfl _ _ x rfl rfl HO.out hB hB.size HL.out ?_; intro v2 w2 hO2 hB2 _ _)
      go_roundw
      case rel => exact ⟨k + 1, by omega, by go_num, by rw [HT.out]; exact hO2, hB2⟩
      case measure => simp [intOf]; omega
    · obtain rfl : k = 32 := by omega
      go_wp2
      go_ret
      exact ⟨_, rfl, by rw [List.take_of_length_le (by have := HN.out; omega)] at hO; exact Kd.R_lower hO hB1.size, below_tr' hB1 hB⟩

def fillN (xs : List Int) (n k : Nat) : List Int := xs.take k ++ List.replicate (n - k) 0
theorem fillN_len {xs : List Int} {n k : Nat} (h : k ≤ n) (hx : n ≤ xs.length) : (fillN xs n k).length = n := by
  rw [fillN, List.length_append, List.length_take, List.length_replicate]
  omega
theorem fillN_set {xs : List Int} {n k : Nat} (h : k < n) (hx : n ≤ xs.length) : (fillN xs n k).set k (rd xs k) = fillN xs n (k + 1) := by
  unfold fillN
  rw [take_snoc (by omega), List.set_append_right _ _ (by rw [List.length_take]; omega), List.length_take, show k - min k xs.length = 0 by omega, show n - k = (n - (k + 1)) + 1 by omega, List.replicate_succ, List.set_cons_zero, List.append_assoc]
  rfl
theorem Nm_set (xs : List Int) (k : Nat) (x : Int) : (Nm xs).toArray.setIfInBounds k (.int .u8 x) = (Nm (xs.set k x)).toArray := by
  simp [Nm, List.map_set]

theorem clone_calls (A : Option Addr) (n c : Nat) (xs : List Int) (w : World) (h : RdB w A n xs) (hn : n ≤ 140737488355328) :
    Calls Tryd.prog 23 #[.slice A n c] w fun e w' => ∃ v, e = .returned v ∧ OwB w' w.heap.size v xs ∧ Below w.heap.size w w' := by
  have H := Aside0.mk h
  have hnil := Lib.run_eql_slice_nil (P := Tryd.prog) w 22 5 A n c 0 0 Tryd.underlying22
  rcases A with _ | ad
  · have h0 : xs = [] := by
      rcases Nat.eq_zero_or_pos n with h0 | h0
      · exact List.eq_nil_of_length_eq_zero (by have := h.1; omega)
      · obtain ⟨ad, e, _⟩ := h.2.2 h0
        cases e
    clear h
    subst h0
    simp only [Option.isNone_none] at hnil
    go_enter Tryd.func23, Tryd.ntmps23
    go_wp2
    go_ret
    exact ⟨_, rfl, Kd.R_nil _ _ _ _ _, Below.refl _ _⟩
  · clear h
    simp only [Option.isNone_some] at hnil
    go_enter Tryd.func23, Tryd.ntmps23
    go_wp2_with (at_builtin; refine appBs (w0 := w) w.heap.size rfl (.tmp 5) (.tmp 6) rfl (.slice (some ⟨w.heap.size, 0, none⟩) 0 0) [] xs (some ad) n c rfl rfl (own_litB w _ [] _ _ rfl rfl (Nat.le_refl _) (by simp)) (Kd.C_alloc H.out _) ((Below.refl _ _).alloc (Nat.le_refl _) _) (by simp) (by simp; omega) ?_; intro v1 w1 hO hB _ _)
    go_ret
    exact ⟨_, rfl, by simpa using hO, hB⟩

end Go.Proofs.YtnfbficpodnglaaDoor
