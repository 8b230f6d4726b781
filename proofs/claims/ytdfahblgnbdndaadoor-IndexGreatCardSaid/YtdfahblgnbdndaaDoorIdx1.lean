/- index.Total, lighterageref11.Total, and which indexes may be. Conditions: their own. -/
import Derived.Test.YtdfahblgnbdndaaDoorIdx0
namespace Go.Proofs.YtdfahblgnbdndaaDoor
open Go.RowKit Go.Proofs.YtdfahblgnbdndaaDoorW.PrintWords Go.Proofs.YtdfahblgnbdndaaDoorW.PrintMore
set_option linter.unusedVariables false
set_option linter.unusedSimpArgs false
theorem infoX : (Tryd.prog.info? 29).map (fun i => (i.zero, i.size, i.bytes)) = some (some (.agg (Xc 0 0 0 Z32 (.slice none 0 0)).toArray), 36, 80) := by kernel_rfl
theorem infoRX : (Tryd.prog.info? 38).map (fun i => (i.zero, i.size, i.bytes)) = some (some (.agg (Xc 0 0 0 Z32 (.slice none 0 0)).toArray), 36, 80) := by kernel_rfl
section
variable {ops : Array Oper} {rest : List Oper} {o : Oper} {a : Act} {Q : Exit → Act → World → Prop} {w : World}
theorem new_it {o1 o2 : Oper} {N : Tmp} (hg1 : o1.guard = none) (hg2 : o2.guard = none) (hd1 : o1.dst = some N) (ho1 : o1.op = .alloc 41) (y : Operand) (ho2 : o2.op = .store 41 (.tmp N) y) (hN : N < a.tmps.size) {x : Itm}
    (hy : (a.put (some N) (.pointer (some ⟨w.heap.size, 0, none⟩))).eval y = .agg (icells x).toArray) (hn : x.1.length = 32)
    (h : ∀ w1 g, NewBlk w w1 g (.cells (icells x).toArray 41 (0, 0)) → wpList Tryd.prog ops Q rest ((a.put (some N) (.pointer (some ⟨g, 0, none⟩))).put o2.dst undef) w1) : wpList Tryd.prog ops Q (o1 :: o2 :: rest) a w := by
  obtain ⟨it, hi, hz, hs, _⟩ := info_parts infoI
  exact new_var hg1 hg2 hd1 _ ho1 y ho2 hN hy hi hz (by rw [zI_size, icells_len hn]) (by rw [hs, icells_len hn]) (icells_one x) h
theorem new_x {o1 o2 : Oper} {N : Tmp} {p q r : Int} {im : List Int} {v : Value} (hg1 : o1.guard = none) (hg2 : o2.guard = none) (hd1 : o1.dst = some N) (ho1 : o1.op = .alloc 29) (y : Operand) (ho2 : o2.op = .store 29 (.tmp N) y) (hN : N < a.tmps.size)
    (hy : (a.put (some N) (.pointer (some ⟨w.heap.size, 0, none⟩))).eval y = .agg (Xc p q r im v).toArray) (hn : im.length = 32) (hv : v.oneCell' = true)
    (h : ∀ w1 g, NewBlk w w1 g (.cells (Xc p q r im v).toArray 29 (0, 0)) → wpList Tryd.prog ops Q rest ((a.put (some N) (.pointer (some ⟨g, 0, none⟩))).put o2.dst undef) w1) : wpList Tryd.prog ops Q (o1 :: o2 :: rest) a w := by
  obtain ⟨it, hi, hz, hs, _⟩ := info_parts infoX
  exact new_var hg1 hg2 hd1 _ ho1 y ho2 hN hy hi hz (by rw [Xc_len hn]; exact Xc_len Z32_len) (by rw [hs, Xc_len hn]) (Xc_one hv) h
theorem new_rx {o1 o2 : Oper} {N : Tmp} {p q r : Int} {im : List Int} {v : Value} (hg1 : o1.guard = none) (hg2 : o2.guard = none) (hd1 : o1.dst = some N) (ho1 : o1.op = .alloc 38) (y : Operand) (ho2 : o2.op = .store 38 (.tmp N) y) (hN : N < a.tmps.size)
    (hy : (a.put (some N) (.pointer (some ⟨w.heap.size, 0, none⟩))).eval y = .agg (Xc p q r im v).toArray) (hn : im.length = 32) (hv : v.oneCell' = true)
    (h : ∀ w1 g, NewBlk w w1 g (.cells (Xc p q r im v).toArray 38 (0, 0)) → wpList Tryd.prog ops Q rest ((a.put (some N) (.pointer (some ⟨g, 0, none⟩))).put o2.dst undef) w1) : wpList Tryd.prog ops Q (o1 :: o2 :: rest) a w := by
  obtain ⟨it, hi, hz, hs, _⟩ := info_parts infoRX
  exact new_var hg1 hg2 hd1 _ ho1 y ho2 hN hy hi hz (by rw [Xc_len hn]; exact Xc_len Z32_len) (by rw [hs, Xc_len hn]) (Xc_one hv) h
end
theorem it_cells {w : World} {g T : Nat} {x : Itm} {fr : Nat × Nat} (h : w.heap[g]? = some (.cells (icells x).toArray T fr)) (hn : x.1.length = 32) : w.cell? ⟨g, 32, none⟩ = some (.int .i64 x.2) ∧ w.rangeAt g 0 (Nm x.1) := by
  have hc := fun j => cell_of_row w g j _ T fr h
  refine ⟨by rw [hc]; exact it_last hn, fun j u hu => ?_⟩
  rw [hc, Nat.zero_add, List.getElem?_toArray]
  unfold icells
  rw [List.getElem?_append_left (List.getElem?_eq_some_iff.1 hu).1]
  exact hu
theorem ic_last {x : Itm} (hn : x.1.length = 32) : (icells x)[32]? = some (.int .i64 x.2) := by
  have := it_last hn
  rwa [List.getElem?_toArray] at this
theorem ic_name {x : Itm} (hn : x.1.length = 32) (j : Nat) (u : Value) (h : (Nm x.1)[j]? = some u) : (icells x)[j]? = some u := by
  unfold icells
  rw [List.getElem?_append_left (List.getElem?_eq_some_iff.1 h).1]
  exact h
/-- The size of an element that is read. -/
theorem elem_size {w : World} {ad : Addr} {k : Nat} {x : Itm} (hn : x.1.length = 32) (h : ∀ j u, (icells x)[j]? = some u → w.cell? (ad.add (k + j)) = some u) : w.cell? ⟨(ad.add k).block, (ad.add k).off + 32, none⟩ = some (.int .i64 x.2) := by
  have := h 32 _ (ic_last hn)
  rwa [add_field _ _ _ (by omega)] at this
def szs (its : List Itm) (m : Int) : Prop := ∀ k, k < its.length → 0 ≤ (its.getD k ([], 0)).2 ∧ (its.getD k ([], 0)).2 ≤ m
theorem tot_range {its : List Itm} {m : Int} (h : szs its m) (k : Nat) (hk : k ≤ its.length) : 0 ≤ tot (its.take k) ∧ tot (its.take k) ≤ k * m := by
  induction k with
  | zero => simp [tot_nil]
  | succ k ih =>
    have h1 := ih (by omega)
    have h2 := h k (by omega)
    rw [tot_take (by omega)]
    rw [Int.natCast_add, Int.add_mul]
    omega
set_option maxRecDepth 20000 in
set_option maxHeartbeats 1600000 in
theorem itotal_calls (a b c : Int) (im : List Int) (A : Option Addr) (n cp : Nat) (its : List Itm) (C : Array Value) (w : World) (hC : C = (Xc a b c im (.slice A n cp)).toArray) (hn : im.length = 32) (h : RdI w A n its) (hs : szs its 1048576) (hl : n ≤ 1048576) :
    Calls Tryd.prog 12 #[.agg C] w fun e w' => e = .returned (.int .i64 (tot its)) ∧ Below w.heap.size w w' := by
  obtain rfl : its.length = n := h.1
  have HX := Aside0.mk h
  have HS := Aside0.mk hs
  have HR := Aside0.mk (tot_range hs)
  have hc35 : (w.alloc (.cells C 29)).cell? ⟨w.heap.size, 35, none⟩ = some (.slice A its.length cp) := (x_cells (by rw [hC]; exact blk_new w _) hn).2.2.2.1
  clear hC h hs
  go_enter Tryd.func12, Tryd.ntmps12
  go_wp2
  obtain ⟨w1, hw1⟩ : ∃ w1, w1 = w.alloc (.cells C 29) := ⟨_, rfl⟩
  have L1 : Aside0 (Below w.heap.size w w1) := ⟨by rw [hw1]; exact below_alloc (Below.refl _ _) _⟩
  rw [← hw1]
  clear hw1 hc35
  go_loopw [3, 5, 9] (fun s _ i wr => ∃ k : Nat, k ≤ its.length ∧ i = .int .i64 k ∧ s = .int .i64 (tot (its.take k)) ∧ Below w.heap.size w wr) (fun _ _ i _ => its.length - (intOf i).toNat)
  case atStart => exact ⟨0, Nat.zero_le _, rfl, rfl, L1.out⟩
  case round =>
    obtain ⟨k, hk, rfl, rfl, hB⟩ := hrel
    have HB := Aside0.mk hB
    clear hB
    by_cases hlt : k < its.length
    · obtain ⟨ad, rfl, hx32, hxc⟩ := kf_at (Kd.C_below HX.out HB.out) ([], 0) k hlt
      have HXC := Aside0.mk hxc
      have HX32 := Aside0.mk hx32
      have HT := Aside0.mk (tot_take hlt)
      have hr1 := HR.out k (by omega)
      have hr2 := HS.out k hlt
      have hm1 : (k : Int) * 1048576 ≤ 1099511627776 := by omega
      generalize its.getD k ([], 0) = X at *
      obtain ⟨nm, sz⟩ := X
      generalize tot (its.take k) = T at *
      clear hxc hx32
      dsimp only at hr2
      go_wp2_with (first
        | ((with_reducible refine at_ld 41 (.tmp 11) ?_); refine load_arm rfl 41 (.tmp 11) rfl rfl (ld_elem HXC.out 41 _ Tryd.underlying41 rfl (size_it HX32.out)) ?_; simp only [Act.put, List.setIfInBounds_toArray, List.set_cons_zero, List.set_cons_succ])
        | ((with_reducible refine at_al 41 ?_); refine new_it rfl rfl rfl rfl (.tmp 12) rfl (of_decide_eq_true rfl) rfl HX32.out ?_; rintro w3 g3 HN); have hc3 := (it_cells HN.at_ HX32.out).1; have HB3 : Aside0 (Below w.heap.size w w3) := ⟨HB.out.trans (HN.below.mono HB.out.size)⟩; clear HN; dsimp only at hc3)
      go_roundw
      case rel => exact ⟨k + 1, by omega, by go_num, by rw [HT.out], HB3.out⟩
      case measure => simp [intOf]; omega
    · obtain rfl : k = its.length := by omega
      rw [List.take_length]
      go_wp2
      go_ret
      exact ⟨rfl, HB.out⟩
set_option maxRecDepth 20000 in
set_option maxHeartbeats 1600000 in
theorem rtotal_calls (a b c : Int) (im : List Int) (A : Option Addr) (n cp : Nat) (its : List Itm) (C : Array Value) (w : World) (hC : C = (Xc a b c im (.slice A n cp)).toArray) (hn : im.length = 32) (h : RdI w A n its) (hs : szs its 1048576) (hl : n ≤ 1048576) :
    Calls Tryd.prog 21 #[.agg C] w fun e w' => e = .returned (.int .i64 (tot its)) ∧ Below w.heap.size w w' := by
  obtain rfl : its.length = n := h.1
  have HX := Aside0.mk h
  have HS := Aside0.mk hs
  have HR := Aside0.mk (tot_range hs)
  have hc35 : (w.alloc (.cells C 38)).cell? ⟨w.heap.size, 35, none⟩ = some (.slice A its.length cp) := (x_cells (by rw [hC]; exact blk_new w _) hn).2.2.2.1
  clear hC h hs
  go_enter Tryd.func21, Tryd.ntmps21
  go_wp2
  obtain ⟨w1, hw1⟩ : ∃ w1, w1 = w.alloc (.cells C 38) := ⟨_, rfl⟩
  have L1 : Aside0 (Below w.heap.size w w1) := ⟨by rw [hw1]; exact below_alloc (Below.refl _ _) _⟩
  rw [← hw1] at hc35 ⊢
  clear hw1
  go_loopw [3, 4] (fun s i wr => ∃ k : Nat, k ≤ its.length ∧ i = .int .i64 k ∧ s = .int .i64 (tot (its.take k)) ∧ w1 = wr) (fun _ i _ => its.length - (intOf i).toNat)
  case atStart => exact ⟨0, Nat.zero_le _, rfl, rfl, rfl⟩
  case round =>
    obtain ⟨k, hk, rfl, rfl, rfl⟩ := hrel
    by_cases hlt : k < its.length
    · obtain ⟨ad, rfl, hx32, hxc⟩ := kf_at (Kd.C_below HX.out L1.out) ([], 0) k hlt
      have HT := Aside0.mk (tot_take hlt)
      have hr1 := HR.out k (by omega)
      have hr2 := HS.out k hlt
      have hm1 : (k : Int) * 1048576 ≤ 1099511627776 := by omega
      have hes := elem_size hx32 hxc
      generalize its.getD k ([], 0) = X at *
      obtain ⟨nm, sz⟩ := X
      generalize tot (its.take k) = T at *
      clear hxc hx32
      dsimp only at hr2 hes
      go_wp2
      go_roundw
      case rel => exact ⟨k + 1, by omega, by go_num, by rw [HT.out], trivial⟩
      case measure => simp [intOf]; omega
    · obtain rfl : k = its.length := by omega
      rw [List.take_length]
      go_wp2
      go_ret
      exact ⟨rfl, L1.out⟩
end Go.Proofs.YtdfahblgnbdndaaDoor
