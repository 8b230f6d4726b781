/- Messages in memory: their cells, what is read of them. Plain lemmas. -/
import Derived.Test.YtbagphegelbgcaaRef03
import Derived.Deep.MidRow
namespace Go.Proofs.Ytbagphegelbgcaa
open Go.RowKit Go.Proofs.YtbagphegelbgcaaW.PrintWords Go.Proofs.YtbagphegelbgcaaW.PrintMore
set_option linter.unusedVariables false
set_option linter.unusedSimpArgs false

/-- A digest's cells; a message's. -/
def Nm (nm : List Int) : List Value := nm.map (Value.int .u8)
def Mc (k s : Int) (nm : List Int) (b : Value) : List Value := .int .i64 k :: .int .i64 s :: (Nm nm ++ [b])
theorem Nm_len (nm : List Int) : (Nm nm).length = nm.length := by simp [Nm]
theorem Mc_len {k s : Int} {nm : List Int} {b : Value} (h : nm.length = 32) : (Mc k s nm b).length = 35 := by simp [Mc, Nm_len, h]
theorem msg_cells {w : World} {g T : Nat} {k s : Int} {nm : List Int} {b : Value} {fr : Nat × Nat} (h : w.heap[g]? = some (.cells (Mc k s nm b).toArray T fr)) (hn : nm.length = 32) :
    w.cell? ⟨g, 0, none⟩ = some (.int .i64 k) ∧ w.cell? ⟨g, 1, none⟩ = some (.int .i64 s) ∧ w.cell? ⟨g, 34, none⟩ = some b ∧ w.rangeAt g 2 (Nm nm) ∧ w.rangeAt g 0 (Mc k s nm b) := by
  have hc := fun j => cell_of_row w g j _ T fr h
  refine ⟨by rw [hc]; rfl, by rw [hc]; rfl, ?_, ?_, ?_⟩
  · rw [hc]
    have : (Mc k s nm b)[34]? = some b := by
      show ((Nm nm ++ [b])[32]? : Option Value) = some b
      rw [List.getElem?_append_right (by simp [Nm_len, hn])]
      simp [Nm_len, hn]
    simpa using this
  · intro j v hv
    rw [hc]
    have hj : j < (Nm nm).length := (List.getElem?_eq_some_iff.1 hv).1
    show ((Mc k s nm b).toArray[2 + j]? : Option Value) = some v
    rw [List.getElem?_toArray, Nat.add_comm 2 j]
    show ((Nm nm ++ [b])[j]? : Option Value) = some v
    rw [List.getElem?_append_left hj]
    exact hv
  · intro j v hv
    rw [hc, Nat.zero_add, List.getElem?_toArray]
    exact hv
theorem msg_arr {C : Array Value} {k s : Int} {nm : List Int} {b : Value} (h : C = (Mc k s nm b).toArray) (hn : nm.length = 32) :
    C[0]? = some (.int .i64 k) ∧ C[1]? = some (.int .i64 s) ∧ C[34]? = some b ∧ C.size = 35 := by
  subst h
  have h1 := msg_cells (blk_new (default : World) (.cells (Mc k s nm b).toArray 0)) hn
  rw [blk_cell (blk_new (default : World) (.cells (Mc k s nm b).toArray 0)), blk_cell (blk_new (default : World) (.cells (Mc k s nm b).toArray 0)), blk_cell (blk_new (default : World) (.cells (Mc k s nm b).toArray 0))] at h1
  exact ⟨h1.1, h1.2.1, h1.2.2.1, by rw [List.size_toArray, Mc_len hn]⟩
theorem Nm_one (nm : List Int) : ∀ v ∈ Nm nm, v.oneCell' = true := by
  intro v hv
  obtain ⟨x, _, rfl⟩ := List.mem_map.1 hv
  rfl

/-- Which messages may be. -/
def mayB (k s : Int) (n : Nat) : Bool := decide (1 ≤ k ∧ k ≤ 3 ∧ 0 ≤ s ∧ s ≤ 4294967295 ∧ (n = 0 ∨ (k = 2 ∧ n ≤ 4106)))

theorem ret_bool {a b : Bool} (h : a = b) : Ending.returned (.bool a) = Ending.returned (.bool b) := by rw [h]
theorem empty_iff (b : ByteArray) : b = ByteArray.empty ↔ b.size = 0 := by
  constructor
  · rintro rfl; rfl
  · intro h
    have h1 : b.data.toList = [] := List.eq_nil_of_length_eq_zero ((data_length b).trans h)
    calc b = ⟨b.data⟩ := rfl
      _ = ⟨#[]⟩ := by rw [Array.toList_eq_nil_iff.1 h1]
      _ = ByteArray.empty := rfl
/-- wire.May -/
theorem wmay_calls (k s : Int) (nm : List Int) (A : Option Addr) (n c : Nat) (C : Array Value) (w : World) (hC : C = (Mc k s nm (.slice A n c)).toArray) (hn : nm.length = 32) (hm : n ≤ 140737488355328) :
    Calls Try.prog 15 #[.agg C] w fun e w' => e = .returned (.bool (mayB k s n)) ∧ Below w.heap.size w w' := by
  obtain ⟨h0, h1, h2, _, _⟩ := msg_cells (by rw [← hC]; exact blk_new w (.cells C 36)) hn
  clear hC hn
  have h0' := fun o => (World.cell?_alloc_lt _ o _ (World.block_lt_of_cell? _ _ h0)).trans h0
  clear h0'
  go_enter Try.func15, Try.ntmps15
  go_wp2
  all_goals
    go_ret
    refine ⟨?_, (Below.refl _ _).alloc (Nat.le_refl _) _⟩
    refine ret_bool ?_
    unfold mayB
    rw [Bool.eq_iff_iff]
    try simp only [decide_eq_true_eq, Bool.or_eq_true, beq_iff_eq, beq_eq_false_iff_ne, empty_iff, Bool.false_eq_true, false_iff, true_iff] at *
    omega

/-- ref18.May -/
theorem rmay_calls (k s : Int) (nm : List Int) (b : ByteArray) (C : Array Value) (w : World) (hC : C = (Mc k s nm (.string b)).toArray) (hn : nm.length = 32) (hm : b.size ≤ 9223372036854775807) :
    Calls Try.prog 12 #[.agg C] w fun e w' => e = .returned (.bool (mayB k s b.size)) ∧ Below w.heap.size w w' := by
  obtain ⟨h0, h1, h2, _, _⟩ := msg_cells (by rw [← hC]; exact blk_new w (.cells C 25)) hn
  have hz : b.toList.isEmpty = decide (b.size = 0) := by
    rw [ByteArray.toList_eq]
    rw [Bool.eq_iff_iff, List.isEmpty_iff, decide_eq_true_iff, ← List.length_eq_zero_iff, data_length]
  clear hC hn
  go_enter Try.func12, Try.ntmps12
  go_wp2
  all_goals
    go_ret
    refine ⟨?_, (Below.refl _ _).alloc (Nat.le_refl _) _⟩
    refine ret_bool ?_
    unfold mayB
    rw [Bool.eq_iff_iff]
    try simp only [decide_eq_true_eq, Bool.or_eq_true, beq_iff_eq, beq_eq_false_iff_ne, empty_iff, Bool.false_eq_true, false_iff, true_iff] at *
    omega

end Go.Proofs.Ytbagphegelbgcaa
