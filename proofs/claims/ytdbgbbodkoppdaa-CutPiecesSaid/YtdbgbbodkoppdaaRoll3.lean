/- The hash of the last 16 bytes; a roll's cells; contracts: RotateLeft32, roll.New, Sum, Reset, Word. Conditions: each contract's own. -/
import Derived.Test.YtdbgbbodkoppdaaRoll2
namespace Go.Proofs.Ytdbgbbodkoppdaa
open Go.RowKit Go.Proofs.YtdbgbbodkoppdaaW.PrintWords Go.Proofs.YtdbgbbodkoppdaaW.PrintMore
set_option linter.unusedVariables false
set_option linter.unusedSimpArgs false
def hx : List Int → Int
  | [] => 0
  | c :: t => xr (rls (bword c) t.length) (hx t)
theorem hx_range : ∀ t, 0 ≤ hx t ∧ hx t < 4294967296
  | [] => by decide
  | c :: t => xr_range (rls_range (bword_range c) _) (hx_range t)
theorem rl_zero : rl 0 = 0 := by decide
theorem hx_snoc (c : Int) : ∀ t, hx (t ++ [c]) = xr (rl (hx t)) (bword c)
  | [] => by
    show xr (rls (bword c) 0) 0 = xr (rl 0) (bword c)
    rw [rl_zero, xr_zero (bword_range c)]
    exact xr_zero' (bword_range c)
  | a :: t => by
    have ha := rls_range (bword_range a) t.length
    have ht := hx_range t
    show xr (rls (bword a) (t ++ [c]).length) (hx (t ++ [c])) = xr (rl (xr (rls (bword a) t.length) (hx t))) (bword c)
    rw [hx_snoc c t, rl_xr ha ht, xr_assoc (rl_range ha) (rl_range ht) (bword_range c), List.length_append]
    rfl
/-- The hash of bytes. -/
def hov (b : List Int) : Int := hx (b.drop (b.length - 16))
theorem hov_range (b : List Int) : 0 ≤ hov b ∧ hov b < 4294967296 := hx_range _
theorem hov_nil : hov [] = 0 := rfl
theorem hov_few (b : List Int) (c : Int) (h : b.length < 16) : hov (b ++ [c]) = xr (rl (hov b)) (bword c) := by
  unfold hov
  rw [show (b ++ [c]).length - 16 = 0 by rw [List.length_append, List.length_singleton]; omega, show b.length - 16 = 0 by omega, List.drop_zero, List.drop_zero, hx_snoc]
theorem hov_more (b : List Int) (c a : Int) (h : 16 ≤ b.length) (ha : a = rd b ((b.length - 16 : Nat) : Int)) : hov (b ++ [c]) = xr (xr (rl (hov b)) (bword c)) (rls (bword a) 16) := by
  unfold hov
  have hlt : b.length - 16 < b.length := by omega
  have e1 : b.drop (b.length - 16) = a :: b.drop (b.length - 16 + 1) := by
    rw [List.drop_eq_getElem_cons hlt, ha]
    unfold Go.Proofs.YtdbgbbodkoppdaaW.PrintWords.rd
    rw [Int.toNat_natCast, List.getD_eq_getElem?_getD, List.getElem?_eq_getElem hlt]
    rfl
  have e2 : (b ++ [c]).drop ((b ++ [c]).length - 16) = b.drop (b.length - 16 + 1) ++ [c] := by
    rw [List.length_append, List.length_singleton, show b.length + 1 - 16 = b.length - 16 + 1 by omega, List.drop_append_of_le_length (by omega)]
  have hl : (b.drop (b.length - 16 + 1)).length = 15 := by rw [List.length_drop]; omega
  rw [e1, e2, hx_snoc]
  generalize b.drop (b.length - 16 + 1) = t at *
  have hA := rls_range (bword_range a) 15
  have hT := hx_range t
  have hR := rls_range (bword_range a) 16
  have hW := bword_range c
  show xr (rl (hx t)) (bword c) = xr (xr (rl (xr (rls (bword a) t.length) (hx t))) (bword c)) (rls (bword a) 16)
  rw [hl, rl_xr hA hT]
  show xr (rl (hx t)) (bword c) = xr (xr (xr (rls (bword a) 16) (rl (hx t))) (bword c)) (rls (bword a) 16)
  rw [xr_assoc hR (rl_range hT) hW, xr_comm (xr_range hR (xr_range (rl_range hT) hW)) hR, ← xr_assoc hR hR (xr_range (rl_range hT) hW), xr_self hR, xr_zero (xr_range (rl_range hT) hW)]
/-- A roll's cells. -/
def RR (la : List Int) (n s : Int) : List Value := la.map (Value.int .u8) ++ [.int .i64 n, .int .u32 s]
theorem RR_n {la : List Int} {n s : Int} (h : la.length = 16) : (RR la n s)[16]? = some (.int .i64 n) := by simp [RR, List.getElem?_append_right, h]
theorem RR_s {la : List Int} {n s : Int} (h : la.length = 16) : (RR la n s)[17]? = some (.int .u32 s) := by simp [RR, List.getElem?_append_right, h]
theorem RR_l {la : List Int} {n s : Int} (h : la.length = 16) (k : Nat) (hk : k < 16) : (RR la n s)[k]? = some (.int .u8 (rd la k)) := by
  unfold Go.Proofs.YtdbgbbodkoppdaaW.PrintWords.rd
  rw [RR, List.getElem?_append_left (by rw [List.length_map]; omega), List.getElem?_map, List.getElem?_eq_getElem (by omega), Int.toNat_natCast, List.getD_eq_getElem?_getD, List.getElem?_eq_getElem (by omega)]
  rfl
theorem RR_set_n {la : List Int} {n s m : Int} (h : la.length = 16) : (RR la n s).set 16 (.int .i64 m) = RR la m s := by simp [RR, List.set_append_right, h]
theorem RR_set_s {la : List Int} {n s m : Int} (h : la.length = 16) : (RR la n s).set 17 (.int .u32 m) = RR la n m := by simp [RR, List.set_append_right, h]
theorem RR_set_l {la : List Int} {n s : Int} (h : la.length = 16) (k : Nat) (hk : k < 16) (c : Int) : (RR la n s).set k (.int .u8 c) = RR (la.set k c) n s := by
  rw [RR, RR, List.set_append_left _ _ (by rw [List.length_map]; omega), List.map_set]
abbrev RB (w : World) (g : Nat) (d : Int) (ls la : List Int) (n s : Int) : Prop := w.heap[g]? = some (.cells (Oc d 0 ls (RR la n s)).toArray 80 (0, 0))
theorem RB.n {w : World} {g : Nat} {d : Int} {ls la : List Int} {n s : Int} (h : RB w g d ls la n s) (hl : ls.length = 256) (ha : la.length = 16) : w.cell? ⟨g, 275, none⟩ = some (.int .i64 n) := by
  rw [blk_cell h]; exact (Oc_rest hl 16).trans (RR_n ha)
theorem RB.s {w : World} {g : Nat} {d : Int} {ls la : List Int} {n s : Int} (h : RB w g d ls la n s) (hl : ls.length = 256) (ha : la.length = 16) : w.cell? ⟨g, 276, none⟩ = some (.int .u32 s) := by
  rw [blk_cell h]; exact (Oc_rest hl 17).trans (RR_s ha)
theorem RB.l {w : World} {g : Nat} {d : Int} {ls la : List Int} {n s : Int} (h : RB w g d ls la n s) (hl : ls.length = 256) (ha : la.length = 16) (k : Nat) (hk : k < 16) : w.cell? ⟨g, 259 + k, none⟩ = some (.int .u8 (rd la k)) := by
  rw [blk_cell h]; exact (Oc_rest hl k).trans (RR_l ha k hk)
/-- A roll at g: the bytes since it was made anew. -/
def RSt (w : World) (g : Nat) (b : List Int) : Prop :=
  ∃ (d : Int) (ls la : List Int), RB w g d ls la b.length (hov b) ∧ ls.length = 256 ∧ la.length = 16 ∧ (d = 0 ∨ d = 1 ∧ ls = WT 256) ∧ Bytes la ∧ ∀ j : Nat, j < b.length → b.length ≤ j + 16 → rd la ((j % 16 : Nat) : Int) = rd b j
theorem RSt.move {w w1 : World} {g : Nat} {b : List Int} (h : RSt w g b) (hm : w1.heap[g]? = w.heap[g]?) : RSt w1 g b := by
  obtain ⟨d, ls, la, h1, h2⟩ := h
  exact ⟨d, ls, la, hm.trans h1, h2⟩
theorem RSt.lt {w : World} {g : Nat} {b : List Int} (h : RSt w g b) : g < w.heap.size := by
  obtain ⟨d, ls, la, h1, _⟩ := h
  exact (Array.getElem?_eq_some_iff.1 h1).1
theorem RSt.below {w w1 : World} {g : Nat} {b : List Int} (h : RSt w g b) (hb : Below w.heap.size w w1) : RSt w1 g b := h.move (hb.block g h.lt)
theorem rolt1_calls (x : Int) (w : World) (h0 : 0 ≤ x) (h1 : x < 4294967296) :
    Calls Try.prog 31 #[.int .u32 x, .int .i64 1] w fun e w' => e = .returned (.int .u32 (rl x)) ∧ w = w' := by
  have hr : Go.bits .or .u32 (x * 2 % 4294967296) (x / 2147483648) = rl x := rolt_bits x 31 2 2147483648 (by omega) (by omega) h0 h1 rfl rfl
  go_enter Try.func31, Try.ntmps31
  have e0 : Go.bits .and .u64 1 31 = 1 := by decide +kernel
  go_wp2
  go_ret
  exact ⟨rfl, rfl⟩
theorem rolt16_calls (x : Int) (w : World) (h0 : 0 ≤ x) (h1 : x < 4294967296) :
    Calls Try.prog 31 #[.int .u32 x, .int .i64 16] w fun e w' => e = .returned (.int .u32 (rls x 16)) ∧ w = w' := by
  have hr : Go.bits .or .u32 (x * 65536 % 4294967296) (x / 65536) = rls x 16 := by rw [rls_rot x ⟨h0, h1⟩ 16 (by omega)]; exact rolt_bits x 16 65536 65536 (by omega) (by omega) h0 h1 rfl rfl
  go_enter Try.func31, Try.ntmps31
  have e0 : Go.bits .and .u64 16 31 = 16 := by decide +kernel
  go_wp2
  go_ret
  exact ⟨rfl, rfl⟩
set_option maxRecDepth 20000 in
theorem built_r0 : Try.prog.built 80 [] = some (Oc 0 0 (List.replicate 256 0) (RR (List.replicate 16 0) 0 0)).toArray := by kernel_rfl
set_option maxRecDepth 20000 in
theorem rnew_calls (w : World) : Calls Try.prog 20 #[] w fun e w' => e = .returned (.pointer (some ⟨w.heap.size, 0, none⟩)) ∧ RSt w' w.heap.size [] ∧ Below w.heap.size w w' ∧ w'.heap.size = w.heap.size + 1 := by
  obtain ⟨C, hC, hb⟩ : ∃ C, Aside0 (C = (Oc 0 0 (List.replicate 256 0) (RR (List.replicate 16 0) 0 0)).toArray) ∧ Try.prog.built 80 [] = some C := ⟨_, ⟨rfl⟩, built_r0⟩
  go_enter Try.func20, Try.ntmps20
  go_wp2_with (((with_reducible refine at_bd 80 ?_); refine build_arm rfl 80 _ rfl hb ?_; simp only [Act.put, List.setIfInBounds_toArray, List.set_cons_zero, List.set_cons_succ]))
  go_ret
  refine ⟨rfl, ⟨0, List.replicate 256 0, List.replicate 16 0, (show (w.alloc (Obj.cells C 80)).heap[w.heap.size]? = some (.cells (Oc 0 0 (List.replicate 256 0) (RR (List.replicate 16 0) 0 0)).toArray 80 (0, 0)) by rw [← hC.out]; exact blk_new w _), List.length_replicate, List.length_replicate, .inl rfl, fun x hx => ?_, fun j hj => by simp at hj⟩, (Below.refl _ _).alloc (Nat.le_refl _) _, by simp⟩
  rw [(List.mem_replicate.1 hx).2]; omega
end Go.Proofs.Ytdbgbbodkoppdaa
