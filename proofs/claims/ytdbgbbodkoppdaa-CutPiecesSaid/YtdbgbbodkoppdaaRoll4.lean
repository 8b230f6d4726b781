/- Contracts: roll.Reset, Add, Word, Hash. Conditions: each contract's own. -/
import Derived.Test.YtdbgbbodkoppdaaRoll3
namespace Go.Proofs.Ytdbgbbodkoppdaa
open Go.RowKit Go.Proofs.YtdbgbbodkoppdaaW.PrintWords Go.Proofs.YtdbgbbodkoppdaaW.PrintMore
set_option linter.unusedVariables false
set_option linter.unusedSimpArgs false
section
variable {ops : Array Oper} {rest : List Oper} {o : Oper} {a : Act} {Q : Exit → Act → World → Prop} {w W : World} {g : Nat} {d : Int} {ls la : List Int} {n s : Int}
theorem rr_there (h : RB w g d ls la n s) (hl : ls.length = 256) (ha : la.length = 16) (k : Nat) (hk : k < 18) : (∃ u, w.cell? ⟨g, 259 + k, none⟩ = some u) ∧ w.frozen? ⟨g, 259 + k, none⟩ = false := by
  refine ⟨?_, blk_frozen h _⟩
  rw [blk_cell h, Oc_rest hl k]
  exact ⟨_, List.getElem?_eq_getElem (by simp [RR, ha]; omega)⟩
theorem set_rn (h : RB w g d ls la n s) (hl : ls.length = 256) (ha : la.length = 16) (m : Int) : SetBlk w (w.setCell ⟨g, 275, none⟩ (.int .i64 m)) g (.cells (Oc d 0 ls (RR la m s)).toArray 80 (0, 0)) := by
  have := setBlk_cell h (.int .i64 m) (i := 275)
  rwa [show 275 = 259 + 16 by rfl, Oc_set_rest hl, RR_set_n ha] at this
theorem set_rs (h : RB w g d ls la n s) (hl : ls.length = 256) (ha : la.length = 16) (m : Int) : SetBlk w (w.setCell ⟨g, 276, none⟩ (.int .u32 m)) g (.cells (Oc d 0 ls (RR la n m)).toArray 80 (0, 0)) := by
  have := setBlk_cell h (.int .u32 m) (i := 276)
  rwa [show 276 = 259 + 17 by rfl, Oc_set_rest hl, RR_set_s ha] at this
theorem set_rl (h : RB w g d ls la n s) (hl : ls.length = 256) (ha : la.length = 16) (k : Nat) (hk : k < 16) (c : Int) : SetBlk w (w.setCell ⟨g, 259 + k, none⟩ (.int .u8 c)) g (.cells (Oc d 0 ls (RR (la.set k c) n s)).toArray 80 (0, 0)) := by
  have := setBlk_cell h (.int .u8 c) (i := 259 + k)
  rwa [Oc_set_rest hl, RR_set_l ha k hk] at this
theorem store_rn (hgd : o.guard = none) (x y : Operand) (ho : o.op = .store 3 x y) {m : Int} (hx : a.eval x = .pointer (some ⟨g, 275, none⟩)) (hy : a.eval y = .int .i64 m) (h : RB w g d ls la n s) (hl : ls.length = 256) (ha : la.length = 16)
    (hk : ∀ w1, SetBlk w w1 g (.cells (Oc d 0 ls (RR la m s)).toArray 80 (0, 0)) → wpList Try.prog ops Q rest (a.put o.dst undef) w1) : wpList Try.prog ops Q (o :: rest) a w := by
  have hst : (Instr.storeAt 3 (.pointer (some ⟨g, 275, none⟩)) (.int .i64 m)).run Try.prog w = .ok () (w.setCell ⟨g, 275, none⟩ (.int .i64 m)) := by
    obtain ⟨⟨u, hc⟩, hf⟩ := rr_there h hl ha 16 (by omega)
    simp only [Nat.reduceAdd] at hc hf
    clear h hk
    go_simp
  exact store_arm hgd _ x y ho hx hy hst (hk _ (set_rn h hl ha m))
theorem store_rs (hgd : o.guard = none) (x y : Operand) (ho : o.op = .store 47 x y) {m : Int} (hx : a.eval x = .pointer (some ⟨g, 276, none⟩)) (hy : a.eval y = .int .u32 m) (h : RB w g d ls la n s) (hl : ls.length = 256) (ha : la.length = 16)
    (hk : ∀ w1, SetBlk w w1 g (.cells (Oc d 0 ls (RR la n m)).toArray 80 (0, 0)) → wpList Try.prog ops Q rest (a.put o.dst undef) w1) : wpList Try.prog ops Q (o :: rest) a w := by
  have hst : (Instr.storeAt 47 (.pointer (some ⟨g, 276, none⟩)) (.int .u32 m)).run Try.prog w = .ok () (w.setCell ⟨g, 276, none⟩ (.int .u32 m)) := by
    obtain ⟨⟨u, hc⟩, hf⟩ := rr_there h hl ha 17 (by omega)
    simp only [Nat.reduceAdd] at hc hf
    clear h hk
    go_simp
  exact store_arm hgd _ x y ho hx hy hst (hk _ (set_rs h hl ha m))
theorem st_rs (h : RB w g d ls la n s) (hl : ls.length = 256) (ha : la.length = 16) (m : Int) : (Instr.storeAt 47 (.pointer (some ⟨g, 276, none⟩)) (.int .u32 m)).run Try.prog w = .ok () (w.setCell ⟨g, 276, none⟩ (.int .u32 m)) := by
  obtain ⟨⟨u, hc⟩, hf⟩ := rr_there h hl ha 17 (by omega)
  simp only [Nat.reduceAdd] at hc hf
  clear h
  go_simp
theorem store_rl (hgd : o.guard = none) (x y : Operand) (ho : o.op = .store 5 x y) {c : Int} {k : Nat} (hx : a.eval x = .pointer (some ⟨g, 259 + k, none⟩)) (hy : a.eval y = .int .u8 c) (h : RB w g d ls la n s) (hl : ls.length = 256) (ha : la.length = 16) (hk16 : k < 16)
    (hk : ∀ w1, SetBlk w w1 g (.cells (Oc d 0 ls (RR (la.set k c) n s)).toArray 80 (0, 0)) → wpList Try.prog ops Q rest (a.put o.dst undef) w1) : wpList Try.prog ops Q (o :: rest) a w := by
  have hst : (Instr.storeAt 5 (.pointer (some ⟨g, 259 + k, none⟩)) (.int .u8 c)).run Try.prog w = .ok () (w.setCell ⟨g, 259 + k, none⟩ (.int .u8 c)) := by
    obtain ⟨⟨u, hc⟩, hf⟩ := rr_there h hl ha k (by omega)
    clear h hk
    go_simp
  exact store_arm hgd _ x y ho hx hy hst (hk _ (set_rl h hl ha k hk16 c))
end
theorem reset_calls (g : Nat) (b : List Int) (w : World) (h : RSt w g b) : Calls Try.prog 22 #[.pointer (some ⟨g, 0, none⟩)] w fun e w' => e = .returned (.tuple #[]) ∧ RSt w' g [] ∧ ∃ o, SetBlk w w' g o := by
  obtain ⟨d, ls, la, hB, hl, ha, hd, hbl, _⟩ := h
  have HB := Aside0.mk hB
  clear hB
  go_enter Try.func22, Try.ntmps22
  go_wp2_with (first
    | ((with_reducible refine at_st 3 _ _ ?_); refine store_rn rfl _ _ rfl rfl rfl HB.out hl ha ?_; rintro w1 HS1)
    | ((with_reducible refine at_st 47 _ _ ?_); refine store_rs rfl _ _ rfl rfl rfl HS1.at_ hl ha ?_; rintro w2 HS2))
  (try simp only [Exit.inBlock, Exit.then])
  refine bodyPost_end (results_none rfl _ _ _) rfl ?_
  exact ⟨rfl, ⟨d, ls, la, HS2.at_, hl, ha, hd, hbl, fun j hj => by simp at hj⟩, _, HS1.next HS2⟩
end Go.Proofs.Ytdbgbbodkoppdaa
