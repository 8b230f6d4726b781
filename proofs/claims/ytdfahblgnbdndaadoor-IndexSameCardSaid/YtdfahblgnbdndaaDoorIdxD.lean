/- The law IndexSame: its walk. Conditions: what its arguments read, and what sha's table of roots holds. -/
import Derived.Test.YtdfahblgnbdndaaDoorIdxC
import Derived.Test.YtdfahblgnbdndaaDoorG12
import Derived.Test.YtdfahblgnbdndaaDoorG11
import Derived.Test.YtdfahblgnbdndaaDoorG13
import Derived.Deep.CutBlock
import Derived.Deep.DeepCutAuto
namespace Go.Proofs.YtdfahblgnbdndaaDoor
open Go.RowKit Go.Shelf Go.Proofs.YtdfahblgnbdndaaDoorW.PrintWords Go.Proofs.YtdfahblgnbdndaaDoorW.PrintMore
set_option linter.unusedVariables false
set_option linter.unusedSimpArgs false
section
variable {w : World} {g T : Nat} {a b c : Int} {im : List Int} {v : Value}
theorem ld_rx {fr : Nat × Nat} (hg : w.heap[g]? = some (.cells (Xc a b c im v).toArray T fr)) (hn : im.length = 32) : (Instr.loadAt 38 (.pointer (some ⟨g, 0, none⟩))).run Tryd.prog w = .ok (.agg (Xc a b c im v).toArray) w :=
  ld_row hg 38 _ Tryd.underlying38 rfl (by rw [List.size_toArray]; exact size_RX hn)
theorem ld_xit {fr : Nat × Nat} {A : Option Addr} {n cp : Nat} (hg : w.heap[g]? = some (.cells (Xc a b c im (.slice A n cp)).toArray T fr)) (hn : im.length = 32) : (Instr.loadAt 27 (.pointer (some ⟨g, 35, none⟩))).run Tryd.prog w = .ok (.slice A n cp) w := by
  have h := x_items hg hn
  clear hg
  go_simp
theorem x_there (hg : w.heap[g]? = some (.cells (Xc a b c im v).toArray T (0, 0))) (hn : im.length = 32) (i : Nat) (hi : i < 36) : (∃ u, w.cell? ⟨g, i, none⟩ = some u) ∧ w.frozen? ⟨g, i, none⟩ = false :=
  ⟨⟨_, by rw [blk_cell hg, Array.getElem?_eq_getElem (show i < (Xc a b c im v).toArray.size by rw [List.size_toArray, Xc_len hn]; exact hi)]⟩, blk_frozen hg i⟩
theorem st_xit {A : Option Addr} {n cp : Nat} (hg : w.heap[g]? = some (.cells (Xc a b c im v).toArray T (0, 0))) (hn : im.length = 32) : (Instr.storeAt 27 (.pointer (some ⟨g, 35, none⟩)) (.slice A n cp)).run Tryd.prog w = .ok () (w.setCell ⟨g, 35, none⟩ (.slice A n cp)) := by
  obtain ⟨⟨u, hc⟩, hf⟩ := x_there hg hn 35 (by omega)
  clear hg
  go_simp
theorem xc_mid (im' : List Int) (hn : im.length = 32) (hn' : im'.length = 32) : (Xc a b c im v).toArray.toList.take 3 ++ Nm im' ++ (Xc a b c im v).toArray.toList.drop (3 + (Nm im').length) = Xc a b c im' v := by
  rw [Nm_len, hn']
  show [Value.int .i64 a, Value.int .i64 b, Value.int .i64 c] ++ Nm im' ++ (Nm im ++ [v]).drop 32 = _
  rw [List.drop_left' (by rw [Nm_len, hn])]
  simp [Xc]
variable {ops : Array Oper} {rest : List Oper} {o : Oper} {ac : Act} {Q : Exit → Act → World → Prop}
theorem store_xit (hgd : o.guard = none) (x y : Operand) (ho : o.op = .store 27 x y) {A : Option Addr} {n cp : Nat} (hx : ac.eval x = .pointer (some ⟨g, 35, none⟩)) (hy : ac.eval y = .slice A n cp) (hg : w.heap[g]? = some (.cells (Xc a b c im v).toArray T (0, 0))) (hn : im.length = 32)
    (h : ∀ w1, SetBlk w w1 g (.cells (Xc a b c im (.slice A n cp)).toArray T (0, 0)) → wpList Tryd.prog ops Q rest (ac.put o.dst undef) w1) : wpList Tryd.prog ops Q (o :: rest) ac w := by
  have hset := setBlk_cell (i := 35) hg (.slice A n cp)
  rw [Xc_set _ _ _ _ _ _ hn] at hset
  exact store_arm hgd _ x y ho hx hy (st_xit hg hn) (h _ hset)
theorem store_xim (hgd : o.guard = none) (x y : Operand) (ho : o.op = .store 26 x y) {im' : List Int} (hx : ac.eval x = .pointer (some ⟨g, 3, none⟩)) (hy : ac.eval y = .agg (Nm im').toArray) (hg : w.heap[g]? = some (.cells (Xc a b c im v).toArray T (0, 0))) (hn : im.length = 32) (hn' : im'.length = 32)
    (h : ∀ w1, SetBlk w w1 g (.cells (Xc a b c im' v).toArray T (0, 0)) → wpList Tryd.prog ops Q rest (ac.put o.dst undef) w1) : wpList Tryd.prog ops Q (o :: rest) ac w := by
  have hst : (Instr.storeAt 26 (.pointer (some ⟨g, 3, none⟩)) (.agg (Nm im').toArray)).run Tryd.prog w = .ok () (w.setCells g 3 (Nm im')) := by
    refine run_storeAt_mid w g 3 26 (Nm im').toArray ?_ (by rw [List.size_toArray, Nm_len, hn']; kernel_rfl) (all_oneCell_toArray (Nm_one im'))
    intro j hj
    have hj' : 3 + j < 36 := by
      rw [List.size_toArray, Nm_len, hn'] at hj
      omega
    obtain ⟨⟨u, hc⟩, hf⟩ := x_there hg hn (3 + j) hj'
    exact ⟨by rw [hc]; rfl, hf⟩
  have hset := setBlk_mid hg 3 (Nm im') (by rw [List.size_toArray, Xc_len hn, Nm_len, hn']; omega)
  rw [xc_mid im' hn hn'] at hset
  exact store_arm hgd _ x y ho hx hy hst (h _ hset)
end
/-- An index's cells that are read whole, of any image. -/
def YRow (W : World) (cs : List Value) : Prop := ∃ (a b c : Int) (im : List Int) (A : Option Addr) (n cp : Nat) (its : List Itm), cs = Xc a b c im (.slice A n cp) ∧ im.length = 32 ∧ RdI W A n its ∧ n ≤ 8
theorem YRow.len {W : World} {cs : List Value} (h : YRow W cs) : cs.length = 36 := by
  obtain ⟨_, _, _, _, _, _, _, _, rfl, hn, _⟩ := h
  exact Xc_len hn
theorem yrows_at {W w : World} {g T : Nat} {fr : Nat × Nat} {vs : List (List Value)} (hv : ∀ v ∈ vs, YRow W v) (h : w.heap[g]? = some (.cells vs.flatten.toArray T fr)) (k : Nat) (hk : k < vs.length) : ∃ cs, YRow W cs ∧ w.rangeAt g (k * 36) cs :=
  ⟨vs[k], hv _ (List.getElem_mem hk), rows_range h (fun v hv' => (hv v hv').len) (List.getElem?_eq_getElem hk)⟩
set_option maxRecDepth 20000 in
set_option maxHeartbeats 6400000 in
theorem indexSame_walk (pa pb pc : Int) (im : List Int) (A : Option Addr) (n cp : Nat) (its : List Itm) (pa' pb' pc' : Int) (im' : List Int) (A' : Option Addr) (n' cp' : Nat) (its' : List Itm) (w : World) (ha : Wf64 pa) (hb : Wf64 pb) (hc : Wf64 pc) (ha' : Wf64 pa') (hb' : Wf64 pb') (hc' : Wf64 pc') (him : im.length = 32) (him' : im'.length = 32) (hr : RdI w A n its) (hr' : RdI w A' n' its') (hsm : ∀ x ∈ its, Wf64 x.2) (hsm' : ∀ x ∈ its', Wf64 x.2) (hK : Roots w) :
    Calls Tryd.prog 6 #[.agg (Xc pa pb pc im (.slice A n cp)).toArray, .agg (Xc pa' pb' pc' im' (.slice A' n' cp')).toArray] w fun e w' => e = .returned (.bool true) ∧ Below w.heap.size w w' := by
  obtain ⟨a0, b0, c0, ea, eb, ec, _, _, _, hc70, hm⟩ := good_nat pa pb pc
  obtain ⟨a1, b1, c1, ea', eb', ec', _, _, _, hc71, hm'⟩ := good_nat pa' pb' pc'
  have HGD : Aside0 (∀ w : World, Calls Tryd.prog 23 #[.agg #[.int .i64 pa, .int .i64 pb, .int .i64 pc]] w fun e w' => e = .returned (.agg #[.int .i64 (a0 : Int), .int .i64 (b0 : Int), .int .i64 (c0 : Int)]) ∧ Below w.heap.size w w') := ⟨fun w => by
    have h := good_calls pa pb pc w ha.1 ha.2 hb.1 hb.2 hc.1 hc.2
    rwa [ea, eb, ec] at h⟩
  have HGE : Aside0 (∀ w : World, Calls Tryd.prog 23 #[.agg #[.int .i64 pa', .int .i64 pb', .int .i64 pc']] w fun e w' => e = .returned (.agg #[.int .i64 (a1 : Int), .int .i64 (b1 : Int), .int .i64 (c1 : Int)]) ∧ Below w.heap.size w w') := ⟨fun w => by
    have h := good_calls pa' pb' pc' w ha'.1 ha'.2 hb'.1 hb'.2 hc'.1 hc'.2
    rwa [ea', eb', ec'] at h⟩
  have HM := Aside0.mk (And.intro hm hm')
  have HX := Aside0.mk (And.intro hr hr')
  have HSM := Aside0.mk (And.intro hsm hsm')
  have HK := Aside0.mk hK
  have HN := Aside0.mk (And.intro him him')
  have hl1 := goodIts_len a0 c0 its
  have hl2 := goodIts_len a1 c1 its'
  obtain ⟨GI, hGI⟩ : ∃ GI, goodIts a0 c0 its = GI := ⟨_, rfl⟩
  obtain ⟨GJ, hGJ⟩ : ∃ GJ, goodIts a1 c1 its' = GJ := ⟨_, rfl⟩
  have HGI := Aside0.mk (And.intro hGI hGJ)
  rw [hGI] at hl1
  rw [hGJ] at hl2
  have hGL1 : GI.length ≤ 6 := by omega
  have hGL2 : GJ.length ≤ 6 := by omega
  obtain ⟨it, hi, hz, hs, _⟩ := info_parts infoRX
  have HI := Aside0.mk (And.intro hi (And.intro hz hs))
  clear ha hb hc ha' hb' hc' hr hr' hsm hsm' hK hm hm' ea eb ec ea' eb' ec' hGI hGJ hl1 hl2 hi hz hs him him'
  have Q0 : Bag w ((w.alloc (.cells (Xc pa pb pc im (.slice A n cp)).toArray 38)).alloc (.cells (Xc pa' pb' pc' im' (.slice A' n' cp')).toArray 38)) [(w.heap.size, .cells (Xc pa pb pc im (.slice A n cp)).toArray 38 (0, 0)), (w.heap.size + 1, .cells (Xc pa' pb' pc' im' (.slice A' n' cp')).toArray 38 (0, 0))] := by
    have h := ((Bag.nil w).box (Xc pa pb pc im (.slice A n cp)).toArray 38).box (Xc pa' pb' pc' im' (.slice A' n' cp')).toArray 38
    rwa [show (w.alloc (.cells (Xc pa pb pc im (.slice A n cp)).toArray 38)).heap.size = w.heap.size + 1 by simp] at h
  go_enter Tryd.func6, Tryd.ntmps6
  go_wp2_with (first
    | ((with_reducible refine at_ld 38 (.tmp 2) ?_); refine load_arm rfl 38 (.tmp 2) rfl rfl (ld_rx (Q0.at 0 rfl) HN.out.1) ?_; simp only [Act.put, List.setIfInBounds_toArray, List.set_cons_zero, List.set_cons_succ])
    | (go_at_call 14; (with_reducible refine at_cw w2 ?_); refine (rgood_calls pa' pb' pc' im' A' n' cp' its' _ w2 a1 b1 c1 rfl HN.out.2 (Kd.C_below HX.out.2 Q2.below) HGE.out HM.out.2 hc71 HSM.out.2).mono ?_; rw [HGI.out.2]; rintro e w3 ⟨v, rfl, hO, hB⟩; have Q3 := Q2.call hB; obtain ⟨A2, cp2, rfl, hcp2, hr2⟩ := Kd.R_reads hO; have HR2 := Aside0.mk hr2; have C13 := Aside0.mk (below_tr C12.out hB C12.out.size); clear hO hB hr2 hcp2)
    | (go_at_call 14; refine (rgood_calls pa pb pc im A n cp its _ _ a0 b0 c0 rfl HN.out.1 (Kd.C_below HX.out.1 Q0.below) HGD.out HM.out.1 hc70 HSM.out.1).mono ?_; rw [HGI.out.1]; rintro e w1 ⟨v, rfl, hO, hB⟩; have Q1 := Q0.call hB; obtain ⟨A1, cp1, rfl, hcp1, hr1⟩ := Kd.R_reads hO; have HR1 := Aside0.mk hr1; clear hO hB hr1 hcp1)
    | ((with_reducible refine at_al 38 ?_); refine new_rx rfl rfl rfl rfl (.tmp 13) rfl (of_decide_eq_true rfl) rfl HN.out.1 rfl ?_; rintro w2 g5 N1; have Q2 := Q1.new N1; have C12 := Aside0.mk N1.below; clear N1)
    | ((with_reducible refine at_ld (w := w2) 38 (.tmp 3) ?_); have hq := Q2.at 1 rfl; refine load_arm rfl 38 (.tmp 3) rfl rfl (ld_rx hq HN.out.2) ?_; clear hq; simp only [Act.put, List.setIfInBounds_toArray, List.set_cons_zero, List.set_cons_succ])
    | ((with_reducible refine at_al 38 ?_); refine new_rx rfl rfl rfl rfl (.tmp 15) rfl (of_decide_eq_true rfl) rfl HN.out.2 rfl ?_; rintro w4 g6 N2; have Q4 := Q3.new N2; have C14 := Aside0.mk (below_tr C13.out N2.below C13.out.size); have C34 := Aside0.mk N2.below; clear N2)
    | ((with_reducible refine at_ld (w := w4) 38 (.tmp 5) ?_); have hq := Q4.at 2 rfl; refine load_arm rfl 38 (.tmp 5) rfl rfl (ld_rx hq HN.out.1) ?_; clear hq; simp only [Act.put, List.setIfInBounds_toArray, List.set_cons_zero, List.set_cons_succ])
    | ((with_reducible refine at_al 38 ?_); refine new_rx rfl rfl rfl rfl (.tmp 16) rfl (of_decide_eq_true rfl) rfl HN.out.1 rfl ?_; rintro w5 g7 N3; have Q5 := Q4.new N3; have C15 := Aside0.mk (below_tr C14.out N3.below C14.out.size); have C35 := Aside0.mk (below_tr C34.out N3.below C34.out.size); have G7 := Aside0.mk N3.ge; clear N3)
    | ((with_reducible refine at_ld (w := w5) 27 (.tmp 17) ?_); have hq := Q5.at 3 rfl; refine load_arm rfl 27 (.tmp 17) rfl rfl (ld_xit hq HN.out.2) ?_; clear hq; simp only [Act.put, List.setIfInBounds_toArray, List.set_cons_zero, List.set_cons_succ])
    | ((with_reducible refine at_st 27 (.tmp 19) (.tmp 18) ?_); refine store_xit rfl (.tmp 19) (.tmp 18) rfl rfl rfl (Q5.at 4 rfl) HN.out.1 ?_; rintro w6 S1; have Q6 := Q5.set 4 rfl S1; have C16 := Aside0.mk (C15.out.trans (S1.below (Nat.le_trans C14.out.size G7.out))); have C36 := Aside0.mk (C35.out.trans (S1.below (Nat.le_trans C34.out.size G7.out))); clear S1)
    | ((with_reducible refine at_ld (w := w6) 38 (.tmp 5) ?_); have hq := Q6.at 2 rfl; refine load_arm rfl 38 (.tmp 5) rfl rfl (ld_rx hq HN.out.1) ?_; clear hq; simp only [Act.put, List.setIfInBounds_toArray, List.set_cons_zero, List.set_cons_succ])
    | ((with_reducible refine at_al 38 ?_); refine new_rx rfl rfl rfl rfl (.tmp 20) rfl (of_decide_eq_true rfl) rfl HN.out.1 rfl ?_; rintro w7 g8 N4; have Q7 := Q6.new N4; have C17 := Aside0.mk (below_tr C16.out N4.below C16.out.size); have C37 := Aside0.mk (below_tr C36.out N4.below C36.out.size); have G8 := Aside0.mk N4.ge; clear N4)
    | ((with_reducible refine at_ld (w := w7) 26 (.tmp 21) ?_); have hq := Q7.at 3 rfl; refine load_arm rfl 26 (.tmp 21) rfl rfl (x_dig hq HN.out.2) ?_; clear hq; simp only [Act.put, List.setIfInBounds_toArray, List.set_cons_zero, List.set_cons_succ])
    | ((with_reducible refine at_st 26 (.tmp 23) (.tmp 22) ?_); refine store_xim rfl (.tmp 23) (.tmp 22) rfl rfl rfl (Q7.at 5 rfl) HN.out.1 HN.out.2 ?_; rintro w8 S2; have Q8 := Q7.set 5 rfl S2; have C18 := Aside0.mk (C17.out.trans (S2.below (Nat.le_trans C16.out.size G8.out))); have C38 := Aside0.mk (C37.out.trans (S2.below (Nat.le_trans C36.out.size G8.out))); clear S2)
    | ((with_reducible refine at_ld (w := w8) 38 (.tmp 5) ?_); have hq := Q8.at 2 rfl; refine load_arm rfl 38 (.tmp 5) rfl rfl (ld_rx hq HN.out.1) ?_; clear hq; simp only [Act.put, List.setIfInBounds_toArray, List.set_cons_zero, List.set_cons_succ])
    | ((with_reducible refine at_ld (w := w8) 38 (.tmp 6) ?_); have hq := Q8.at 3 rfl; refine load_arm rfl 38 (.tmp 6) rfl rfl (ld_rx hq HN.out.2) ?_; clear hq; simp only [Act.put, List.setIfInBounds_toArray, List.set_cons_zero, List.set_cons_succ])
    | ((with_reducible refine at_ld (w := w8) 38 (.tmp 7) ?_); have hq := Q8.at 4 rfl; refine load_arm rfl 38 (.tmp 7) rfl rfl (ld_rx hq HN.out.1) ?_; clear hq; simp only [Act.put, List.setIfInBounds_toArray, List.set_cons_zero, List.set_cons_succ])
    | ((with_reducible refine at_ld (w := w8) 38 (.tmp 8) ?_); have hq := Q8.at 5 rfl; refine load_arm rfl 38 (.tmp 8) rfl rfl (ld_rx hq HN.out.2) ?_; clear hq; simp only [Act.put, List.setIfInBounds_toArray, List.set_cons_zero, List.set_cons_succ])
    | ((with_reducible refine at_bs 42 ?_); refine rows_arm rfl _ _ rfl Tryd.underlying42 HI.out.1 HI.out.2.1 HI.out.2.2 [Xc a0 b0 c0 im (.slice A1 GI.length cp1), Xc a1 b1 c1 im' (.slice A2 GJ.length cp2), Xc a0 b0 c0 im (.slice A2 GJ.length cp2), Xc a0 b0 c0 im' (.slice A1 GI.length cp1)] (by intro v hv; simp only [List.mem_cons, List.not_mem_nil, or_false] at hv; rcases hv with rfl | rfl | rfl | rfl <;> first | exact Xc_len HN.out.1 | exact Xc_len HN.out.2) (show 4 * 36 ≤ 2 ^ 24 by decide) (show 4 * 36 ≠ 0 by decide) rfl rfl ?_; rintro w9 ga N5; have Q9 := Q8.new N5; have C19 := Aside0.mk (below_tr C18.out N5.below C18.out.size); have C39 := Aside0.mk (below_tr C38.out N5.below C38.out.size); clear N5)
    | fail)
  have GA := Aside0.mk (Q9.at 6 rfl)
  have B9 := Aside0.mk Q9.below
  have HV : Aside0 (∀ v ∈ [Xc a0 b0 c0 im (.slice A1 GI.length cp1), Xc a1 b1 c1 im' (.slice A2 GJ.length cp2), Xc a0 b0 c0 im (.slice A2 GJ.length cp2), Xc a0 b0 c0 im' (.slice A1 GI.length cp1)], YRow w9 v) := ⟨by
    have h1 := Kd.C_below HR1.out C19.out
    have h2 := Kd.C_below HR2.out C39.out
    intro v hv
    simp only [List.mem_cons, List.not_mem_nil, or_false] at hv
    rcases hv with rfl | rfl | rfl | rfl
    · exact ⟨_, _, _, _, _, _, _, _, rfl, HN.out.1, h1, by omega⟩
    · exact ⟨_, _, _, _, _, _, _, _, rfl, HN.out.2, h2, by omega⟩
    · exact ⟨_, _, _, _, _, _, _, _, rfl, HN.out.1, h2, by omega⟩
    · exact ⟨_, _, _, _, _, _, _, _, rfl, HN.out.2, h1, by omega⟩⟩
  have HL4 : Aside0 ([Xc a0 b0 c0 im (.slice A1 GI.length cp1), Xc a1 b1 c1 im' (.slice A2 GJ.length cp2), Xc a0 b0 c0 im (.slice A2 GJ.length cp2), Xc a0 b0 c0 im' (.slice A1 GI.length cp1)].length = 4) := ⟨rfl⟩
  generalize [Xc a0 b0 c0 im (.slice A1 GI.length cp1), Xc a1 b1 c1 im' (.slice A2 GJ.length cp2), Xc a0 b0 c0 im (.slice A2 GJ.length cp2), Xc a0 b0 c0 im' (.slice A1 GI.length cp1)] = vs at *
  clear Q0 Q1 Q2 Q3 Q4 Q5 Q6 Q7 Q8 Q9 C12 C13 C14 C15 C16 C17 C18 C19 C34 C35 C36 C37 C38 C39 HR1 HR2 G7 G8
  obtain ⟨ad, had⟩ : ∃ ad : Addr, ad = ⟨ga, 0, none⟩ := ⟨_, rfl⟩
  have HAD := Aside0.mk had
  rw [← had]
  clear had
  have HE : Aside0 (∀ k, k < 4 → ∃ cs, YRow w9 cs ∧ ∀ W, Below w9.heap.size w9 W → ∀ j u, cs[j]? = some u → W.cell? (ad.add (k * 36 + j)) = some u) := ⟨fun k hk => by
    obtain ⟨cs, hy, hr⟩ := yrows_at HV.out GA.out k (by rw [HL4.out]; exact hk)
    refine ⟨cs, hy, fun W hW j u hu => ?_⟩
    rw [HAD.out, Addr.add_mid, Nat.zero_add]
    exact pw_cell_below hW (hr j u hu)⟩
  clear HV GA HAD HL4
  go_loopw [10] (fun i wr => ∃ j : Nat, j ≤ 4 ∧ i = .int .i64 j ∧ Below w9.heap.size w9 wr) (fun i _ => 4 - (intOf i).toNat)
  case atStart => exact ⟨0, by omega, rfl, Below.refl _ _⟩
  case round =>
    obtain ⟨j, hj, rfl, hB⟩ := hrel
    have HB := Aside0.mk hB
    clear hB
    by_cases hlt : j < 4
    · obtain ⟨cs1, ⟨x1, y1, z1, im1, P1, n1, p1, its1, rfl, hi1, hr1, hn1⟩, hc1⟩ := HE.out j hlt
      have HLD1 : Aside0 (∀ W, Below w9.heap.size w9 W → (Instr.loadAt 38 (.pointer (some (ad.add (j * 36))))).run Tryd.prog W = .ok (.agg (Xc x1 y1 z1 im1 (.slice P1 n1 p1)).toArray) W) := ⟨fun W hW => ld_elem (hc1 W hW) 38 _ Tryd.underlying38 rfl (size_RX hi1)⟩
      have HR1 : Aside0 (∀ W, Below w9.heap.size w9 W → RdI W P1 n1 its1) := ⟨fun W hW => Kd.C_below hr1 hW⟩
      have HI1 := Aside0.mk hi1
      clear hc1 hr1 hi1
      go_wp2
      go_loopw [11] (fun i wr' => ∃ j2 : Nat, j2 ≤ 4 ∧ i = .int .i64 j2 ∧ Below w9.heap.size w9 wr') (fun i _ => 4 - (intOf i).toNat)
      case atStart => exact ⟨0, by omega, rfl, HB.out⟩
      case round =>
        obtain ⟨j2, hj2, rfl, hB2⟩ := hrel
        have HB2 := Aside0.mk hB2
        clear hB2
        by_cases hlt2 : j2 < 4
        · obtain ⟨cs2, ⟨x2, y2, z2, im2, P2, n2, p2, its2, rfl, hi2, hr2, hn2⟩, hc2⟩ := HE.out j2 hlt2
          have HLD2 : Aside0 (∀ W, Below w9.heap.size w9 W → (Instr.loadAt 38 (.pointer (some (ad.add (j2 * 36))))).run Tryd.prog W = .ok (.agg (Xc x2 y2 z2 im2 (.slice P2 n2 p2)).toArray) W) := ⟨fun W hW => ld_elem (hc2 W hW) 38 _ Tryd.underlying38 rfl (size_RX hi2)⟩
          have HR2 : Aside0 (∀ W, Below w9.heap.size w9 W → RdI W P2 n2 its2) := ⟨fun W hW => Kd.C_below hr2 hW⟩
          have HI2 := Aside0.mk hi2
          clear hc2 hr2 hi2
          obtain ⟨D0, hD0⟩ : ∃ D0, D0 = sameX x1 y1 z1 im1 its1 x2 y2 z2 im2 its2 := ⟨_, rfl⟩
          have HD0 := Aside0.mk hD0
          clear hD0
          go_wp2_with fail
          have E0 := Aside0.mk (Below.drew HB2.out)
          refine seq_startN [] (.take 0 (.take 1 (.take 2 (.take 3 (.take 5 (.take 6 (.take 7 (.take 8 (.take 11 (.take 12 (.take 13 (.take 14 (.take 15 (.take 16 (.take 17 (.take 18 (.run 4 (.run 9 (.run 10 (.run 19 (.take 20 .done))))))))))))))))))))) (by kernel_rfl) (by kernel_rfl) ?_
          refine seq_take (v := ?_) (a' := ?_) rfl rfl (by rfl) (fun w' hw' => ?_) ?_ ?_
          rotate_left 2
          · go_simp
            with_reducible rfl
          · simp only [Act.put, List.setIfInBounds_toArray, List.set_cons_zero, List.set_cons_succ, Go.Proofs.YtdfahblgnbdndaaDoorW.PrintLast.i64_w, Go.Proofs.YtdfahblgnbdndaaDoorW.PrintLast.i32_w]
            rfl
          refine seq_take (v := ?_) (a' := ?_) rfl rfl (by rfl) (fun w' hw' => ?_) ?_ ?_
          rotate_left 2
          · go_simp
            with_reducible rfl
          · simp only [Act.put, List.setIfInBounds_toArray, List.set_cons_zero, List.set_cons_succ, Go.Proofs.YtdfahblgnbdndaaDoorW.PrintLast.i64_w, Go.Proofs.YtdfahblgnbdndaaDoorW.PrintLast.i32_w]
            rfl
          refine seq_take (v := ?_) (a' := ?_) rfl rfl (by rfl) (fun w' hw' => ?_) ?_ ?_
          rotate_left 2
          · go_simp
            with_reducible rfl
          · simp only [Act.put, List.setIfInBounds_toArray, List.set_cons_zero, List.set_cons_succ, Go.Proofs.YtdfahblgnbdndaaDoorW.PrintLast.i64_w, Go.Proofs.YtdfahblgnbdndaaDoorW.PrintLast.i32_w]
            rfl
          refine seq_take (v := _) (a' := ?_) rfl rfl (by rfl) (fun w' hw' => load_run rfl (p := .pointer (some (ad.add (j * 36)))) rfl (HLD1.out _ (E0.out.trans (Below.mono hw' E0.out.size)))) ?_ ?_
          rotate_left
          · simp only [Act.put, List.setIfInBounds_toArray, List.set_cons_zero, List.set_cons_succ, Go.Proofs.YtdfahblgnbdndaaDoorW.PrintLast.i64_w, Go.Proofs.YtdfahblgnbdndaaDoorW.PrintLast.i32_w]
            rfl
          refine seq_take (v := ?_) (a' := ?_) rfl rfl (by rfl) (fun w' hw' => ?_) ?_ ?_
          rotate_left 2
          · go_simp
            with_reducible rfl
          · simp only [Act.put, List.setIfInBounds_toArray, List.set_cons_zero, List.set_cons_succ, Go.Proofs.YtdfahblgnbdndaaDoorW.PrintLast.i64_w, Go.Proofs.YtdfahblgnbdndaaDoorW.PrintLast.i32_w]
            rfl
          refine seq_take (v := ?_) (a' := ?_) rfl rfl (by rfl) (fun w' hw' => ?_) ?_ ?_
          rotate_left 2
          · go_simp
            with_reducible rfl
          · simp only [Act.put, List.setIfInBounds_toArray, List.set_cons_zero, List.set_cons_succ, Go.Proofs.YtdfahblgnbdndaaDoorW.PrintLast.i64_w, Go.Proofs.YtdfahblgnbdndaaDoorW.PrintLast.i32_w]
            rfl
          refine seq_take (v := ?_) (a' := ?_) rfl rfl (by rfl) (fun w' hw' => ?_) ?_ ?_
          rotate_left 2
          · go_simp
            with_reducible rfl
          · simp only [Act.put, List.setIfInBounds_toArray, List.set_cons_zero, List.set_cons_succ, Go.Proofs.YtdfahblgnbdndaaDoorW.PrintLast.i64_w, Go.Proofs.YtdfahblgnbdndaaDoorW.PrintLast.i32_w]
            rfl
          refine seq_take (v := _) (a' := ?_) rfl rfl (by rfl) (fun w' hw' => load_run rfl (p := .pointer (some (ad.add (j2 * 36)))) rfl (HLD2.out _ (E0.out.trans (Below.mono hw' E0.out.size)))) ?_ ?_
          rotate_left
          · simp only [Act.put, List.setIfInBounds_toArray, List.set_cons_zero, List.set_cons_succ, Go.Proofs.YtdfahblgnbdndaaDoorW.PrintLast.i64_w, Go.Proofs.YtdfahblgnbdndaaDoorW.PrintLast.i32_w]
            rfl
          refine seq_take (v := ?_) (a' := ?_) rfl rfl (by rfl) (fun w' hw' => ?_) ?_ ?_
          rotate_left 2
          · go_simp
            with_reducible rfl
          · simp only [Act.put, List.setIfInBounds_toArray, List.set_cons_zero, List.set_cons_succ, Go.Proofs.YtdfahblgnbdndaaDoorW.PrintLast.i64_w, Go.Proofs.YtdfahblgnbdndaaDoorW.PrintLast.i32_w]
            rfl
          refine seq_take (v := ?_) (a' := ?_) rfl rfl (by rfl) (fun w' hw' => ?_) ?_ ?_
          rotate_left 2
          · go_simp
            with_reducible rfl
          · simp only [Act.put, List.setIfInBounds_toArray, List.set_cons_zero, List.set_cons_succ, Go.Proofs.YtdfahblgnbdndaaDoorW.PrintLast.i64_w, Go.Proofs.YtdfahblgnbdndaaDoorW.PrintLast.i32_w]
            rfl
          refine seq_take (v := ?_) (a' := ?_) rfl rfl (by rfl) (fun w' hw' => ?_) ?_ ?_
          rotate_left 2
          · go_simp
            with_reducible rfl
          · simp only [Act.put, List.setIfInBounds_toArray, List.set_cons_zero, List.set_cons_succ, Go.Proofs.YtdfahblgnbdndaaDoorW.PrintLast.i64_w, Go.Proofs.YtdfahblgnbdndaaDoorW.PrintLast.i32_w]
            rfl
          refine seq_take (v := _) (a' := ?_) rfl rfl (by rfl) (fun w' hw' => load_run rfl (p := .pointer (some (ad.add (j * 36)))) rfl (HLD1.out _ (E0.out.trans (Below.mono hw' E0.out.size)))) ?_ ?_
          rotate_left
          · simp only [Act.put, List.setIfInBounds_toArray, List.set_cons_zero, List.set_cons_succ, Go.Proofs.YtdfahblgnbdndaaDoorW.PrintLast.i64_w, Go.Proofs.YtdfahblgnbdndaaDoorW.PrintLast.i32_w]
            rfl
          refine seq_take (v := ?_) (a' := ?_) rfl rfl (by rfl) (fun w' hw' => ?_) ?_ ?_
          rotate_left 2
          · go_simp
            with_reducible rfl
          · simp only [Act.put, List.setIfInBounds_toArray, List.set_cons_zero, List.set_cons_succ, Go.Proofs.YtdfahblgnbdndaaDoorW.PrintLast.i64_w, Go.Proofs.YtdfahblgnbdndaaDoorW.PrintLast.i32_w]
            rfl
          refine seq_take (v := ?_) (a' := ?_) rfl rfl (by rfl) (fun w' hw' => ?_) ?_ ?_
          rotate_left 2
          · go_simp
            with_reducible rfl
          · simp only [Act.put, List.setIfInBounds_toArray, List.set_cons_zero, List.set_cons_succ, Go.Proofs.YtdfahblgnbdndaaDoorW.PrintLast.i64_w, Go.Proofs.YtdfahblgnbdndaaDoorW.PrintLast.i32_w]
            rfl
          refine seq_take (v := ?_) (a' := ?_) rfl rfl (by rfl) (fun w' hw' => ?_) ?_ ?_
          rotate_left 2
          · go_simp
            with_reducible rfl
          · simp only [Act.put, List.setIfInBounds_toArray, List.set_cons_zero, List.set_cons_succ, Go.Proofs.YtdfahblgnbdndaaDoorW.PrintLast.i64_w, Go.Proofs.YtdfahblgnbdndaaDoorW.PrintLast.i32_w]
            rfl
          refine seq_take (v := _) (a' := ?_) rfl rfl (by rfl) (fun w' hw' => load_run rfl (p := .pointer (some (ad.add (j2 * 36)))) rfl (HLD2.out _ (E0.out.trans (Below.mono hw' E0.out.size)))) ?_ ?_
          rotate_left
          · simp only [Act.put, List.setIfInBounds_toArray, List.set_cons_zero, List.set_cons_succ, Go.Proofs.YtdfahblgnbdndaaDoorW.PrintLast.i64_w, Go.Proofs.YtdfahblgnbdndaaDoorW.PrintLast.i32_w]
            rfl
          refine seq_run ?_
          refine do_call rfl rfl (by rfl) rfl Tryd.func18 (by kernel_rfl) rfl #[.agg (Xc x1 y1 z1 im1 (.slice P1 n1 p1)).toArray] (by simp only [List.map_toArray, List.map_cons, List.map_nil]; rfl) ?_
          with_reducible refine (xof_calls x1 y1 z1 im1 P1 n1 p1 _ _ rfl HI1.out).mono ?_
          rintro e x6 ⟨rfl, hC6⟩
          refine ⟨_, ?_, rfl, ?_, fun _ => hC6, ?_⟩
          rotate_left
          · simp only [Act.put, List.setIfInBounds_toArray, List.set_cons_zero, List.set_cons_succ, Go.Proofs.YtdfahblgnbdndaaDoorW.PrintLast.i64_w, Go.Proofs.YtdfahblgnbdndaaDoorW.PrintLast.i32_w]
            rfl
          have E6 := Aside0.mk (below_tr E0.out hC6 E0.out.size)
          clear hC6
          refine seq_run ?_
          refine do_call rfl rfl (by rfl) rfl Tryd.func18 (by kernel_rfl) rfl #[.agg (Xc x2 y2 z2 im2 (.slice P2 n2 p2)).toArray] (by simp only [List.map_toArray, List.map_cons, List.map_nil]; rfl) ?_
          with_reducible refine (xof_calls x2 y2 z2 im2 P2 n2 p2 _ _ rfl HI2.out).mono ?_
          rintro e x7 ⟨rfl, hC7⟩
          refine ⟨_, ?_, rfl, ?_, fun _ => hC7, ?_⟩
          rotate_left
          · simp only [Act.put, List.setIfInBounds_toArray, List.set_cons_zero, List.set_cons_succ, Go.Proofs.YtdfahblgnbdndaaDoorW.PrintLast.i64_w, Go.Proofs.YtdfahblgnbdndaaDoorW.PrintLast.i32_w]
            rfl
          have E7 := Aside0.mk (below_tr E6.out hC7 E6.out.size)
          clear hC7
          refine seq_run ?_
          refine do_call rfl rfl (by rfl) rfl Tryd.func29 (by kernel_rfl) rfl #[.agg (Xc x1 y1 z1 im1 (.slice P1 n1 p1)).toArray, .agg (Xc x2 y2 z2 im2 (.slice P2 n2 p2)).toArray] (by simp only [List.map_toArray, List.map_cons, List.map_nil]; rfl) ?_
          with_reducible refine (isame_calls x1 y1 z1 x2 y2 z2 im1 im2 P1 P2 n1 p1 n2 p2 its1 its2 _ _ _ rfl rfl HI1.out HI2.out (HR1.out _ E7.out) (HR2.out _ E7.out) (by omega) (by omega)).mono ?_
          rintro e x8 ⟨rfl, hC8⟩
          refine ⟨_, ?_, rfl, ?_, fun _ => hC8, ?_⟩
          rotate_left
          · simp only [Act.put, List.setIfInBounds_toArray, List.set_cons_zero, List.set_cons_succ, Go.Proofs.YtdfahblgnbdndaaDoorW.PrintLast.i64_w, Go.Proofs.YtdfahblgnbdndaaDoorW.PrintLast.i32_w]
            rfl
          have E8 := Aside0.mk (below_tr E7.out hC8 E7.out.size)
          clear hC8
          refine seq_run ?_
          refine do_call rfl rfl (by rfl) rfl Tryd.func24 (by kernel_rfl) rfl #[.agg (Xc x1 y1 z1 im1 (.slice P1 n1 p1)).toArray, .agg (Xc x2 y2 z2 im2 (.slice P2 n2 p2)).toArray] (by simp only [List.map_toArray, List.map_cons, List.map_nil]; rfl) ?_
          with_reducible refine (rsame_calls x1 y1 z1 x2 y2 z2 im1 im2 P1 P2 n1 p1 n2 p2 its1 its2 _ _ _ rfl rfl HI1.out HI2.out (HR1.out _ E8.out) (HR2.out _ E8.out) (by omega) (by omega)).mono ?_
          rintro e x9 ⟨rfl, hC9⟩
          refine ⟨_, ?_, rfl, ?_, fun _ => hC9, ?_⟩
          rotate_left
          · simp only [Act.put, List.setIfInBounds_toArray, List.set_cons_zero, List.set_cons_succ, Go.Proofs.YtdfahblgnbdndaaDoorW.PrintLast.i64_w, Go.Proofs.YtdfahblgnbdndaaDoorW.PrintLast.i32_w]
            rfl
          have E9 := Aside0.mk (below_tr E8.out hC9 E8.out.size)
          clear hC9
          rw [← HD0.out]
          refine seq_take (v := ?_) (a' := ?_) rfl rfl (by rfl) (fun w' hw' => ?_) ?_ ?_
          rotate_left 2
          · go_simp
            with_reducible rfl
          · simp only [Act.put, List.setIfInBounds_toArray, List.set_cons_zero, List.set_cons_succ, Go.Proofs.YtdfahblgnbdndaaDoorW.PrintLast.i64_w, Go.Proofs.YtdfahblgnbdndaaDoorW.PrintLast.i32_w]
            rfl
          refine seq_endN ?_
          go_wp2
          go_roundw
          case rel => exact ⟨j2 + 1, by omega, by go_num, E9.out⟩
          case measure => simp [intOf]; omega
        · obtain rfl : j2 = 4 := by omega
          go_wp2
          go_roundw
          case rel => exact ⟨j + 1, by omega, by go_num, HB2.out⟩
          case measure => simp [intOf]; omega
    · obtain rfl : j = 4 := by omega
      go_wp2_with (first
        | (go_at_call 13; (with_reducible refine at_cw wr ?_); refine (xlives_calls wr ((HK.out.below B9.out).below HB.out)).mono ?_; rintro e x10 ⟨rfl, hB10⟩; have HB10 := Aside0.mk (below_tr HB.out hB10 HB.out.size); clear hB10)
        | fail)
      go_ret
      exact ⟨rfl, B9.out.trans (HB10.out.mono B9.out.size)⟩
end Go.Proofs.YtdfahblgnbdndaaDoor
