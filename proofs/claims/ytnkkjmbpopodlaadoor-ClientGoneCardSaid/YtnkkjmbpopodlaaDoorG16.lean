/- Plain lemmas and contracts, several texts in one: Cl7, Cl8. Conditions: their own. -/
import Derived.Test.YtnkkjmbpopodlaaDoorG15
namespace Go.Proofs.YtnkkjmbpopodlaaDoor
open Go.RowKit Go.Proofs.YtnkkjmbpopodlaaDoorW.PrintWords Go.Proofs.YtnkkjmbpopodlaaDoorW.PrintMore
set_option linter.unusedVariables false
set_option linter.unusedSimpArgs false
/-- Rows of rows of bytes. -/
abbrev KL : Kd (List Int) := Kd.slice 5 (Kd.int .u8)
abbrev OwL (w : World) (base : Nat) (v : Value) (xs : List (List Int)) : Prop := KL.R 37 w base (fun _ => True) v xs
theorem kl_move {w w1 : World} {base : Nat} {v : Value} {xs : List (List Int)} (h : OwL w base v xs) (hm : ∀ k cells q, base ≤ k → k < w.heap.size → (q = 37 ∨ q = 5) → w.heap[k]? = some (.cells cells q (0, 0)) → w1.heap[k]? = w.heap[k]?) : OwL w1 base v xs :=
  Kd.R_mono (Kd.R_move (Kd.R_bound h) (fun k hk => by
    obtain ⟨_, hb, hl, q, hq, cells, hc⟩ := hk
    refine hm k cells q hb hl ?_ hc
    rcases List.mem_cons.1 hq with rfl | hq
    · exact .inl rfl
    · rcases List.mem_cons.1 hq with rfl | hq
      · exact .inr rfl
      · cases hq)) (fun _ hk => hk.1)
section
variable {P : Program} {ops : Array Oper} {Q : Exit → Act → World → Prop} {o : Oper} {a : Act}
/-- append of one element that holds a row, in a drawn region. -/
theorem do_appO {α : Type} (d : Kd α) {w0 W : World} {i : Nat} {N : Tmp} {K : Act → World → Prop} (base : Nat) (hi : ops[i]? = some o) (hN : o.dst = some N) (hw : Region.wanted o (yielded ops a.tmps) = true) (s x : Operand) (t e : TypeId) (z : Value) (bytes : Nat)
    (ho : o.op = .call { callee := .builtin .append, args := #[s, x], argTypes := #[t, t] })
    (ht : P.underlying t = some (.slice e)) (hinfo : (P.info? e).map (fun i => (i.zero, i.size, i.bytes)) = some (some z, d.sz, bytes)) (hz : z.cells.size = d.sz) (hs0 : 0 < d.sz) (hb0 : 0 < bytes)
    (v : Value) (xs : List α) (p : α) (cs : List Value) (okp : Nat → Prop) (hs : a.eval s = v) (hx : a.eval x = .slice (some ⟨W.heap.size, 0, none⟩) 1 1) (hp : d.M W base okp p cs) (hokp : ∀ k, okp k → True ∧ some k ≠ v.ownBlock)
    (HO : d.R e W base (fun _ => True) v xs) (HB : Below base w0 W) (hbase : base ≤ W.heap.size) (hl : (xs.length + 1) * bytes ≤ 140737488355328)
    (h : ∀ v1 w1, d.R e w1 base (fun _ => True) v1 (xs ++ [p]) → Below base w0 w1 → W.grownBy w1 v.ownBlock → (v1.ownBlock = v.ownBlock ∨ ∃ b, v1.ownBlock = some b ∧ W.heap.size ≤ b) → K (a.put (some N) v1) w1) :
    wpOp P ops Q i K a (W.alloc (.cells cs.toArray e)) := by
  refine do_ hi hw ?_
  have := Kd.R_append_step (P := P) (Q := Q) (Kc := K) (o := o) (a := a) (ops := ops) d base hw s x t e z bytes ho ht hinfo hz hs0 hb0 v xs p cs (fun _ => True) okp hs hx hp hokp (fun _ _ => trivial) HO HB hbase hl (fun v1 w1 h1 h2 h3 h4 => by
    rw [hN]; exact h v1 w1 h1 h2 h3 h4)
  rwa [if_pos hw] at this
end
/-- Bytes of one's own as an element. -/
theorem el_own {w : World} {b base : Nat} {u : Value} {ys : List Int} (h : OwB w b u ys) (hb : base ≤ b) : KL.M w base (fun k => some k = u.ownBlock) ys [u] :=
  ⟨u, rfl, Kd.R_lower (Kd.R_of_own (Kd.own_of_R h) (fun k hk => hk.symm)) hb⟩
theorem el_ne {w W : World} {base b : Nat} {vo u : Value} {o : List (List Int)} {ys : List Int} (hO : OwL W base vo o) (hu : OwB w b u ys) (hb : W.heap.size ≤ b) : ∀ k, some k = u.ownBlock → True ∧ some k ≠ vo.ownBlock := fun k hk => ⟨trivial, fun e => by
  have h1 := Kd.R_lt hO k e.symm
  have h2 := Kd.R_base hu k hk.symm
  omega⟩
theorem PCl.typed {w : World} {B g tb : Nat} {c : Cl} {v : Value} (h : PCl w B g tb c v) (hp : 0 < c.L.length) : ∃ cells, w.heap[gOf v]? = some (.cells cells 87 (0, 0)) := by
  obtain ⟨gr, cap, rfl, _, _, hc⟩ := Kd.R_form h.own hp
  exact hc
theorem kl_ask {w w1 : World} {B g tb base : Nat} {c : Cl} {v vo : Value} {xs : List (List Int)} (h : OwL w base vo xs) (hP : PCl w B g tb c v) (hp : 0 < c.L.length) (hF : Fr w w1 (fun k => k = g ∨ k = gOf v)) : OwL w1 base vo xs := by
  obtain ⟨cs, ht⟩ := hP.typed hp
  refine kl_move h fun k cells q _ hl hq hk => hF.block k hl ?_
  rintro (rfl | rfl)
  · rw [hP.blk] at hk
    injection hk with hk
    injection hk with _ hk
    rcases hq with rfl | rfl <;> exact absurd hk (by decide)
  · rw [ht] at hk
    injection hk with hk
    injection hk with _ hk
    rcases hq with rfl | rfl <;> exact absurd hk (by decide)
theorem PCl.grown {w w1 : World} {B g tb b : Nat} {c : Cl} {v vo : Value} {o : List (List Int)} (h : PCl w B g tb c v) (hO : OwL w b vo o) (hG : w.grownBy w1 vo.ownBlock) : PCl w1 B g tb c v :=
  ⟨(hG.block g (blk_lt h.blk) (Kd.R_ne hO h.blk (by decide))).trans h.blk, (hG.block tb (blk_lt h.tim) (Kd.R_ne hO h.tim (by decide))).trans h.tim, kf_move h.own fun k cells _ hc => hG.block k (blk_lt hc) (Kd.R_ne hO hc (by decide)), h.hg, h.ht⟩
theorem StV.grown {w w1 : World} {q qo qc g b : Nat} {t : Int} {vo : Value} {o : List (List Int)} (h : StV w q qo qc g t) (hO : OwL w b vo o) (hG : w.grownBy w1 vo.ownBlock) : StV w1 q qo qc g t :=
  ⟨(hG.block q (blk_lt h.tick) (Kd.R_ne hO h.tick (by decide))).trans h.tick, (hG.block qo (blk_lt h.ov) (Kd.R_ne hO h.ov (by decide))).trans h.ov, (hG.block qc (blk_lt h.rc) (Kd.R_ne hO h.rc (by decide))).trans h.rc⟩
theorem StV.fr {w w1 : World} {q qo qc g : Nat} {t : Int} {S : Nat → Prop} (h : StV w q qo qc g t) (hF : Fr w w1 S) (h1 : ¬ S q) (h2 : ¬ S qo) (h3 : ¬ S qc) : StV w1 q qo qc g t :=
  ⟨(hF.block q (blk_lt h.tick) h1).trans h.tick, (hF.block qo (blk_lt h.ov) h2).trans h.ov, (hF.block qc (blk_lt h.rc) h3).trans h.rc⟩
/-- What Step's loops keep. -/
structure SI (S : Nat → Prop) (w wr : World) (B g tb q qo qc : Nat) (v : Value) (t : Int) (c : Cl) (o : List (List Int)) (vo : Value) : Prop where
  pc : PCl wr B g tb c v
  out : OwL wr w.heap.size vo o
  sv : StV wr q qo qc g t
  fr : Fr w wr S
theorem SI.below {S : Nat → Prop} {w wr w1 : World} {B g tb q qo qc : Nat} {v vo : Value} {t : Int} {c : Cl} {o : List (List Int)} (h : SI S w wr B g tb q qo qc v t c o vo) (k : Below wr.heap.size wr w1) : SI S w w1 B g tb q qo qc v t c o vo :=
  ⟨h.pc.below k, Kd.R_below h.out k, h.sv.below k, h.fr.call k⟩
/-- One is asked for: before the row of all grows. -/
theorem SI.asked {S : Nat → Prop} {w wr w1 : World} {B g tb q qo qc : Nat} {v vo : Value} {t : Int} {c c' : Cl} {o : List (List Int)} (h : SI S w wr B g tb q qo qc v t c o vo) (hp : 0 < c.L.length) (hg : g < w.heap.size) (hgr : gOf v < w.heap.size) (hq : w.heap.size ≤ q) (hqo : w.heap.size ≤ qo) (hqc : w.heap.size ≤ qc)
    (hS : ∀ k, (k = g ∨ k = gOf v) → S k) (hP : PCl w1 B g tb c' v) (hF : Fr wr w1 (fun k => k = g ∨ k = gOf v)) : SI S w w1 B g tb q qo qc v t c' o vo :=
  ⟨hP, kl_ask h.out h.pc hp hF, h.sv.fr hF (by omega) (by omega) (by omega), h.fr.trans (hF.mono hS)⟩
theorem SI.app {S : Nat → Prop} {w wr w1 : World} {B g tb q qo qc : Nat} {v vo v1 : Value} {t : Int} {c : Cl} {o : List (List Int)} {ys : List Int} (h : SI S w wr B g tb q qo qc v t c o vo) (hO : OwL w1 w.heap.size v1 (o ++ [ys])) (hG : wr.grownBy w1 vo.ownBlock) : SI S w w1 B g tb q qo qc v t c (o ++ [ys]) v1 :=
  ⟨h.pc.grown h.out hG, hO, h.sv.grown h.out hG, h.fr.grown hG fun i hi => .inr (Kd.R_base h.out i hi)⟩
theorem infoBS : (Tryd.prog.info? 37).map (fun i => (i.zero, i.size, i.bytes)) = some (some (.slice none 0 0), 1, 24) := by kernel_rfl
end Go.Proofs.YtnkkjmbpopodlaaDoor
namespace Go.Proofs.YtnkkjmbpopodlaaDoor
open Go.Proofs.YtnkkjmbpopodlaaDoorW.PrintLast (i64_w i32_w)
open Go.RowKit Go.Proofs.YtnkkjmbpopodlaaDoorW.PrintWords Go.Proofs.YtnkkjmbpopodlaaDoorW.PrintMore
set_option linter.unusedVariables false
set_option linter.unusedSimpArgs false
section
variable {ops : Array Oper} {rest : List Oper} {a : Act} {Q : Exit → Act → World → Prop} {w : World}
theorem infoFT : (Tryd.prog.info? 96).map (fun i => (i.zero, i.size, i.bytes)) = some (some .nilFunc, 1, 8) := by kernel_rfl
/-- A variable that holds a func, made and written. -/
theorem new_fn {o1 o2 : Oper} {N : Tmp} (hg1 : o1.guard = none) (hg2 : o2.guard = none) (hd1 : o1.dst = some N) (ho1 : o1.op = .alloc 96) (y : Operand) (ho2 : o2.op = .store 96 (.tmp N) y) (hN : N < a.tmps.size) (f : FuncId) (K0 : Array Value)
    (hy : (a.put (some N) (.pointer (some ⟨w.heap.size, 0, none⟩))).eval y = .func (.func f) #[] K0)
    (h : ∀ w1 g, NewBlk w w1 g (.cells #[.func (.func f) #[] K0] 96 (0, 0)) → wpList Tryd.prog ops Q rest ((a.put (some N) (.pointer (some ⟨g, 0, none⟩))).put o2.dst undef) w1) : wpList Tryd.prog ops Q (o1 :: o2 :: rest) a w := by
  obtain ⟨it, hi, hz, hs, _⟩ := info_parts infoFT
  refine wpList_plain hg1 fun K hK => ?_
  unfold Oper.wp
  have hr : (execOp a.eval o1).run Tryd.prog w = .ok (.value (.pointer (some ⟨w.heap.size, 0, none⟩))) (w.alloc (.cells #[.nilFunc] 96)) := by
    unfold execOp
    simp only [ho1, Sem.run_bind, alloc_run hi hz, Result.andThen_ok, Sem.run_pure]
    rfl
  rw [hr]
  refine hK _ _ ?_
  rw [hd1]
  have hb := blk_new w (.cells #[.nilFunc] 96)
  have hst := run_store_run (P := Tryd.prog) (g := w.heap.size) (o := 0) 96 (.func (.func f) #[] K0) [.func (.func f) #[] K0] hb rfl (by rw [hi]; exact congrArg some hs) (Nat.le_refl _) (fun q hq => by rw [List.mem_singleton.1 hq]; rfl)
  refine store_arm hg2 96 (.tmp N) y ho2 ?_ hy hst ?_
  · show (a.tmps.setIfInBounds N _).getD N undef = _
    simp [hN]
  · have HS := setBlk_cells hb [.func (.func f) #[] K0] rfl
    exact h _ _ ⟨((Below.refl _ _).alloc (Nat.le_refl _) _).trans (HS.below (Nat.le_refl _)), HS.at_, Nat.le_refl _⟩
end
theorem step_e (S : Nat → Prop) (B g tb : Nat) (c : Cl) (v : Value) (t : Int) (w : World) (h : PCl w B g tb c v) (hSg : S g) (hSv : 0 < c.L.length → S (gOf v)) (he : c.e ≠ 0) :
    Calls Tryd.prog 20 #[.pointer (some ⟨g, 0, none⟩), .int .i64 t] w fun e w' => ∃ u, e = .returned u ∧ OwL w' w.heap.size u (stepC c t).2 ∧ PCl w' B g tb (stepC c t).1 v ∧ Fr w w' S := by
  have HE : Aside0 (stepC c t = (c, [])) := ⟨by unfold stepC; rw [if_pos he]⟩
  have HB : Aside0 (Below w.heap.size w ((w.alloc (.cells #[.pointer (some ⟨g, 0, none⟩)] 29)).alloc (.cells #[.int .i64 t] 3))) := ⟨((Below.refl _ _).alloc (Nat.le_refl _) _).alloc (by simp) _⟩
  have HP := Aside0.mk (h.below HB.out)
  obtain ⟨q0, q1, q2, q3, q4, q5, q6⟩ := HP.out.cells
  have hne : (c.e == 0) = false := by simp [he]
  clear h q0 q1 q2 q3 q4 q6 he
  rw [HE.out]
  go_enter Tryd.func20, Tryd.ntmps20
  go_wp2
  go_ret
  exact ⟨_, rfl, Kd.R_nil _ _ _ _ _, HP.out, Fr.later HB.out⟩
set_option maxRecDepth 20000 in
set_option maxHeartbeats 1600000 in
theorem step_lost (S : Nat → Prop) (B g tb : Nat) (c : Cl) (v : Value) (t : Int) (w : World) (h : PCl w B g tb c v) (hSg : S g) (hSv : 0 < c.L.length → S (gOf v)) (hok : c.ok) (he : c.e = 0) (hl : lostC c t = true) :
    Calls Tryd.prog 20 #[.pointer (some ⟨g, 0, none⟩), .int .i64 t] w fun e w' => ∃ u, e = .returned u ∧ OwL w' w.heap.size u (stepC c t).2 ∧ PCl w' B g tb (stepC c t).1 v ∧ Fr w w' S := by
  have HE : Aside0 (stepC c t = ({ c with e := 10 }, [])) := ⟨by unfold stepC; rw [if_neg (by simp [he]), if_pos hl]⟩
  have HB : Aside0 (Below w.heap.size w ((w.alloc (.cells #[.pointer (some ⟨g, 0, none⟩)] 29)).alloc (.cells #[.int .i64 t] 3))) := ⟨((Below.refl _ _).alloc (Nat.le_refl _) _).alloc (by simp) _⟩
  have HP := Aside0.mk (h.below HB.out)
  have HG := Aside0.mk (fun W (hW : PCl W B g tb c v) => hW.errS 10)
  clear hSv
  obtain ⟨A, cp, rfl, -, -⟩ := HP.out.reads
  obtain ⟨q0, q1, q2, q3, q4, q5, q6⟩ := HP.out.cells
  have hmf : ∀ (fn : Fn) (first cap : Array Value) (w : World), (Instr.makeFunc fn first cap).run Tryd.prog w = .ok (.func fn first cap) w := fun _ _ _ _ => rfl
  rw [he] at q5
  clear h q0 q1 q2 q3 q4 q6
  rw [HE.out]
  go_enter Tryd.func20, Tryd.ntmps20
  go_upto_region 4 with (first
    | ((with_reducible refine at_al 96 ?_); refine new_fn rfl rfl rfl rfl (.tmp 15) rfl (of_decide_eq_true rfl) _ _ rfl ?_; rintro w1 qo N1; have HN1 := Aside0.mk N1; clear N1)
    | fail)
  have HW1 : Aside0 (Below w.heap.size w w1) := ⟨below_tr HB.out HN1.out.below HB.out.size⟩
  have HP1 := Aside0.mk (HP.out.below HN1.out.below)
  have HS1 : Aside0 (StV w1 (w.heap.size + 1) qo w.heap.size g t) := ⟨⟨HN1.out.blk (heap_alloc2_new w _ _), HN1.out.at_, HN1.out.blk (heap_alloc2_old w _ _)⟩⟩
  have HL : Aside0 (Calls Tryd.prog 48 #[.slice A c.L.length cp, .func (.func 49) #[] #[.pointer (some ⟨qo, 0, none⟩), .pointer (some ⟨w.heap.size, 0, none⟩)]] w1 fun e w' => e = .returned (.bool (lostC c t)) ∧ Below w1.heap.size w1 w') := ⟨lost_calls t B g tb _ _ _ c _ A cp w1 hok HS1.out HP1.out rfl⟩
  obtain ⟨q0, q1, q2, q3, q4, q5, q6⟩ := HP1.out.cells
  obtain ⟨s0, s1, s2⟩ := HS1.out.cells
  have HEP : Aside0 (∀ W, Below w1.heap.size w1 W → W.cell? ⟨w.heap.size, 0, none⟩ = some (.pointer (some ⟨g, 0, none⟩)) ∧ W.cell? ⟨g, 5, none⟩ = some (.int .i64 c.e) ∧ W.frozen? ⟨g, 5, none⟩ = false) := ⟨fun W hW => ⟨(HS1.out.below hW).cells.2.2, (HP1.out.below hW).cells.2.2.2.2.2.1, blk_frozen (HP1.out.below hW).blk 5⟩⟩
  rw [hl] at HL
  clear q1 q2 q3 q4 q5 q6 s0 s1
  go_wp2_with (first
    | (go_at_call 48; refine HL.out.mono ?_; rintro e w2 ⟨rfl, hB2⟩; have HB2 := Aside0.mk hB2; obtain ⟨s2, q5, q6⟩ := HEP.out w2 hB2; clear hB2)
    | fail)
  go_ret
  have hE := HG.out _ (HP1.out.below HB2.out)
  exact ⟨_, rfl, Kd.R_nil _ _ _ _ _, hE.1, (Fr.later (below_tr HW1.out HB2.out HW1.out.size)).trans (hE.2.mono (fun k hk => by subst hk; exact hSg))⟩
theorem b1_late {t : Int} {c : Cl} {k : Nat} : b1 t c k = late t (wd c.L k) := rfl
theorem late_st {t : Int} {x : Wt} (h : late t x = true) : x.st ≠ 2 := by
  unfold late at h
  simp only [Bool.and_eq_true, beq_iff_eq] at h
  omega
theorem p1_true {t : Int} {c : Cl} {k : Nat} (h : late t (wd (p1 t c k).1.L k) = true) : (p1 t c (k + 1)).1 = askC (p1 t c k).1 k t ∧ (p1 t c (k + 1)).2 = (p1 t c k).2 ++ [askB ((p1 t c k).1.seq + 1) (wd (p1 t c k).1.L k).nm] := by
  have e : p1 t c (k + 1) = (oneC t (b1 t (p1 t c k).1 k) (p1 t c k).1 k, (p1 t c k).2 ++ oneB (b1 t (p1 t c k).1 k) (p1 t c k).1 k) := rfl
  rw [e, b1_late, h]
  exact ⟨rfl, rfl⟩
theorem p1_false {t : Int} {c : Cl} {k : Nat} (h : late t (wd (p1 t c k).1.L k) = false) : (p1 t c (k + 1)).1 = (p1 t c k).1 ∧ (p1 t c (k + 1)).2 = (p1 t c k).2 := by
  have e : p1 t c (k + 1) = (oneC t (b1 t (p1 t c k).1 k) (p1 t c k).1 k, (p1 t c k).2 ++ oneB (b1 t (p1 t c k).1 k) (p1 t c k).1 k) := rfl
  rw [e, b1_late, h]
  simp [oneC, oneB]
theorem p2_true {t : Int} {c : Cl} {o : List (List Int)} {k : Nat} (h : b2 (p2 t c o k).1 k = true) : (p2 t c o (k + 1)).1 = askC (p2 t c o k).1 k t ∧ (p2 t c o (k + 1)).2 = (p2 t c o k).2 ++ [askB ((p2 t c o k).1.seq + 1) (wd (p2 t c o k).1.L k).nm] := by
  have e : p2 t c o (k + 1) = (oneC t (b2 (p2 t c o k).1 k) (p2 t c o k).1 k, (p2 t c o k).2 ++ oneB (b2 (p2 t c o k).1 k) (p2 t c o k).1 k) := rfl
  rw [e, h]
  exact ⟨rfl, rfl⟩
theorem p2_false {t : Int} {c : Cl} {o : List (List Int)} {k : Nat} (h : b2 (p2 t c o k).1 k = false) : (p2 t c o (k + 1)).1 = (p2 t c o k).1 ∧ (p2 t c o (k + 1)).2 = (p2 t c o k).2 := by
  have e : p2 t c o (k + 1) = (oneC t (b2 (p2 t c o k).1 k) (p2 t c o k).1 k, (p2 t c o k).2 ++ oneB (b2 (p2 t c o k).1 k) (p2 t c o k).1 k) := rfl
  rw [e, h]
  simp [oneC, oneB]
/-- How many Asks there are behind so many rounds. -/
theorem p1_outs (t : Int) (c : Cl) : ∀ k, (p1 t c k).2.length ≤ k
  | 0 => Nat.le_refl _
  | k + 1 => by
    have := p1_outs t c k
    show ((p1 t c k).2 ++ oneB _ _ _).length ≤ _
    rw [List.length_append]
    unfold oneB
    split <;> simp <;> omega
theorem p2_outs (t : Int) (c : Cl) (o : List (List Int)) : ∀ k, (p2 t c o k).2.length ≤ o.length + k
  | 0 => Nat.le_refl _
  | k + 1 => by
    have := p2_outs t c o k
    show ((p2 t c o k).2 ++ oneB _ _ _).length ≤ _
    rw [List.length_append]
    unfold oneB
    split <;> simp <;> omega
set_option maxRecDepth 20000 in
set_option maxHeartbeats 6400000 in
theorem step_run (S : Nat → Prop) (B g tb : Nat) (c : Cl) (v : Value) (t : Int) (w : World) (h : PCl w B g tb c v) (hSg : S g) (hSv : 0 < c.L.length → S (gOf v)) (hok : c.ok) (he : c.e = 0) (hl : lostC c t = false) (hs : c.seq + 2 * c.L.length < 4294967295) (ht0 : 0 ≤ t) (ht1 : t ≤ 1099511627776) :
    Calls Tryd.prog 20 #[.pointer (some ⟨g, 0, none⟩), .int .i64 t] w fun e w' => ∃ u, e = .returned u ∧ OwL w' w.heap.size u (stepC c t).2 ∧ PCl w' B g tb (stepC c t).1 v ∧ Fr w w' S := by
  have HE : Aside0 (stepC c t = p2 t (p1 t c c.L.length).1 (p1 t c c.L.length).2 c.L.length) := ⟨by unfold stepC; rw [if_neg (by simp [he]), if_neg (by simp [hl])]⟩
  have HB : Aside0 (Below w.heap.size w ((w.alloc (.cells #[.pointer (some ⟨g, 0, none⟩)] 29)).alloc (.cells #[.int .i64 t] 3))) := ⟨((Below.refl _ _).alloc (Nat.le_refl _) _).alloc (by simp) _⟩
  have HP := Aside0.mk (h.below HB.out)
  obtain ⟨A, cp, hv, hcp, -⟩ := HP.out.reads
  have HV := Aside0.mk hv
  obtain ⟨q0, q1, q2, q3, q4, q5, q6⟩ := HP.out.cells
  have hmf : ∀ (fn : Fn) (first cap : Array Value) (w : World), (Instr.makeFunc fn first cap).run Tryd.prog w = .ok (.func fn first cap) w := fun _ _ _ _ => rfl
  rw [he] at q5
  have HOK := Aside0.mk hok
  have hl1 := hok.l1
  have HSS : Aside0 (0 < c.L.length → ∀ k, (k = g ∨ k = gOf v) → S k) := ⟨fun hp k hk => by rcases hk with rfl | rfl; exact hSg; exact hSv hp⟩
  have HGL : Aside0 (g < w.heap.size ∧ (0 < c.L.length → gOf v < w.heap.size)) := ⟨⟨blk_lt h.blk, fun hp => (h.gne hp).2.2.2⟩⟩
  obtain ⟨gr, hgr⟩ : ∃ gr, gOf v = gr := ⟨_, rfl⟩
  have HGR := Aside0.mk hgr
  have HA : Aside0 (0 < c.L.length → A = some ⟨gr, 0, none⟩) := ⟨fun hp => by
    obtain ⟨cp', e, _⟩ := own_form HP.out.own hp
    have e2 : v = .slice (some ⟨gr, 0, none⟩) c.L.length cp' := by rw [← HGR.out]; exact e
    rw [HV.out] at e2
    injection e2 with e1⟩
  obtain ⟨n, hn⟩ : ∃ n, c.L.length = n := ⟨_, rfl⟩
  have HN := Aside0.mk hn
  clear h q0 q1 q2 q3 q4 q6 hok hv hgr hSg hSv
  obtain ⟨c1, hc1⟩ : ∃ c1, (p1 t c c.L.length).1 = c1 := ⟨_, rfl⟩
  obtain ⟨o1, ho1⟩ : ∃ o1, (p1 t c c.L.length).2 = o1 := ⟨_, rfl⟩
  have HC1 := Aside0.mk hc1
  have HO1 := Aside0.mk ho1
  rw [HE.out, hc1, ho1, hn]
  rw [hn] at HC1 HO1
  clear hc1 ho1
  go_enter Tryd.func20, Tryd.ntmps20
  go_upto_region 4 with (first
    | ((with_reducible refine at_al 96 ?_); refine new_fn rfl rfl rfl rfl (.tmp 15) rfl (of_decide_eq_true rfl) _ _ rfl ?_; rintro w1 qo N1; have HN1 := Aside0.mk N1; clear N1)
    | fail)
  have HW1 : Aside0 (Below w.heap.size w w1) := ⟨below_tr HB.out HN1.out.below HB.out.size⟩
  have HP1 := Aside0.mk (HP.out.below HN1.out.below)
  have HS1 : Aside0 (StV w1 (w.heap.size + 1) qo w.heap.size g t) := ⟨⟨HN1.out.blk (heap_alloc2_new w _ _), HN1.out.at_, HN1.out.blk (heap_alloc2_old w _ _)⟩⟩
  have HQO : Aside0 (w.heap.size ≤ qo) := ⟨by have := HN1.out.ge; simp at this; omega⟩
  have HL : Aside0 (Calls Tryd.prog 48 #[.slice A n cp, .func (.func 49) #[] #[.pointer (some ⟨qo, 0, none⟩), .pointer (some ⟨w.heap.size, 0, none⟩)]] w1 fun e w' => e = .returned (.bool (lostC c t)) ∧ Below w1.heap.size w1 w') := ⟨by
    have := lost_calls t B g tb _ _ _ c v A cp w1 HOK.out HS1.out HP1.out (by rw [HN.out]; rw [← HN.out]; exact HV.out)
    rwa [HV.out, HN.out] at this⟩
  rw [hl] at HL
  have HEP : Aside0 (∀ W c' o vo, SI S w W B g tb (w.heap.size + 1) qo w.heap.size v t c' o vo → c'.L.length = n → W.cell? ⟨w.heap.size, 0, none⟩ = some (.pointer (some ⟨g, 0, none⟩)) ∧ W.cell? ⟨g, 0, none⟩ = some (.slice A n cp) ∧ W.cell? ⟨qo, 0, none⟩ = some (.func (.func 47) #[] #[.pointer (some ⟨w.heap.size + 1, 0, none⟩)]) ∧ W.cell? ⟨w.heap.size + 1, 0, none⟩ = some (.int .i64 t) ∧ W.cell? ⟨g, 1, none⟩ = some (.int .i64 c'.window)) := ⟨fun W c' o vo hW hl => by
    obtain ⟨s0, s1, s2⟩ := hW.sv.cells
    have hc := hW.pc.cells
    refine ⟨s2, ?_, s1, s0, hc.2.1⟩
    rw [hc.1, HV.out, HN.out]⟩
  have HSI1 : Aside0 (SI S w w1 B g tb (w.heap.size + 1) qo w.heap.size v t c [] (.slice none 0 0)) := ⟨⟨HP1.out, Kd.R_nil _ _ _ _ _, HS1.out, Fr.later HW1.out⟩⟩
  obtain ⟨s2, q0, -⟩ := HEP.out w1 c _ _ HSI1.out HN.out
  have HEQ : Aside0 (∀ W, Below w1.heap.size w1 W → W.cell? ⟨w.heap.size, 0, none⟩ = some (.pointer (some ⟨g, 0, none⟩)) ∧ W.cell? ⟨g, 0, none⟩ = some (.slice A n cp)) := ⟨fun W hW => by
    obtain ⟨s2, q0, -⟩ := HEP.out W c _ _ (HSI1.out.below hW) HN.out
    exact ⟨s2, q0⟩⟩
  clear q5 he hl
  rw [hn] at hl1 hs hcp HA HGL HSS
  clear hn
  go_wp2_with (first
    | (go_at_call 48; refine HL.out.mono ?_; rintro e w2 ⟨rfl, hB2⟩; have HSI2 := Aside0.mk (HSI1.out.below hB2); obtain ⟨s2, q0⟩ := HEQ.out w2 hB2; clear hB2)
    | fail)
  clear s2 q0
  go_loopw [6, 7, 30] (fun vo _ i wr => ∃ k : Nat, k ≤ n ∧ i = .int .i64 k ∧ SI S w wr B g tb (w.heap.size + 1) qo w.heap.size v t (p1 t c k).1 (p1 t c k).2 vo) (fun _ _ i _ => n - (intOf i).toNat)
  case atStart => exact ⟨0, Nat.zero_le _, rfl, HSI2.out⟩
  case round =>
    obtain ⟨k, hk, rfl, hS⟩ := hrel
    have HS := Aside0.mk hS
    clear hS HSI1 HSI2 HL
    by_cases hlt : k < n
    · obtain rfl := HA.out (by omega)
      have HG := Aside0.mk (p1_grow t c k)
      have HKO := Aside0.mk (p1_ok t HOK.out k (by rw [HN.out]; omega))
      have HT1 := Aside0.mk (p1_true (t := t) (c := c) (k := k))
      have HT0 := Aside0.mk (p1_false (t := t) (c := c) (k := k))
      have HOL := Aside0.mk (p1_outs t c k)
      generalize hc' : (p1 t c k).1 = c' at *
      generalize hb' : (p1 t c k).2 = os at *
      have hll : c'.L.length = n := by rw [HG.out.len, HN.out]
      have HSQ : Aside0 (c'.seq < 4294967295) := ⟨by have := HG.out.hi; omega⟩
      have HLL := Aside0.mk hll
      obtain ⟨x, hx⟩ : ∃ x, wd c'.L k = x := ⟨_, rfl⟩
      have HXK : Aside0 (x.ok c'.seq) := ⟨by rw [← hx]; exact HKO.out.at (by omega)⟩
      have HX32 := Aside0.mk HXK.out.1
      have HLD : Aside0 (∀ W, Below wr.heap.size wr W → (Instr.loadAt 87 (.pointer (some ⟨gr, k * 36, none⟩))).run Tryd.prog W = .ok (.agg (pcells x).toArray) W) := ⟨fun W hW => by
        have h := (own_cells (HS.out.below hW).pc.own (i := k) (by rw [HLL.out]; omega)).2.2.2.2.2.2.1
        rw [HGR.out, hx] at h
        exact run_loadAt_mid W gr (k * 36) 87 (pcells x) _ h Tryd.underlying87 rfl (size_p HX32.out)⟩
      have HCE : Aside0 (∀ W, Below wr.heap.size wr W → W.cell? ⟨w.heap.size, 0, none⟩ = some (.pointer (some ⟨g, 0, none⟩)) ∧ W.cell? ⟨g, 0, none⟩ = some (.slice (some ⟨gr, 0, none⟩) n cp) ∧ W.cell? ⟨qo, 0, none⟩ = some (.func (.func 47) #[] #[.pointer (some ⟨w.heap.size + 1, 0, none⟩)]) ∧ W.cell? ⟨w.heap.size + 1, 0, none⟩ = some (.int .i64 t) ∧ W.cell? ⟨g, 1, none⟩ = some (.int .i64 c'.window)) := ⟨fun W hW => HEP.out W c' _ _ (HS.out.below hW) HLL.out⟩
      have HD0 : Aside0 (Below wr.heap.size wr wr.drew) := ⟨Below.drew (Below.refl _ wr)⟩
      have HST : Aside0 (∀ W, Below wr.heap.size wr W → Calls Tryd.prog 47 #[.agg (pcells x).toArray, .pointer (some ⟨w.heap.size + 1, 0, none⟩)] W fun e w' => e = .returned (.bool (late t x)) ∧ Below W.heap.size W w') := ⟨fun W hW => step1_calls x c'.seq t _ _ W rfl HXK.out (HS.out.below hW).sv.tick⟩
      have hltI : (k : Int) < (n : Int) := by omega
      rw [hx] at HT1 HT0
      rcases hb : late t x with _ | _
      · have HT := Aside0.mk (HT0.out hb)
        rw [hb] at HST
        clear hb HT0 HT1 hc' hb' hx hll
        go_upto_region 11 with fail
        refine seq_startN [] (.take 0 (.take 1 (.take 2 (.take 3 (.take 4 (.take 5 (.take 6 (.take 7 (.run 8 .done))))))))) (by kernel_rfl) (by kernel_rfl) ?_
        refine seq_take (v := ?_) (a' := ?_) rfl rfl (by rfl) (fun w' hw' => ?_) ?_ ?_
        rotate_left 2
        · obtain ⟨a0, a1, a2, a3, a4⟩ := HCE.out w' (Later.trans HD0.out hw'); go_simp
          with_reducible rfl
        · simp only [Act.put, List.setIfInBounds_toArray, List.set_cons_zero, List.set_cons_succ, i64_w, i32_w]
          rfl
        refine seq_take (v := ?_) (a' := ?_) rfl rfl (by rfl) (fun w' hw' => ?_) ?_ ?_
        rotate_left 2
        · obtain ⟨a0, a1, a2, a3, a4⟩ := HCE.out w' (Later.trans HD0.out hw'); go_simp
          with_reducible rfl
        · simp only [Act.put, List.setIfInBounds_toArray, List.set_cons_zero, List.set_cons_succ, i64_w, i32_w]
          rfl
        refine seq_take (v := ?_) (a' := ?_) rfl rfl (by rfl) (fun w' hw' => ?_) ?_ ?_
        rotate_left 2
        · go_simp
          with_reducible rfl
        · simp only [Act.put, List.setIfInBounds_toArray, List.set_cons_zero, List.set_cons_succ, i64_w, i32_w]
          rfl
        refine seq_take (v := ?_) (a' := ?_) rfl rfl (by rfl) (fun w' hw' => ?_) ?_ ?_
        rotate_left 2
        · go_simp
          with_reducible rfl
        · simp only [Act.put, List.setIfInBounds_toArray, List.set_cons_zero, List.set_cons_succ, i64_w, i32_w]
          rfl
        refine seq_take (v := ?_) (a' := ?_) rfl rfl (by rfl) (fun w' hw' => ?_) ?_ ?_
        rotate_left 2
        · obtain ⟨a0, a1, a2, a3, a4⟩ := HCE.out w' (Later.trans HD0.out hw'); go_simp
          with_reducible rfl
        · simp only [Act.put, List.setIfInBounds_toArray, List.set_cons_zero, List.set_cons_succ, i64_w, i32_w]
          rfl
        refine seq_take (v := ?_) (a' := ?_) rfl rfl (by rfl) (fun w' hw' => ?_) ?_ ?_
        rotate_left 2
        · go_simp
          with_reducible rfl
        · simp only [Act.put, List.setIfInBounds_toArray, List.set_cons_zero, List.set_cons_succ, i64_w, i32_w]
          rfl
        refine seq_take (v := ?_) (a' := ?_) rfl rfl (by rfl) (fun w' hw' => ?_) ?_ ?_
        rotate_left 2
        · go_simp
          with_reducible rfl
        · simp only [Act.put, List.setIfInBounds_toArray, List.set_cons_zero, List.set_cons_succ, i64_w, i32_w]
          rfl
        refine seq_take (v := _) (a' := ?_) rfl rfl (by rfl) (fun w' hw' => load_run rfl (p := .pointer (some ⟨gr, k * 36, none⟩)) rfl (HLD.out w' (Later.trans HD0.out hw'))) ?_ ?_
        rotate_left
        · simp only [Act.put, List.setIfInBounds_toArray, List.set_cons_zero, List.set_cons_succ, i64_w, i32_w]
          rfl
        refine seq_run ?_
        refine do_callV rfl rfl (by rfl) (.tmp 33) _ rfl rfl Tryd.func47 (by kernel_rfl) rfl #[.agg (pcells x).toArray, .pointer (some ⟨w.heap.size + 1, 0, none⟩)] (by simp only [List.map_toArray, List.map_cons, List.map_nil]; rfl) ?_
        with_reducible refine (HST.out _ HD0.out).mono ?_
        rintro e w3 ⟨rfl, hB3⟩
        refine ⟨_, ?_, rfl, ?_, fun _ => hB3, ?_⟩
        rotate_left
        · simp only [Act.put, List.setIfInBounds_toArray, List.set_cons_zero, List.set_cons_succ]
          rfl
        have HS3 := Aside0.mk (HS.out.below (Later.trans HD0.out hB3))
        clear hB3
        refine seq_endN ?_
        go_wp2
        go_roundw
        case rel => exact ⟨k + 1, by omega, by go_num, by rw [HT.out.1, HT.out.2]; exact HS3.out⟩
        case measure => simp [intOf]; omega
      · have HT := Aside0.mk (HT1.out hb)
        have HNE := Aside0.mk (late_st hb)
        rw [hb] at HST
        have HASK : Aside0 (∀ W, PCl W B g tb c' v → Calls Tryd.prog 50 #[.pointer (some ⟨g, 0, none⟩), .pointer (some ⟨gr, k * 36, none⟩), .int .i64 t] W fun e w' => ∃ u, e = .returned u ∧ OwB w' W.heap.size u (askB (c'.seq + 1) x.nm) ∧ PCl w' B g tb (askC c' k t) v ∧ Fr W w' (fun q => q = g ∨ q = gr)) := ⟨fun W hW => by
          have := ask_calls B g tb c' v k t W hW HKO.out (by rw [HLL.out]; omega) (by rw [hx]; exact HNE.out) HSQ.out ht0 ht1
          rw [HGR.out, hx] at this
          exact this⟩
        clear hb HT0 HT1 hc' hb' hx hll
        go_upto_region 11 with fail
        refine seq_startN [] (.take 0 (.take 1 (.take 2 (.take 3 (.take 4 (.take 5 (.take 6 (.take 7 (.run 8 .done))))))))) (by kernel_rfl) (by kernel_rfl) ?_
        refine seq_take (v := ?_) (a' := ?_) rfl rfl (by rfl) (fun w' hw' => ?_) ?_ ?_
        rotate_left 2
        · obtain ⟨a0, a1, a2, a3, a4⟩ := HCE.out w' (Later.trans HD0.out hw'); go_simp
          with_reducible rfl
        · simp only [Act.put, List.setIfInBounds_toArray, List.set_cons_zero, List.set_cons_succ, i64_w, i32_w]
          rfl
        refine seq_take (v := ?_) (a' := ?_) rfl rfl (by rfl) (fun w' hw' => ?_) ?_ ?_
        rotate_left 2
        · obtain ⟨a0, a1, a2, a3, a4⟩ := HCE.out w' (Later.trans HD0.out hw'); go_simp
          with_reducible rfl
        · simp only [Act.put, List.setIfInBounds_toArray, List.set_cons_zero, List.set_cons_succ, i64_w, i32_w]
          rfl
        refine seq_take (v := ?_) (a' := ?_) rfl rfl (by rfl) (fun w' hw' => ?_) ?_ ?_
        rotate_left 2
        · go_simp
          with_reducible rfl
        · simp only [Act.put, List.setIfInBounds_toArray, List.set_cons_zero, List.set_cons_succ, i64_w, i32_w]
          rfl
        refine seq_take (v := ?_) (a' := ?_) rfl rfl (by rfl) (fun w' hw' => ?_) ?_ ?_
        rotate_left 2
        · go_simp
          with_reducible rfl
        · simp only [Act.put, List.setIfInBounds_toArray, List.set_cons_zero, List.set_cons_succ, i64_w, i32_w]
          rfl
        refine seq_take (v := ?_) (a' := ?_) rfl rfl (by rfl) (fun w' hw' => ?_) ?_ ?_
        rotate_left 2
        · obtain ⟨a0, a1, a2, a3, a4⟩ := HCE.out w' (Later.trans HD0.out hw'); go_simp
          with_reducible rfl
        · simp only [Act.put, List.setIfInBounds_toArray, List.set_cons_zero, List.set_cons_succ, i64_w, i32_w]
          rfl
        refine seq_take (v := ?_) (a' := ?_) rfl rfl (by rfl) (fun w' hw' => ?_) ?_ ?_
        rotate_left 2
        · go_simp
          with_reducible rfl
        · simp only [Act.put, List.setIfInBounds_toArray, List.set_cons_zero, List.set_cons_succ, i64_w, i32_w]
          rfl
        refine seq_take (v := ?_) (a' := ?_) rfl rfl (by rfl) (fun w' hw' => ?_) ?_ ?_
        rotate_left 2
        · go_simp
          with_reducible rfl
        · simp only [Act.put, List.setIfInBounds_toArray, List.set_cons_zero, List.set_cons_succ, i64_w, i32_w]
          rfl
        refine seq_take (v := _) (a' := ?_) rfl rfl (by rfl) (fun w' hw' => load_run rfl (p := .pointer (some ⟨gr, k * 36, none⟩)) rfl (HLD.out w' (Later.trans HD0.out hw'))) ?_ ?_
        rotate_left
        · simp only [Act.put, List.setIfInBounds_toArray, List.set_cons_zero, List.set_cons_succ, i64_w, i32_w]
          rfl
        refine seq_run ?_
        refine do_callV rfl rfl (by rfl) (.tmp 33) _ rfl rfl Tryd.func47 (by kernel_rfl) rfl #[.agg (pcells x).toArray, .pointer (some ⟨w.heap.size + 1, 0, none⟩)] (by simp only [List.map_toArray, List.map_cons, List.map_nil]; rfl) ?_
        with_reducible refine (HST.out _ HD0.out).mono ?_
        rintro e w3 ⟨rfl, hB3⟩
        refine ⟨_, ?_, rfl, ?_, fun _ => hB3, ?_⟩
        rotate_left
        · simp only [Act.put, List.setIfInBounds_toArray, List.set_cons_zero, List.set_cons_succ]
          rfl
        have HD3 : Aside0 (Below wr.heap.size wr w3.drew) := ⟨Below.drew (Later.trans HD0.out hB3)⟩
        have HS3 := Aside0.mk (HS.out.below HD3.out)
        clear hB3
        refine seq_endN ?_
        go_upto_region 12 with fail
        refine seq_startN [9, 11] (.pure 0 (.take 1 (.take 2 (.take 3 (.take 4 (.take 5 (.take 6 (.take 7 (.take 8 (.run 9 (.run 10 (.run 11 (.take 12 .done))))))))))))) (by kernel_rfl) (by kernel_rfl) ?_
        refine seq_pure (v := ?_) (a' := ?_) rfl rfl (by rfl) (fun w' => ?_) ?_ ?_
        rotate_left 2
        · go_simp
          with_reducible rfl
        · simp only [Act.put, List.setIfInBounds_toArray, List.set_cons_zero, List.set_cons_succ, i64_w, i32_w]
          rfl
        refine seq_take (v := ?_) (a' := ?_) rfl rfl (by rfl) (fun w' hw' => ?_) ?_ ?_
        rotate_left 2
        · obtain ⟨a0, a1, a2, a3, a4⟩ := HCE.out w' (Later.trans HD3.out hw'); go_simp
          with_reducible rfl
        · simp only [Act.put, List.setIfInBounds_toArray, List.set_cons_zero, List.set_cons_succ, i64_w, i32_w]
          rfl
        refine seq_take (v := ?_) (a' := ?_) rfl rfl (by rfl) (fun w' hw' => ?_) ?_ ?_
        rotate_left 2
        · obtain ⟨a0, a1, a2, a3, a4⟩ := HCE.out w' (Later.trans HD3.out hw'); go_simp
          with_reducible rfl
        · simp only [Act.put, List.setIfInBounds_toArray, List.set_cons_zero, List.set_cons_succ, i64_w, i32_w]
          rfl
        refine seq_take (v := ?_) (a' := ?_) rfl rfl (by rfl) (fun w' hw' => ?_) ?_ ?_
        rotate_left 2
        · go_simp
          with_reducible rfl
        · simp only [Act.put, List.setIfInBounds_toArray, List.set_cons_zero, List.set_cons_succ, i64_w, i32_w]
          rfl
        refine seq_take (v := ?_) (a' := ?_) rfl rfl (by rfl) (fun w' hw' => ?_) ?_ ?_
        rotate_left 2
        · go_simp
          with_reducible rfl
        · simp only [Act.put, List.setIfInBounds_toArray, List.set_cons_zero, List.set_cons_succ, i64_w, i32_w]
          rfl
        refine seq_take (v := ?_) (a' := ?_) rfl rfl (by rfl) (fun w' hw' => ?_) ?_ ?_
        rotate_left 2
        · obtain ⟨a0, a1, a2, a3, a4⟩ := HCE.out w' (Later.trans HD3.out hw'); go_simp
          with_reducible rfl
        · simp only [Act.put, List.setIfInBounds_toArray, List.set_cons_zero, List.set_cons_succ, i64_w, i32_w]
          rfl
        refine seq_take (v := ?_) (a' := ?_) rfl rfl (by rfl) (fun w' hw' => ?_) ?_ ?_
        rotate_left 2
        · go_simp
          with_reducible rfl
        · simp only [Act.put, List.setIfInBounds_toArray, List.set_cons_zero, List.set_cons_succ, i64_w, i32_w]
          rfl
        refine seq_take (v := ?_) (a' := ?_) rfl rfl (by rfl) (fun w' hw' => ?_) ?_ ?_
        rotate_left 2
        · go_simp
          with_reducible rfl
        · simp only [Act.put, List.setIfInBounds_toArray, List.set_cons_zero, List.set_cons_succ, i64_w, i32_w]
          rfl
        refine seq_take (v := ?_) (a' := ?_) rfl rfl (by rfl) (fun w' hw' => ?_) ?_ ?_
        rotate_left 2
        · obtain ⟨a0, a1, a2, a3, a4⟩ := HCE.out w' (Later.trans HD3.out hw'); go_simp
          with_reducible rfl
        · simp only [Act.put, List.setIfInBounds_toArray, List.set_cons_zero, List.set_cons_succ, i64_w, i32_w]
          rfl
        refine seq_run ?_
        refine do_call rfl rfl (by rfl) rfl Tryd.func50 (by kernel_rfl) rfl #[.pointer (some ⟨g, 0, none⟩), .pointer (some ⟨gr, k * 36, none⟩), .int .i64 t] (by simp only [List.map_toArray, List.map_cons, List.map_nil]; rfl) ?_
        with_reducible refine (HASK.out _ HS3.out.pc).mono ?_
        rintro e w4 ⟨u, rfl, hO, hP, hF⟩
        rw [← HGR.out] at hF
        have HS4 := Aside0.mk (HS3.out.asked (by rw [HLL.out]; omega) HGL.out.1 (HGL.out.2 (by omega)) (by omega) HQO.out (Nat.le_refl _) (HSS.out (by omega)) hP hF)
        have HO4 := Aside0.mk hO
        have HZ4 : Aside0 (w.heap.size ≤ w3.drew.heap.size) := ⟨HS3.out.fr.size⟩
        obtain ⟨ua, uc, rfl, -, -⟩ := OwB.reads hO
        refine ⟨_, ?_, rfl, ?_, (fun h => absurd (by simp) h), ?_⟩
        rotate_left
        · simp only [Act.put, List.setIfInBounds_toArray, List.set_cons_zero, List.set_cons_succ]
          rfl
        have HOL4 : Aside0 ((os.length + 1) * 24 ≤ 140737488355328) := ⟨by have := HOL.out; omega⟩
        clear hO hP hF
        generalize askB (c'.seq + 1) x.nm = ys at *
        refine seq_run ?_
        refine do_val (v := ?_) (a' := ?_) (w1 := ?_) rfl rfl (by rfl) ?_ ?_ ?_
        rotate_left 3
        · go_simp
          constructor <;> rfl
        · simp only [Act.put, List.setIfInBounds_toArray, List.set_cons_zero, List.set_cons_succ, i64_w, i32_w]
          rfl
        refine ⟨fun _ => below_alloc (Below.refl _ _) _, ?_⟩
        refine seq_run ?_
        refine do_appO KL (w0 := w4) (W := w4) w.heap.size rfl rfl (by rfl) (.tmp 42) (.tmp 52) 23 37 (.slice none 0 0) 24 rfl Tryd.underlying23 infoBS rfl (by decide) (by decide) _ os ys _ _ rfl rfl (el_own HO4.out HZ4.out) (el_ne HS3.out.out HO4.out (Nat.le_refl _)) HS4.out.out (Below.refl _ _) HS4.out.fr.size HOL4.out ?_
        intro v5 w5 hO5 _ hG5 _
        have HS5 := Aside0.mk (HS4.out.app hO5 hG5)
        refine ⟨fun h => absurd (by simp) h, ?_⟩
        clear hO5 hG5
        refine seq_take (v := ?_) (a' := ?_) rfl rfl (by rfl) (fun w' hw' => ?_) ?_ ?_
        rotate_left 2
        · go_simp
          with_reducible rfl
        · simp only [Act.put, List.setIfInBounds_toArray, List.set_cons_zero, List.set_cons_succ, i64_w, i32_w]
          rfl
        refine seq_endN ?_
        go_wp2
        go_roundw
        case rel => exact ⟨k + 1, by omega, by go_num, by rw [HT.out.1, HT.out.2]; exact HS5.out⟩
        case measure => simp [intOf]; omega
    · obtain rfl : n = k := by omega
      have HG1 := Aside0.mk (p1_grow t c n)
      have HK1 := Aside0.mk (p1_ok t HOK.out n (by rw [HN.out]; omega))
      have HOL1 := Aside0.mk (p1_outs t c n)
      rw [HC1.out] at HS HG1 HK1
      rw [HO1.out] at HS HOL1
      have hl1 : c1.L.length = n := by rw [HG1.out.len, HN.out]
      have HLL := Aside0.mk hl1
      obtain ⟨s2, q0, -⟩ := HEP.out wr c1 _ _ HS.out hl1
      have HSQ1 : Aside0 (c1.seq + n < 4294967295) := ⟨by have := HG1.out.hi; omega⟩
      clear hl1 hk hlt HC1 HO1 HG1
      go_wp2
      clear s2 q0
      go_loopw [6, 8, 9, 60] (fun vo _ _ i wr => ∃ k : Nat, k ≤ n ∧ i = .int .i64 k ∧ SI S w wr B g tb (w.heap.size + 1) qo w.heap.size v t (p2 t c1 o1 k).1 (p2 t c1 o1 k).2 vo) (fun _ _ _ i _ => n - (intOf i).toNat)
      case atStart => exact ⟨0, Nat.zero_le _, rfl, HS.out⟩
      case round =>
        clear HS
        obtain ⟨k, hk, rfl, hS⟩ := hrel
        have HS := Aside0.mk hS
        clear hS
        by_cases hlt : k < n
        · obtain rfl := HA.out (by omega)
          have HG := Aside0.mk (p2_grow t c1 o1 k)
          have HKO := Aside0.mk (p2_ok t o1 HK1.out k (by rw [HLL.out]; omega))
          have HT1 := Aside0.mk (p2_true (t := t) (c := c1) (o := o1) (k := k))
          have HT0 := Aside0.mk (p2_false (t := t) (c := c1) (o := o1) (k := k))
          have HOL := Aside0.mk (p2_outs t c1 o1 k)
          generalize hc' : (p2 t c1 o1 k).1 = c' at *
          generalize hb' : (p2 t c1 o1 k).2 = os at *
          have hll : c'.L.length = n := by rw [HG.out.len, HLL.out]
          have HSQ : Aside0 (c'.seq < 4294967295) := ⟨by have := HG.out.hi; have := HSQ1.out; omega⟩
          have HLN := Aside0.mk hll
          obtain ⟨x, hx⟩ : ∃ x, wd c'.L k = x := ⟨_, rfl⟩
          have HXK : Aside0 (x.ok c'.seq) := ⟨by rw [← hx]; exact HKO.out.at (by omega)⟩
          have HCE : Aside0 (∀ W, Below wr.heap.size wr W → W.cell? ⟨w.heap.size, 0, none⟩ = some (.pointer (some ⟨g, 0, none⟩)) ∧ W.cell? ⟨g, 0, none⟩ = some (.slice (some ⟨gr, 0, none⟩) n cp) ∧ W.cell? ⟨qo, 0, none⟩ = some (.func (.func 47) #[] #[.pointer (some ⟨w.heap.size + 1, 0, none⟩)]) ∧ W.cell? ⟨w.heap.size + 1, 0, none⟩ = some (.int .i64 t) ∧ W.cell? ⟨g, 1, none⟩ = some (.int .i64 c'.window)) := ⟨fun W hW => HEP.out W c' _ _ (HS.out.below hW) HLN.out⟩
          have HEL : Aside0 (∀ W, Below wr.heap.size wr W → W.cell? ⟨gr, k * 36 + 32, none⟩ = some (.bool (x.st == 2)) ∧ W.cell? ⟨gr, k * 36 + 33, none⟩ = some (.int .i64 x.asks)) := ⟨fun W hW => by
            have h := own_cells (HS.out.below hW).pc.own (i := k) (by rw [HLN.out]; omega)
            rw [HGR.out, hx] at h
            exact ⟨h.1, h.2.1⟩⟩
          have HD0 : Aside0 (Below wr.heap.size wr wr.drew) := ⟨Below.drew (Below.refl _ wr)⟩
          have hltI : (k : Int) < (n : Int) := by omega
          rw [hx] at HT1
          have hbx : b2 c' k = (x.st == 0 && decide ((askedN c'.L : Int) < c'.window)) := by unfold b2; rw [hx]
          have HAK : Aside0 (∀ W, Later wr.drew W → Calls Tryd.prog 30 #[.pointer (some ⟨g, 0, none⟩)] W fun e w' => e = .returned (.int .i64 (askedN c'.L)) ∧ W = w') := ⟨fun W hW => asked_calls B g tb c' v W (HS.out.below (Later.trans HD0.out hW)).pc HKO.out⟩
          have HASK : Aside0 (x.st ≠ 2 → ∀ W, PCl W B g tb c' v → Calls Tryd.prog 50 #[.pointer (some ⟨g, 0, none⟩), .pointer (some ⟨gr, k * 36, none⟩), .int .i64 t] W fun e w' => ∃ u, e = .returned u ∧ OwB w' W.heap.size u (askB (c'.seq + 1) x.nm) ∧ PCl w' B g tb (askC c' k t) v ∧ Fr W w' (fun q => q = g ∨ q = gr)) := ⟨fun hne W hW => by
            have := ask_calls B g tb c' v k t W hW HKO.out (by rw [HLN.out]; omega) (by rw [hx]; exact hne) HSQ.out ht0 ht1
            rw [HGR.out, hx] at this
            exact this⟩
          have HWB : Aside0 (0 ≤ (askedN c'.L : Int) ∧ (askedN c'.L : Int) ≤ 1024) := ⟨by have := askedN_len c'.L; have := HKO.out.l1; omega⟩
          generalize (askedN c'.L : Int) = na at *
          clear hc' hb' hx hll
          obtain ⟨a0, a1, a2, a3, a4⟩ := HCE.out wr (Below.refl _ _)
          rcases HXK.out.2.2.2.2.2.2 with ⟨hst, has⟩ | ⟨hst, has⟩ | hst
          · rcases hd : decide (na < c'.window) with _ | _
            · have HT := Aside0.mk (HT0.out (by rw [hbx, hd]; simp))
              have HD := Aside0.mk hd
              have HEX : Aside0 (∀ W, Below wr.heap.size wr W → W.cell? ⟨gr, k * 36 + 32, none⟩ = some (.bool false) ∧ W.cell? ⟨gr, k * 36 + 33, none⟩ = some (.int .i64 0)) := ⟨fun W hW => by have h := HEL.out W hW; rw [show (x.st == 2) = false by simp [hst], has] at h; exact h⟩
              clear hd hbx HT0 HT1 hst has HASK HEL
              go_upto_region 18 with fail
              clear a0 a1 a2 a3 a4
              refine seq_startN [] (.take 0 (.take 1 (.take 2 (.take 3 (.take 4 (.take 5 (.take 6 (.take 7 (.take 8 (.take 9 (.take 10 (.take 11 (.take 12 (.take 13 (.take 14 (.take 15 (.take 16 (.take 17 (.take 18 (.take 19 (.take 20 .done))))))))))))))))))))) (by kernel_rfl) (by kernel_rfl) ?_
              refine seq_take (v := ?_) (a' := ?_) rfl rfl (by rfl) (fun w' hw' => ?_) ?_ ?_
              rotate_left 2
              · go_simp
                with_reducible rfl
              · simp only [Act.put, List.setIfInBounds_toArray, List.set_cons_zero, List.set_cons_succ, i64_w, i32_w]
                rfl
              refine seq_take (v := ?_) (a' := ?_) rfl rfl (by rfl) (fun w' hw' => ?_) ?_ ?_
              rotate_left 2
              · go_simp
                with_reducible rfl
              · simp only [Act.put, List.setIfInBounds_toArray, List.set_cons_zero, List.set_cons_succ, i64_w, i32_w]
                rfl
              refine seq_take (v := ?_) (a' := ?_) rfl rfl (by rfl) (fun w' hw' => ?_) ?_ ?_
              rotate_left 2
              · go_simp
                with_reducible rfl
              · simp only [Act.put, List.setIfInBounds_toArray, List.set_cons_zero, List.set_cons_succ, i64_w, i32_w]
                rfl
              refine seq_take (v := ?_) (a' := ?_) rfl rfl (by rfl) (fun w' hw' => ?_) ?_ ?_
              rotate_left 2
              · obtain ⟨b0, b1⟩ := HEX.out w' (Later.trans HD0.out hw'); go_simp
                with_reducible rfl
              · simp only [Act.put, List.setIfInBounds_toArray, List.set_cons_zero, List.set_cons_succ, i64_w, i32_w]
                rfl
              refine seq_take (v := ?_) (a' := ?_) rfl rfl (by rfl) (fun w' hw' => ?_) ?_ ?_
              rotate_left 2
              · go_simp
                with_reducible rfl
              · simp only [Act.put, List.setIfInBounds_toArray, List.set_cons_zero, List.set_cons_succ, i64_w, i32_w]
                rfl
              refine seq_take (v := ?_) (a' := ?_) rfl rfl (by rfl) (fun w' hw' => ?_) ?_ ?_
              rotate_left 2
              · go_simp
                with_reducible rfl
              · simp only [Act.put, List.setIfInBounds_toArray, List.set_cons_zero, List.set_cons_succ, i64_w, i32_w]
                rfl
              refine seq_take (v := ?_) (a' := ?_) rfl rfl (by rfl) (fun w' hw' => ?_) ?_ ?_
              rotate_left 2
              · go_simp
                with_reducible rfl
              · simp only [Act.put, List.setIfInBounds_toArray, List.set_cons_zero, List.set_cons_succ, i64_w, i32_w]
                rfl
              refine seq_take (v := ?_) (a' := ?_) rfl rfl (by rfl) (fun w' hw' => ?_) ?_ ?_
              rotate_left 2
              · go_simp
                with_reducible rfl
              · simp only [Act.put, List.setIfInBounds_toArray, List.set_cons_zero, List.set_cons_succ, i64_w, i32_w]
                rfl
              refine seq_take (v := ?_) (a' := ?_) rfl rfl (by rfl) (fun w' hw' => ?_) ?_ ?_
              rotate_left 2
              · go_simp
                with_reducible rfl
              · simp only [Act.put, List.setIfInBounds_toArray, List.set_cons_zero, List.set_cons_succ, i64_w, i32_w]
                rfl
              refine seq_take (v := ?_) (a' := ?_) rfl rfl (by rfl) (fun w' hw' => ?_) ?_ ?_
              rotate_left 2
              · obtain ⟨b0, b1⟩ := HEX.out w' (Later.trans HD0.out hw'); go_simp
                with_reducible rfl
              · simp only [Act.put, List.setIfInBounds_toArray, List.set_cons_zero, List.set_cons_succ, i64_w, i32_w]
                rfl
              refine seq_take (v := ?_) (a' := ?_) rfl rfl (by rfl) (fun w' hw' => ?_) ?_ ?_
              rotate_left 2
              · go_simp
                with_reducible rfl
              · simp only [Act.put, List.setIfInBounds_toArray, List.set_cons_zero, List.set_cons_succ, i64_w, i32_w]
                rfl
              refine seq_take (v := ?_) (a' := ?_) rfl rfl (by rfl) (fun w' hw' => ?_) ?_ ?_
              rotate_left 2
              · go_simp
                with_reducible rfl
              · simp only [Act.put, List.setIfInBounds_toArray, List.set_cons_zero, List.set_cons_succ, i64_w, i32_w]
                rfl
              refine seq_take (v := ?_) (a' := ?_) rfl rfl (by rfl) (fun w' hw' => ?_) ?_ ?_
              rotate_left 2
              · go_simp
                with_reducible rfl
              · simp only [Act.put, List.setIfInBounds_toArray, List.set_cons_zero, List.set_cons_succ, i64_w, i32_w]
                rfl
              refine seq_take (v := ?_) (a' := ?_) rfl rfl (by rfl) (fun w' hw' => ?_) ?_ ?_
              rotate_left 2
              · obtain ⟨a0, a1, a2, a3, a4⟩ := HCE.out w' (Later.trans HD0.out hw'); go_simp
                with_reducible rfl
              · simp only [Act.put, List.setIfInBounds_toArray, List.set_cons_zero, List.set_cons_succ, i64_w, i32_w]
                rfl
              refine seq_quiet (v := ?_) (a' := ?_) rfl rfl (by rfl) rfl Tryd.func30 (by kernel_rfl) rfl #[.pointer (some ⟨g, 0, none⟩)] (by simp only [List.map_toArray, List.map_cons, List.map_nil]; rfl) (fun w' hw' => ?_) ?_ ?_
              rotate_left 2
              · with_reducible exact HAK.out w' hw'
              · simp only [Act.put, List.setIfInBounds_toArray, List.set_cons_zero, List.set_cons_succ, i64_w, i32_w]
                rfl
              refine seq_take (v := ?_) (a' := ?_) rfl rfl (by rfl) (fun w' hw' => ?_) ?_ ?_
              rotate_left 2
              · obtain ⟨a0, a1, a2, a3, a4⟩ := HCE.out w' (Later.trans HD0.out hw'); go_simp
                with_reducible rfl
              · simp only [Act.put, List.setIfInBounds_toArray, List.set_cons_zero, List.set_cons_succ, i64_w, i32_w]
                rfl
              refine seq_take (v := ?_) (a' := ?_) rfl rfl (by rfl) (fun w' hw' => ?_) ?_ ?_
              rotate_left 2
              · go_simp
                with_reducible rfl
              · simp only [Act.put, List.setIfInBounds_toArray, List.set_cons_zero, List.set_cons_succ, i64_w, i32_w]
                rfl
              refine seq_take (v := ?_) (a' := ?_) rfl rfl (by rfl) (fun w' hw' => ?_) ?_ ?_
              rotate_left 2
              · go_simp
                with_reducible rfl
              · simp only [Act.put, List.setIfInBounds_toArray, List.set_cons_zero, List.set_cons_succ, i64_w, i32_w]
                rfl
              refine seq_take (v := ?_) (a' := ?_) rfl rfl (by rfl) (fun w' hw' => ?_) ?_ ?_
              rotate_left 2
              · obtain ⟨a0, a1, a2, a3, a4⟩ := HCE.out w' (Later.trans HD0.out hw'); go_simp
                with_reducible rfl
              · simp only [Act.put, List.setIfInBounds_toArray, List.set_cons_zero, List.set_cons_succ, i64_w, i32_w]
                rfl
              refine seq_take (v := ?_) (a' := ?_) rfl rfl (by rfl) (fun w' hw' => ?_) ?_ ?_
              rotate_left 2
              · have hd := HD.out; go_simp
                with_reducible rfl
              · simp only [Act.put, List.setIfInBounds_toArray, List.set_cons_zero, List.set_cons_succ, i64_w, i32_w]
                rfl
              refine seq_take (v := ?_) (a' := ?_) rfl rfl (by rfl) (fun w' hw' => ?_) ?_ ?_
              rotate_left 2
              · go_simp
                with_reducible rfl
              · simp only [Act.put, List.setIfInBounds_toArray, List.set_cons_zero, List.set_cons_succ, i64_w, i32_w]
                rfl
              refine seq_endN ?_
              have HS3 := Aside0.mk (HS.out.below HD0.out)
              go_wp2
              go_roundw
              case rel => exact ⟨k + 1, by omega, by go_num, by rw [HT.out.1, HT.out.2]; exact HS3.out⟩
              case measure => simp [intOf]; omega
            · have HT := Aside0.mk (HT1.out (by rw [hbx, hd]; simp [hst]))
              have HD := Aside0.mk hd
              have HEX : Aside0 (∀ W, Below wr.heap.size wr W → W.cell? ⟨gr, k * 36 + 32, none⟩ = some (.bool false) ∧ W.cell? ⟨gr, k * 36 + 33, none⟩ = some (.int .i64 0)) := ⟨fun W hW => by have h := HEL.out W hW; rw [show (x.st == 2) = false by simp [hst], has] at h; exact h⟩
              have HASK := Aside0.mk (HASK.out (by omega))
              clear hd hbx HT0 HT1 hst has HEL
              go_upto_region 18 with fail
              clear a0 a1 a2 a3 a4
              refine seq_startN [] (.take 0 (.take 1 (.take 2 (.take 3 (.take 4 (.take 5 (.take 6 (.take 7 (.take 8 (.take 9 (.take 10 (.take 11 (.take 12 (.take 13 (.take 14 (.take 15 (.take 16 (.take 17 (.take 18 (.take 19 (.take 20 .done))))))))))))))))))))) (by kernel_rfl) (by kernel_rfl) ?_
              refine seq_take (v := ?_) (a' := ?_) rfl rfl (by rfl) (fun w' hw' => ?_) ?_ ?_
              rotate_left 2
              · go_simp
                with_reducible rfl
              · simp only [Act.put, List.setIfInBounds_toArray, List.set_cons_zero, List.set_cons_succ, i64_w, i32_w]
                rfl
              refine seq_take (v := ?_) (a' := ?_) rfl rfl (by rfl) (fun w' hw' => ?_) ?_ ?_
              rotate_left 2
              · go_simp
                with_reducible rfl
              · simp only [Act.put, List.setIfInBounds_toArray, List.set_cons_zero, List.set_cons_succ, i64_w, i32_w]
                rfl
              refine seq_take (v := ?_) (a' := ?_) rfl rfl (by rfl) (fun w' hw' => ?_) ?_ ?_
              rotate_left 2
              · go_simp
                with_reducible rfl
              · simp only [Act.put, List.setIfInBounds_toArray, List.set_cons_zero, List.set_cons_succ, i64_w, i32_w]
                rfl
              refine seq_take (v := ?_) (a' := ?_) rfl rfl (by rfl) (fun w' hw' => ?_) ?_ ?_
              rotate_left 2
              · obtain ⟨b0, b1⟩ := HEX.out w' (Later.trans HD0.out hw'); go_simp
                with_reducible rfl
              · simp only [Act.put, List.setIfInBounds_toArray, List.set_cons_zero, List.set_cons_succ, i64_w, i32_w]
                rfl
              refine seq_take (v := ?_) (a' := ?_) rfl rfl (by rfl) (fun w' hw' => ?_) ?_ ?_
              rotate_left 2
              · go_simp
                with_reducible rfl
              · simp only [Act.put, List.setIfInBounds_toArray, List.set_cons_zero, List.set_cons_succ, i64_w, i32_w]
                rfl
              refine seq_take (v := ?_) (a' := ?_) rfl rfl (by rfl) (fun w' hw' => ?_) ?_ ?_
              rotate_left 2
              · go_simp
                with_reducible rfl
              · simp only [Act.put, List.setIfInBounds_toArray, List.set_cons_zero, List.set_cons_succ, i64_w, i32_w]
                rfl
              refine seq_take (v := ?_) (a' := ?_) rfl rfl (by rfl) (fun w' hw' => ?_) ?_ ?_
              rotate_left 2
              · go_simp
                with_reducible rfl
              · simp only [Act.put, List.setIfInBounds_toArray, List.set_cons_zero, List.set_cons_succ, i64_w, i32_w]
                rfl
              refine seq_take (v := ?_) (a' := ?_) rfl rfl (by rfl) (fun w' hw' => ?_) ?_ ?_
              rotate_left 2
              · go_simp
                with_reducible rfl
              · simp only [Act.put, List.setIfInBounds_toArray, List.set_cons_zero, List.set_cons_succ, i64_w, i32_w]
                rfl
              refine seq_take (v := ?_) (a' := ?_) rfl rfl (by rfl) (fun w' hw' => ?_) ?_ ?_
              rotate_left 2
              · go_simp
                with_reducible rfl
              · simp only [Act.put, List.setIfInBounds_toArray, List.set_cons_zero, List.set_cons_succ, i64_w, i32_w]
                rfl
              refine seq_take (v := ?_) (a' := ?_) rfl rfl (by rfl) (fun w' hw' => ?_) ?_ ?_
              rotate_left 2
              · obtain ⟨b0, b1⟩ := HEX.out w' (Later.trans HD0.out hw'); go_simp
                with_reducible rfl
              · simp only [Act.put, List.setIfInBounds_toArray, List.set_cons_zero, List.set_cons_succ, i64_w, i32_w]
                rfl
              refine seq_take (v := ?_) (a' := ?_) rfl rfl (by rfl) (fun w' hw' => ?_) ?_ ?_
              rotate_left 2
              · go_simp
                with_reducible rfl
              · simp only [Act.put, List.setIfInBounds_toArray, List.set_cons_zero, List.set_cons_succ, i64_w, i32_w]
                rfl
              refine seq_take (v := ?_) (a' := ?_) rfl rfl (by rfl) (fun w' hw' => ?_) ?_ ?_
              rotate_left 2
              · go_simp
                with_reducible rfl
              · simp only [Act.put, List.setIfInBounds_toArray, List.set_cons_zero, List.set_cons_succ, i64_w, i32_w]
                rfl
              refine seq_take (v := ?_) (a' := ?_) rfl rfl (by rfl) (fun w' hw' => ?_) ?_ ?_
              rotate_left 2
              · go_simp
                with_reducible rfl
              · simp only [Act.put, List.setIfInBounds_toArray, List.set_cons_zero, List.set_cons_succ, i64_w, i32_w]
                rfl
              refine seq_take (v := ?_) (a' := ?_) rfl rfl (by rfl) (fun w' hw' => ?_) ?_ ?_
              rotate_left 2
              · obtain ⟨a0, a1, a2, a3, a4⟩ := HCE.out w' (Later.trans HD0.out hw'); go_simp
                with_reducible rfl
              · simp only [Act.put, List.setIfInBounds_toArray, List.set_cons_zero, List.set_cons_succ, i64_w, i32_w]
                rfl
              refine seq_quiet (v := ?_) (a' := ?_) rfl rfl (by rfl) rfl Tryd.func30 (by kernel_rfl) rfl #[.pointer (some ⟨g, 0, none⟩)] (by simp only [List.map_toArray, List.map_cons, List.map_nil]; rfl) (fun w' hw' => ?_) ?_ ?_
              rotate_left 2
              · with_reducible exact HAK.out w' hw'
              · simp only [Act.put, List.setIfInBounds_toArray, List.set_cons_zero, List.set_cons_succ, i64_w, i32_w]
                rfl
              refine seq_take (v := ?_) (a' := ?_) rfl rfl (by rfl) (fun w' hw' => ?_) ?_ ?_
              rotate_left 2
              · obtain ⟨a0, a1, a2, a3, a4⟩ := HCE.out w' (Later.trans HD0.out hw'); go_simp
                with_reducible rfl
              · simp only [Act.put, List.setIfInBounds_toArray, List.set_cons_zero, List.set_cons_succ, i64_w, i32_w]
                rfl
              refine seq_take (v := ?_) (a' := ?_) rfl rfl (by rfl) (fun w' hw' => ?_) ?_ ?_
              rotate_left 2
              · go_simp
                with_reducible rfl
              · simp only [Act.put, List.setIfInBounds_toArray, List.set_cons_zero, List.set_cons_succ, i64_w, i32_w]
                rfl
              refine seq_take (v := ?_) (a' := ?_) rfl rfl (by rfl) (fun w' hw' => ?_) ?_ ?_
              rotate_left 2
              · go_simp
                with_reducible rfl
              · simp only [Act.put, List.setIfInBounds_toArray, List.set_cons_zero, List.set_cons_succ, i64_w, i32_w]
                rfl
              refine seq_take (v := ?_) (a' := ?_) rfl rfl (by rfl) (fun w' hw' => ?_) ?_ ?_
              rotate_left 2
              · obtain ⟨a0, a1, a2, a3, a4⟩ := HCE.out w' (Later.trans HD0.out hw'); go_simp
                with_reducible rfl
              · simp only [Act.put, List.setIfInBounds_toArray, List.set_cons_zero, List.set_cons_succ, i64_w, i32_w]
                rfl
              refine seq_take (v := ?_) (a' := ?_) rfl rfl (by rfl) (fun w' hw' => ?_) ?_ ?_
              rotate_left 2
              · have hd := HD.out; go_simp
                with_reducible rfl
              · simp only [Act.put, List.setIfInBounds_toArray, List.set_cons_zero, List.set_cons_succ, i64_w, i32_w]
                rfl
              refine seq_take (v := ?_) (a' := ?_) rfl rfl (by rfl) (fun w' hw' => ?_) ?_ ?_
              rotate_left 2
              · go_simp
                with_reducible rfl
              · simp only [Act.put, List.setIfInBounds_toArray, List.set_cons_zero, List.set_cons_succ, i64_w, i32_w]
                rfl
              refine seq_endN ?_
              have HS3 := Aside0.mk (HS.out.below HD0.out)
              go_upto_region 19 with fail
              obtain ⟨w3, hw3⟩ : ∃ w3, w3 = wr.drew := ⟨_, rfl⟩
              rw [← hw3] at HS3 HD0
              refine at_w1 (w := w3) hw3 ?_
              obtain ⟨a0, a1, a2, a3, a4⟩ := HCE.out w3 HD0.out
              have HOL4 : Aside0 ((os.length + 1) * 24 ≤ 140737488355328) := ⟨by have := HOL.out; have := HOL1.out; omega⟩
              generalize askB (c'.seq + 1) x.nm = ys at *
              clear hw3 HAK
              go_wp2_with (first
                | (go_at_call 50; refine (HASK.out w3 HS3.out.pc).mono ?_; rintro e w4 ⟨u, rfl, hO, hP, hF⟩; rw [← HGR.out] at hF; have HS4 := Aside0.mk (HS3.out.asked (by rw [HLN.out]; omega) HGL.out.1 (HGL.out.2 (by omega)) (by omega) HQO.out (Nat.le_refl _) (HSS.out (by omega)) hP hF); have HO4 := Aside0.mk hO; have HZ4 : Aside0 (w.heap.size ≤ w3.heap.size) := ⟨HS3.out.fr.size⟩; obtain ⟨ua, uc, rfl, -, -⟩ := OwB.reads hO; clear hO hP hF)
                | (at_builtin; refine Kd.R_append (w0 := w4) KL w.heap.size rfl (.tmp 90) (.tmp 95) 23 37 (.slice none 0 0) 24 rfl Tryd.underlying23 infoBS rfl (by decide) (by decide) _ os ys [.slice ua ys.length uc] (fun _ => True) _ rfl rfl (el_own HO4.out HZ4.out) (el_ne HS3.out.out HO4.out (Nat.le_refl _)) (fun _ _ => trivial) HS4.out.out (Below.refl _ _) HS4.out.fr.size HOL4.out ?_; intro v5 w5 hO5 _ hG5 _; have HS5 := Aside0.mk (HS4.out.app hO5 hG5); clear hO5 hG5)
                | fail)
              go_roundw
              case rel => exact ⟨k + 1, by omega, by go_num, by rw [HT.out.1, HT.out.2]; exact HS5.out⟩
              case measure => simp [intOf]; omega
          · have HT := Aside0.mk (HT0.out (by rw [hbx, hst]; rfl))
            have HEX : Aside0 (∀ W, Below wr.heap.size wr W → W.cell? ⟨gr, k * 36 + 32, none⟩ = some (.bool false) ∧ W.cell? ⟨gr, k * 36 + 33, none⟩ = some (.int .i64 x.asks)) := ⟨fun W hW => by have h := HEL.out W hW; rw [show (x.st == 2) = false by simp [hst]] at h; exact h⟩
            have HNZ : Aside0 ((x.asks == 0) = false) := ⟨by simp; omega⟩
            clear hbx HT0 HT1 hst has HASK HEL
            go_upto_region 18 with fail
            clear a0 a1 a2 a3 a4
            refine seq_startN [] (.take 0 (.take 1 (.take 2 (.take 3 (.take 4 (.take 5 (.take 6 (.take 7 (.take 8 (.take 9 (.take 10 (.take 11 (.take 12 (.take 13 (.take 14 (.take 15 (.take 16 (.take 17 (.take 18 (.take 19 (.take 20 .done))))))))))))))))))))) (by kernel_rfl) (by kernel_rfl) ?_
            refine seq_take (v := ?_) (a' := ?_) rfl rfl (by rfl) (fun w' hw' => ?_) ?_ ?_
            rotate_left 2
            · go_simp
              with_reducible rfl
            · simp only [Act.put, List.setIfInBounds_toArray, List.set_cons_zero, List.set_cons_succ, i64_w, i32_w]
              rfl
            refine seq_take (v := ?_) (a' := ?_) rfl rfl (by rfl) (fun w' hw' => ?_) ?_ ?_
            rotate_left 2
            · go_simp
              with_reducible rfl
            · simp only [Act.put, List.setIfInBounds_toArray, List.set_cons_zero, List.set_cons_succ, i64_w, i32_w]
              rfl
            refine seq_take (v := ?_) (a' := ?_) rfl rfl (by rfl) (fun w' hw' => ?_) ?_ ?_
            rotate_left 2
            · go_simp
              with_reducible rfl
            · simp only [Act.put, List.setIfInBounds_toArray, List.set_cons_zero, List.set_cons_succ, i64_w, i32_w]
              rfl
            refine seq_take (v := ?_) (a' := ?_) rfl rfl (by rfl) (fun w' hw' => ?_) ?_ ?_
            rotate_left 2
            · obtain ⟨b0, b1⟩ := HEX.out w' (Later.trans HD0.out hw'); go_simp
              with_reducible rfl
            · simp only [Act.put, List.setIfInBounds_toArray, List.set_cons_zero, List.set_cons_succ, i64_w, i32_w]
              rfl
            refine seq_take (v := ?_) (a' := ?_) rfl rfl (by rfl) (fun w' hw' => ?_) ?_ ?_
            rotate_left 2
            · go_simp
              with_reducible rfl
            · simp only [Act.put, List.setIfInBounds_toArray, List.set_cons_zero, List.set_cons_succ, i64_w, i32_w]
              rfl
            refine seq_take (v := ?_) (a' := ?_) rfl rfl (by rfl) (fun w' hw' => ?_) ?_ ?_
            rotate_left 2
            · go_simp
              with_reducible rfl
            · simp only [Act.put, List.setIfInBounds_toArray, List.set_cons_zero, List.set_cons_succ, i64_w, i32_w]
              rfl
            refine seq_take (v := ?_) (a' := ?_) rfl rfl (by rfl) (fun w' hw' => ?_) ?_ ?_
            rotate_left 2
            · go_simp
              with_reducible rfl
            · simp only [Act.put, List.setIfInBounds_toArray, List.set_cons_zero, List.set_cons_succ, i64_w, i32_w]
              rfl
            refine seq_take (v := ?_) (a' := ?_) rfl rfl (by rfl) (fun w' hw' => ?_) ?_ ?_
            rotate_left 2
            · go_simp
              with_reducible rfl
            · simp only [Act.put, List.setIfInBounds_toArray, List.set_cons_zero, List.set_cons_succ, i64_w, i32_w]
              rfl
            refine seq_take (v := ?_) (a' := ?_) rfl rfl (by rfl) (fun w' hw' => ?_) ?_ ?_
            rotate_left 2
            · go_simp
              with_reducible rfl
            · simp only [Act.put, List.setIfInBounds_toArray, List.set_cons_zero, List.set_cons_succ, i64_w, i32_w]
              rfl
            refine seq_take (v := ?_) (a' := ?_) rfl rfl (by rfl) (fun w' hw' => ?_) ?_ ?_
            rotate_left 2
            · obtain ⟨b0, b1⟩ := HEX.out w' (Later.trans HD0.out hw'); go_simp
              with_reducible rfl
            · simp only [Act.put, List.setIfInBounds_toArray, List.set_cons_zero, List.set_cons_succ, i64_w, i32_w]
              rfl
            refine seq_take (v := ?_) (a' := ?_) rfl rfl (by rfl) (fun w' hw' => ?_) ?_ ?_
            rotate_left 2
            · have hz := HNZ.out; go_simp
              with_reducible rfl
            · simp only [Act.put, List.setIfInBounds_toArray, List.set_cons_zero, List.set_cons_succ, i64_w, i32_w]
              rfl
            refine seq_take (v := ?_) (a' := ?_) rfl rfl (by rfl) (fun w' hw' => ?_) ?_ ?_
            rotate_left 2
            · go_simp
              with_reducible rfl
            · simp only [Act.put, List.setIfInBounds_toArray, List.set_cons_zero, List.set_cons_succ, i64_w, i32_w]
              rfl
            refine seq_take (v := ?_) (a' := ?_) rfl rfl (by rfl) (fun w' hw' => ?_) ?_ ?_
            rotate_left 2
            · go_simp
              with_reducible rfl
            · simp only [Act.put, List.setIfInBounds_toArray, List.set_cons_zero, List.set_cons_succ, i64_w, i32_w]
              rfl
            refine seq_off (a' := ?_) rfl rfl (by rfl) ?_ ?_
            rotate_left
            · simp only [Act.put, List.setIfInBounds_toArray, List.set_cons_zero, List.set_cons_succ, i64_w, i32_w]
              rfl
            refine seq_off (a' := ?_) rfl rfl (by rfl) ?_ ?_
            rotate_left
            · simp only [Act.put, List.setIfInBounds_toArray, List.set_cons_zero, List.set_cons_succ, i64_w, i32_w]
              rfl
            refine seq_off (a' := ?_) rfl rfl (by rfl) ?_ ?_
            rotate_left
            · simp only [Act.put, List.setIfInBounds_toArray, List.set_cons_zero, List.set_cons_succ, i64_w, i32_w]
              rfl
            refine seq_off (a' := ?_) rfl rfl (by rfl) ?_ ?_
            rotate_left
            · simp only [Act.put, List.setIfInBounds_toArray, List.set_cons_zero, List.set_cons_succ, i64_w, i32_w]
              rfl
            refine seq_off (a' := ?_) rfl rfl (by rfl) ?_ ?_
            rotate_left
            · simp only [Act.put, List.setIfInBounds_toArray, List.set_cons_zero, List.set_cons_succ, i64_w, i32_w]
              rfl
            refine seq_off (a' := ?_) rfl rfl (by rfl) ?_ ?_
            rotate_left
            · simp only [Act.put, List.setIfInBounds_toArray, List.set_cons_zero, List.set_cons_succ, i64_w, i32_w]
              rfl
            refine seq_off (a' := ?_) rfl rfl (by rfl) ?_ ?_
            rotate_left
            · simp only [Act.put, List.setIfInBounds_toArray, List.set_cons_zero, List.set_cons_succ, i64_w, i32_w]
              rfl
            refine seq_take (v := ?_) (a' := ?_) rfl rfl (by rfl) (fun w' hw' => ?_) ?_ ?_
            rotate_left 2
            · go_simp
              with_reducible rfl
            · simp only [Act.put, List.setIfInBounds_toArray, List.set_cons_zero, List.set_cons_succ, i64_w, i32_w]
              rfl
            refine seq_endN ?_
            have HS3 := Aside0.mk (HS.out.below HD0.out)
            go_wp2
            go_roundw
            case rel => exact ⟨k + 1, by omega, by go_num, by rw [HT.out.1, HT.out.2]; exact HS3.out⟩
            case measure => simp [intOf]; omega
          · have HT := Aside0.mk (HT0.out (by rw [hbx, hst]; rfl))
            have HEX : Aside0 (∀ W, Below wr.heap.size wr W → W.cell? ⟨gr, k * 36 + 32, none⟩ = some (.bool true)) := ⟨fun W hW => by have h := HEL.out W hW; rw [show (x.st == 2) = true by simp [hst]] at h; exact h.1⟩
            clear hbx HT0 HT1 hst HASK HEL
            go_upto_region 18 with fail
            clear a0 a1 a2 a3 a4
            refine seq_startN [] (.take 0 (.take 1 (.take 2 (.take 3 (.take 4 (.take 5 (.take 6 (.take 7 (.take 8 (.take 9 (.take 10 (.take 11 (.take 12 (.take 13 (.take 14 (.take 15 (.take 16 (.take 17 (.take 18 (.take 19 (.take 20 .done))))))))))))))))))))) (by kernel_rfl) (by kernel_rfl) ?_
            refine seq_take (v := ?_) (a' := ?_) rfl rfl (by rfl) (fun w' hw' => ?_) ?_ ?_
            rotate_left 2
            · go_simp
              with_reducible rfl
            · simp only [Act.put, List.setIfInBounds_toArray, List.set_cons_zero, List.set_cons_succ, i64_w, i32_w]
              rfl
            refine seq_take (v := ?_) (a' := ?_) rfl rfl (by rfl) (fun w' hw' => ?_) ?_ ?_
            rotate_left 2
            · go_simp
              with_reducible rfl
            · simp only [Act.put, List.setIfInBounds_toArray, List.set_cons_zero, List.set_cons_succ, i64_w, i32_w]
              rfl
            refine seq_take (v := ?_) (a' := ?_) rfl rfl (by rfl) (fun w' hw' => ?_) ?_ ?_
            rotate_left 2
            · go_simp
              with_reducible rfl
            · simp only [Act.put, List.setIfInBounds_toArray, List.set_cons_zero, List.set_cons_succ, i64_w, i32_w]
              rfl
            refine seq_take (v := ?_) (a' := ?_) rfl rfl (by rfl) (fun w' hw' => ?_) ?_ ?_
            rotate_left 2
            · have b0 := HEX.out w' (Later.trans HD0.out hw'); go_simp
              with_reducible rfl
            · simp only [Act.put, List.setIfInBounds_toArray, List.set_cons_zero, List.set_cons_succ, i64_w, i32_w]
              rfl
            refine seq_take (v := ?_) (a' := ?_) rfl rfl (by rfl) (fun w' hw' => ?_) ?_ ?_
            rotate_left 2
            · go_simp
              with_reducible rfl
            · simp only [Act.put, List.setIfInBounds_toArray, List.set_cons_zero, List.set_cons_succ, i64_w, i32_w]
              rfl
            refine seq_take (v := ?_) (a' := ?_) rfl rfl (by rfl) (fun w' hw' => ?_) ?_ ?_
            rotate_left 2
            · go_simp
              with_reducible rfl
            · simp only [Act.put, List.setIfInBounds_toArray, List.set_cons_zero, List.set_cons_succ, i64_w, i32_w]
              rfl
            refine seq_off (a' := ?_) rfl rfl (by rfl) ?_ ?_
            rotate_left
            · simp only [Act.put, List.setIfInBounds_toArray, List.set_cons_zero, List.set_cons_succ, i64_w, i32_w]
              rfl
            refine seq_off (a' := ?_) rfl rfl (by rfl) ?_ ?_
            rotate_left
            · simp only [Act.put, List.setIfInBounds_toArray, List.set_cons_zero, List.set_cons_succ, i64_w, i32_w]
              rfl
            refine seq_off (a' := ?_) rfl rfl (by rfl) ?_ ?_
            rotate_left
            · simp only [Act.put, List.setIfInBounds_toArray, List.set_cons_zero, List.set_cons_succ, i64_w, i32_w]
              rfl
            refine seq_off (a' := ?_) rfl rfl (by rfl) ?_ ?_
            rotate_left
            · simp only [Act.put, List.setIfInBounds_toArray, List.set_cons_zero, List.set_cons_succ, i64_w, i32_w]
              rfl
            refine seq_off (a' := ?_) rfl rfl (by rfl) ?_ ?_
            rotate_left
            · simp only [Act.put, List.setIfInBounds_toArray, List.set_cons_zero, List.set_cons_succ, i64_w, i32_w]
              rfl
            refine seq_take (v := ?_) (a' := ?_) rfl rfl (by rfl) (fun w' hw' => ?_) ?_ ?_
            rotate_left 2
            · go_simp
              with_reducible rfl
            · simp only [Act.put, List.setIfInBounds_toArray, List.set_cons_zero, List.set_cons_succ, i64_w, i32_w]
              rfl
            refine seq_take (v := ?_) (a' := ?_) rfl rfl (by rfl) (fun w' hw' => ?_) ?_ ?_
            rotate_left 2
            · go_simp
              with_reducible rfl
            · simp only [Act.put, List.setIfInBounds_toArray, List.set_cons_zero, List.set_cons_succ, i64_w, i32_w]
              rfl
            refine seq_off (a' := ?_) rfl rfl (by rfl) ?_ ?_
            rotate_left
            · simp only [Act.put, List.setIfInBounds_toArray, List.set_cons_zero, List.set_cons_succ, i64_w, i32_w]
              rfl
            refine seq_off (a' := ?_) rfl rfl (by rfl) ?_ ?_
            rotate_left
            · simp only [Act.put, List.setIfInBounds_toArray, List.set_cons_zero, List.set_cons_succ, i64_w, i32_w]
              rfl
            refine seq_off (a' := ?_) rfl rfl (by rfl) ?_ ?_
            rotate_left
            · simp only [Act.put, List.setIfInBounds_toArray, List.set_cons_zero, List.set_cons_succ, i64_w, i32_w]
              rfl
            refine seq_off (a' := ?_) rfl rfl (by rfl) ?_ ?_
            rotate_left
            · simp only [Act.put, List.setIfInBounds_toArray, List.set_cons_zero, List.set_cons_succ, i64_w, i32_w]
              rfl
            refine seq_off (a' := ?_) rfl rfl (by rfl) ?_ ?_
            rotate_left
            · simp only [Act.put, List.setIfInBounds_toArray, List.set_cons_zero, List.set_cons_succ, i64_w, i32_w]
              rfl
            refine seq_off (a' := ?_) rfl rfl (by rfl) ?_ ?_
            rotate_left
            · simp only [Act.put, List.setIfInBounds_toArray, List.set_cons_zero, List.set_cons_succ, i64_w, i32_w]
              rfl
            refine seq_off (a' := ?_) rfl rfl (by rfl) ?_ ?_
            rotate_left
            · simp only [Act.put, List.setIfInBounds_toArray, List.set_cons_zero, List.set_cons_succ, i64_w, i32_w]
              rfl
            refine seq_take (v := ?_) (a' := ?_) rfl rfl (by rfl) (fun w' hw' => ?_) ?_ ?_
            rotate_left 2
            · go_simp
              with_reducible rfl
            · simp only [Act.put, List.setIfInBounds_toArray, List.set_cons_zero, List.set_cons_succ, i64_w, i32_w]
              rfl
            refine seq_endN ?_
            have HS3 := Aside0.mk (HS.out.below HD0.out)
            go_wp2
            go_roundw
            case rel => exact ⟨k + 1, by omega, by go_num, by rw [HT.out.1, HT.out.2]; exact HS3.out⟩
            case measure => simp [intOf]; omega
        · obtain rfl : n = k := by omega
          go_wp2
          go_ret
          exact ⟨_, rfl, HS.out.out, HS.out.pc, HS.out.fr⟩
theorem cstep_calls (S : Nat → Prop) (B g tb : Nat) (c : Cl) (v : Value) (t : Int) (w : World) (h : PCl w B g tb c v) (hSg : S g) (hSv : 0 < c.L.length → S (gOf v)) (hok : c.ok) (hs : c.seq + 2 * c.L.length < 4294967295) (ht0 : 0 ≤ t) (ht1 : t ≤ 1099511627776) :
    Calls Tryd.prog 20 #[.pointer (some ⟨g, 0, none⟩), .int .i64 t] w fun e w' => ∃ u, e = .returned u ∧ OwL w' w.heap.size u (stepC c t).2 ∧ PCl w' B g tb (stepC c t).1 v ∧ Fr w w' S := by
  by_cases he : c.e = 0
  · rcases hl : lostC c t with _ | _
    · exact step_run S B g tb c v t w h hSg hSv hok he hl hs ht0 ht1
    · exact step_lost S B g tb c v t w h hSg hSv hok he hl
  · exact step_e S B g tb c v t w h hSg hSv he
end Go.Proofs.YtnkkjmbpopodlaaDoor
