/- client.Client's Step: what its loops keep. Plain lemmas. -/
import Derived.Test.YtnkkjmbpopodlaaCl6
namespace Go.Proofs.Ytnkkjmbpopodlaa
open Go.RowKit Go.Proofs.YtnkkjmbpopodlaaW.PrintWords Go.Proofs.YtnkkjmbpopodlaaW.PrintMore
set_option linter.unusedVariables false
set_option linter.unusedSimpArgs false
/-- Rows of rows of bytes. -/
abbrev KL : Kd (List Int) := Kd.slice 5 (Kd.int .u8)
abbrev OwL (w : World) (base : Nat) (v : Value) (xs : List (List Int)) : Prop := KL.R 70 w base (fun _ => True) v xs
theorem kl_move {w w1 : World} {base : Nat} {v : Value} {xs : List (List Int)} (h : OwL w base v xs) (hm : ∀ k cells q, base ≤ k → k < w.heap.size → (q = 70 ∨ q = 5) → w.heap[k]? = some (.cells cells q (0, 0)) → w1.heap[k]? = w.heap[k]?) : OwL w1 base v xs :=
  Kd.R_mono (Kd.R_move (Kd.R_bound h) (fun k hk => by
    obtain ⟨_, hb, hl, q, hq, cells, hc⟩ := hk
    refine hm k cells q hb hl ?_ hc
    rcases List.mem_cons.1 hq with rfl | hq
    · exact .inl rfl
    · rcases List.mem_cons.1 hq with rfl | hq
      · exact .inr rfl
      · cases hq)) (fun _ hk => hk.1)
section
variable {P : Program} {ops : Array Oper} {Q : Exit → Act → World → Prop} {o : Oper} {a : Act}
/-- append of one element that holds a row, in a drawn region. -/
theorem do_appO {α : Type} (d : Kd α) {w0 W : World} {i : Nat} {N : Tmp} {K : Act → World → Prop} (base : Nat) (hi : ops[i]? = some o) (hN : o.dst = some N) (hw : Region.wanted o (yielded ops a.tmps) = true) (s x : Operand) (t e : TypeId) (z : Value) (bytes : Nat)
    (ho : o.op = .call { callee := .builtin .append, args := #[s, x], argTypes := #[t, t] })
    (ht : P.underlying t = some (.slice e)) (hinfo : (P.info? e).map (fun i => (i.zero, i.size, i.bytes)) = some (some z, d.sz, bytes)) (hz : z.cells.size = d.sz) (hs0 : 0 < d.sz) (hb0 : 0 < bytes)
    (v : Value) (xs : List α) (p : α) (cs : List Value) (okp : Nat → Prop) (hs : a.eval s = v) (hx : a.eval x = .slice (some ⟨W.heap.size, 0, none⟩) 1 1) (hp : d.M W base okp p cs) (hokp : ∀ k, okp k → True ∧ some k ≠ v.ownBlock)
    (HO : d.R e W base (fun _ => True) v xs) (HB : Below base w0 W) (hbase : base ≤ W.heap.size) (hl : (xs.length + 1) * bytes ≤ 140737488355328)
    (h : ∀ v1 w1, d.R e w1 base (fun _ => True) v1 (xs ++ [p]) → Below base w0 w1 → W.grownBy w1 v.ownBlock → (v1.ownBlock = v.ownBlock ∨ ∃ b, v1.ownBlock = some b ∧ W.heap.size ≤ b) → K (a.put (some N) v1) w1) :
    wpOp P ops Q i K a (W.alloc (.cells cs.toArray e)) := by
  refine do_ hi hw ?_
  have := Kd.R_append_step (P := P) (Q := Q) (Kc := K) (o := o) (a := a) (ops := ops) d base hw s x t e z bytes ho ht hinfo hz hs0 hb0 v xs p cs (fun _ => True) okp hs hx hp hokp (fun _ _ => trivial) HO HB hbase hl (fun v1 w1 h1 h2 h3 h4 => by
    rw [hN]; exact h v1 w1 h1 h2 h3 h4)
  rwa [if_pos hw] at this
end
/-- Bytes of one's own as an element. -/
theorem el_own {w : World} {b base : Nat} {u : Value} {ys : List Int} (h : OwB w b u ys) (hb : base ≤ b) : KL.M w base (fun k => some k = u.ownBlock) ys [u] :=
  ⟨u, rfl, Kd.R_lower (Kd.R_of_own (Kd.own_of_R h) (fun k hk => hk.symm)) hb⟩
theorem el_ne {w W : World} {base b : Nat} {vo u : Value} {o : List (List Int)} {ys : List Int} (hO : OwL W base vo o) (hu : OwB w b u ys) (hb : W.heap.size ≤ b) : ∀ k, some k = u.ownBlock → True ∧ some k ≠ vo.ownBlock := fun k hk => ⟨trivial, fun e => by
  have h1 := Kd.R_lt hO k e.symm
  have h2 := Kd.R_base hu k hk.symm
  omega⟩
theorem PCl.typed {w : World} {B g tb : Nat} {c : Cl} {v : Value} (h : PCl w B g tb c v) (hp : 0 < c.L.length) : ∃ cells, w.heap[gOf v]? = some (.cells cells 55 (0, 0)) := by
  obtain ⟨gr, cap, rfl, _, _, hc⟩ := Kd.R_form h.own hp
  exact hc
theorem kl_ask {w w1 : World} {B g tb base : Nat} {c : Cl} {v vo : Value} {xs : List (List Int)} (h : OwL w base vo xs) (hP : PCl w B g tb c v) (hp : 0 < c.L.length) (hF : Fr w w1 (fun k => k = g ∨ k = gOf v)) : OwL w1 base vo xs := by
  obtain ⟨cs, ht⟩ := hP.typed hp
  refine kl_move h fun k cells q _ hl hq hk => hF.block k hl ?_
  rintro (rfl | rfl)
  · rw [hP.blk] at hk
    injection hk with hk
    injection hk with _ hk
    rcases hq with rfl | rfl <;> exact absurd hk (by decide)
  · rw [ht] at hk
    injection hk with hk
    injection hk with _ hk
    rcases hq with rfl | rfl <;> exact absurd hk (by decide)
theorem PCl.grown {w w1 : World} {B g tb b : Nat} {c : Cl} {v vo : Value} {o : List (List Int)} (h : PCl w B g tb c v) (hO : OwL w b vo o) (hG : w.grownBy w1 vo.ownBlock) : PCl w1 B g tb c v :=
  ⟨(hG.block g (blk_lt h.blk) (Kd.R_ne hO h.blk (by decide))).trans h.blk, (hG.block tb (blk_lt h.tim) (Kd.R_ne hO h.tim (by decide))).trans h.tim, kf_move h.own fun k cells _ hc => hG.block k (blk_lt hc) (Kd.R_ne hO hc (by decide)), h.hg, h.ht⟩
theorem StV.grown {w w1 : World} {q qo qc g b : Nat} {t : Int} {vo : Value} {o : List (List Int)} (h : StV w q qo qc g t) (hO : OwL w b vo o) (hG : w.grownBy w1 vo.ownBlock) : StV w1 q qo qc g t :=
  ⟨(hG.block q (blk_lt h.tick) (Kd.R_ne hO h.tick (by decide))).trans h.tick, (hG.block qo (blk_lt h.ov) (Kd.R_ne hO h.ov (by decide))).trans h.ov, (hG.block qc (blk_lt h.rc) (Kd.R_ne hO h.rc (by decide))).trans h.rc⟩
theorem StV.fr {w w1 : World} {q qo qc g : Nat} {t : Int} {S : Nat → Prop} (h : StV w q qo qc g t) (hF : Fr w w1 S) (h1 : ¬ S q) (h2 : ¬ S qo) (h3 : ¬ S qc) : StV w1 q qo qc g t :=
  ⟨(hF.block q (blk_lt h.tick) h1).trans h.tick, (hF.block qo (blk_lt h.ov) h2).trans h.ov, (hF.block qc (blk_lt h.rc) h3).trans h.rc⟩
/-- What Step's loops keep. -/
structure SI (S : Nat → Prop) (w wr : World) (B g tb q qo qc : Nat) (v : Value) (t : Int) (c : Cl) (o : List (List Int)) (vo : Value) : Prop where
  pc : PCl wr B g tb c v
  out : OwL wr w.heap.size vo o
  sv : StV wr q qo qc g t
  fr : Fr w wr S
theorem SI.below {S : Nat → Prop} {w wr w1 : World} {B g tb q qo qc : Nat} {v vo : Value} {t : Int} {c : Cl} {o : List (List Int)} (h : SI S w wr B g tb q qo qc v t c o vo) (k : Below wr.heap.size wr w1) : SI S w w1 B g tb q qo qc v t c o vo :=
  ⟨h.pc.below k, Kd.R_below h.out k, h.sv.below k, h.fr.call k⟩
/-- One is asked for: before the row of all grows. -/
theorem SI.asked {S : Nat → Prop} {w wr w1 : World} {B g tb q qo qc : Nat} {v vo : Value} {t : Int} {c c' : Cl} {o : List (List Int)} (h : SI S w wr B g tb q qo qc v t c o vo) (hp : 0 < c.L.length) (hg : g < w.heap.size) (hgr : gOf v < w.heap.size) (hq : w.heap.size ≤ q) (hqo : w.heap.size ≤ qo) (hqc : w.heap.size ≤ qc)
    (hS : ∀ k, (k = g ∨ k = gOf v) → S k) (hP : PCl w1 B g tb c' v) (hF : Fr wr w1 (fun k => k = g ∨ k = gOf v)) : SI S w w1 B g tb q qo qc v t c' o vo :=
  ⟨hP, kl_ask h.out h.pc hp hF, h.sv.fr hF (by omega) (by omega) (by omega), h.fr.trans (hF.mono hS)⟩
theorem SI.app {S : Nat → Prop} {w wr w1 : World} {B g tb q qo qc : Nat} {v vo v1 : Value} {t : Int} {c : Cl} {o : List (List Int)} {ys : List Int} (h : SI S w wr B g tb q qo qc v t c o vo) (hO : OwL w1 w.heap.size v1 (o ++ [ys])) (hG : wr.grownBy w1 vo.ownBlock) : SI S w w1 B g tb q qo qc v t c (o ++ [ys]) v1 :=
  ⟨h.pc.grown h.out hG, hO, h.sv.grown h.out hG, h.fr.grown hG fun i hi => .inr (Kd.R_base h.out i hi)⟩
theorem infoBS : (Try.prog.info? 70).map (fun i => (i.zero, i.size, i.bytes)) = some (some (.slice none 0 0), 1, 24) := by kernel_rfl
end Go.Proofs.Ytnkkjmbpopodlaa
