/- cut.All; who collects what it tells. Conditions: their own. -/
import Derived.Test.YtdfahblgnbdndaaDoorCut5
namespace Go.Proofs.YtdfahblgnbdndaaDoor
open Go.RowKit Go.Shelf Go.Proofs.YtdfahblgnbdndaaDoorW.PrintWords Go.Proofs.YtdfahblgnbdndaaDoorW.PrintMore
set_option linter.unusedVariables false
set_option linter.unusedSimpArgs false
attribute [local go_sem] Oper.semAt_some
theorem all_calls (A : Option Addr) (n cp : Nat) (a b c : Int) (w : World) :
    Calls Tryd.prog 59 #[.slice A n cp, .agg #[.int .i64 a, .int .i64 b, .int .i64 c]] w fun e w' => e = .returned (.func (.func 74) #[] #[.pointer (some ⟨w.heap.size + 1, 0, none⟩), .pointer (some ⟨w.heap.size, 0, none⟩)]) ∧ w' = (w.alloc (.cells #[.slice A n cp] 33)).alloc (.cells #[.int .i64 a, .int .i64 b, .int .i64 c] 24) := by
  have hmf : ∀ (fn : Fn) (first cap : Array Value) (w : World), (Instr.makeFunc fn first cap).run Tryd.prog w = .ok (.func fn first cap) w := fun _ _ _ _ => rfl
  go_enter Tryd.func59, Tryd.ntmps59
  go_wp2
  go_ret
  exact ⟨rfl, rfl⟩
set_option maxRecDepth 100000 in
theorem all1_bad (a b c : Int) (pB bB : Nat) (w : World) (CH : List (List Int)) (hpB : w.heap[pB]? = some (.cells #[.int .i64 a, .int .i64 b, .int .i64 c] 24 (0, 0))) (hm : mayB a b c = false) :
    SeqY FoC Fence.wide 9 Tryd.prog 74 #[.pointer (some ⟨pB, 0, none⟩), .pointer (some ⟨bB, 0, none⟩)] (fun x => #[encS x]) (Yc CH) (fun ys => ys.length = 0) (fun pre => pre.length = 0) w := by
  intro l J Jx W hW hJ hY h0
  have HPB := Aside0.mk (Later.heap hW hpB)
  have HM := Aside0.mk hm
  have H0 := Aside0.mk h0
  clear hJ hY h0 hm hpB
  obtain ⟨q0, q1, q2⟩ := pm_cells HPB.out
  refine callsIn_of_wp Tryd.func74 rfl trivial ?_ rfl
  simp only [Tryd.ntmps74, List.size_toArray, List.length_cons, List.length_nil, Nat.reduceAdd, Nat.reduceSub, Array.replicate_succ, Array.replicate_zero, List.push_toArray, List.append_toArray, List.nil_append, List.cons_append]
  gi_wp2_with (refine ⟨trivial, ?_⟩; gi_at_call 75; refine callsIn_wide.2 ((cnew_bad a b c W HM.out).mono ?_); rintro e w1 ⟨rfl, hB1⟩; have HB1 := Aside0.mk hB1; clear hB1)
  refine bodyPost_ret (results_none rfl _ _ _) rfl ⟨⟨_, rfl⟩, .inl ⟨[], w1.heap.size, rfl, H0.out w1 HB1.out⟩⟩
/-- What a collector keeps. -/
structure CI (w : World) (ob : Nat) (CH : List (List Int)) (M : Nat) (pre : List S3) (W : World) : Prop where
  m1 : w.heap.size ≤ M
  m2 : M ≤ W.heap.size
  fr : Fr w W (fun k => k = ob)
  box : ∃ v, W.heap[ob]? = some (.cells #[v] 61 (0, 0)) ∧ OwT W M v pre
  chs : ∃ L : List (S3 × List Int), L.map (·.1) = pre ∧ L.map (·.2) = CH.take pre.length ∧ ∀ p ∈ L, ChY w.heap.size p.1 p.2 W
theorem OwT.move {w w1 : World} {base : Nat} {v : Value} {xs : List S3} (h : OwT w base v xs) (hm : ∀ k cells, base ≤ k → w.heap[k]? = some (.cells cells 33 (0, 0)) → w1.heap[k]? = w.heap[k]?) : OwT w1 base v xs :=
  Kd.R_mono (Kd.R_move (Kd.R_bound h) (fun k hk => by
    obtain ⟨_, hb, _, q, hq, cells, hc⟩ := hk
    rcases List.mem_cons.1 hq with rfl | hq
    · exact hm k cells hb hc
    · cases hq)) (fun _ hk => hk.1)
theorem CI.qs {w A B : World} {ob M : Nat} {CH : List (List Int)} {pre : List S3} (h : CI w ob CH M pre A) (hQ : Qs FoC w.heap.size A B) : CI w ob CH M pre B := by
  obtain ⟨h1, h2, h3, ⟨v, h4, h5⟩, L, h6, h7, h8⟩ := h
  exact ⟨h1, Nat.le_trans h2 hQ.size, h3.next hQ (fun i hi => .inr hi.1), ⟨v, (hQ.cells h4 (by decide) (by decide)).trans h4, h5.move fun k cells _ hk => hQ.cells hk (by decide) (by decide)⟩, L, h6, h7, fun p hp => (h8 p hp).qs hQ⟩
theorem CI.start {w : World} {ob : Nat} (hob : w.heap[ob]? = some (.cells #[.slice none 0 0] 61 (0, 0))) (CH : List (List Int)) (W1 : World) (h : Below w.heap.size w W1) : CI w ob CH W1.heap.size [] W1 :=
  ⟨h.size, Nat.le_refl _, Fr.later h, ⟨_, Later.heap h hob, Kd.R_nil _ _ _ _ _⟩, [], rfl, rfl, fun p hp => (by cases hp)⟩
/-- A chunk more. -/
theorem CI.snoc {w W w2 : World} {ob B1 M : Nat} {CH : List (List Int)} {pre : List S3} {x : S3} {v v2 : Value} (h : CI w ob CH M pre W) (hY : Yc CH B1 M pre x W) (hB : w.heap.size ≤ B1) (hob : ob < w.heap.size) (hb : W.heap[ob]? = some (.cells #[v] 61 (0, 0)))
    (hO : OwT W M v pre) (hO2 : OwT w2 M v2 (pre ++ [x])) (hG : W.grownBy w2 v.ownBlock) :
    Kb w.heap.size M W (w2.setCell ⟨ob, 0, none⟩ v2) ∧ CI w ob CH M (pre ++ [x]) (w2.setCell ⟨ob, 0, none⟩ v2) := by
  obtain ⟨h1, h2, h3, -, L, h6, h7, h8⟩ := h
  obtain ⟨y1, y2, y3, y4⟩ := hY
  have hobv : some ob ≠ v.ownBlock := Kd.R_ne hO hb (by decide)
  have hoW : ob < W.heap.size := (Array.getElem?_eq_some_iff.1 hb).1
  have hb2 : w2.heap[ob]? = some (.cells #[v] 61 (0, 0)) := (hG.block ob hoW hobv).trans hb
  have hvM : ∀ q, v.ownBlock = some q → M ≤ q := fun q hq => by
    rcases Kd.R_base2 hO with h | ⟨q', h, hq'⟩
    · rw [h] at hq; cases hq
    · rw [h] at hq; cases hq; exact hq'
  have hF : Fr W (w2.setCell ⟨ob, 0, none⟩ v2) (fun k => k = ob ∨ some k = v.ownBlock) :=
    ((Fr.refl W _).grown hG (fun i hi => .inl (.inr hi.symm))).set (setBlk_cell hb2 v2) (.inl (.inl rfl))
  have hCh : ∀ {p : S3} {ch : List Int}, ChY w.heap.size p ch W → ChY w.heap.size p ch (w2.setCell ⟨ob, 0, none⟩ v2) := fun hp => hp.move fun q cells _ hq hl => hF.block q (Array.getElem?_eq_some_iff.1 hl).1 (by
    rintro (rfl | e)
    · omega
    · exact absurd e (Kd.R_ne hO hl (by decide)))
  refine ⟨Kb.fr hF h2 (fun k hk => ?_), h1, Nat.le_trans h2 hF.size, h3.next hF (fun i hi => ?_), ⟨v2, ?_, ?_⟩, L ++ [(x, CH.getD pre.length [])], ?_, ?_, fun p hp => ?_⟩
  · rcases hk with rfl | e
    · exact .inl hob
    · exact .inr (hvM k e.symm)
  · rcases hi with rfl | e
    · exact .inl rfl
    · exact .inr (by have := hvM i e.symm; omega)
  · have := blk_set hb2 0 v2
    simpa using this
  · exact hO2.move fun k cells hk hc => Below.heap_setCell _ _ _ _ (by show k ≠ ob; omega)
  · simp [h6]
  · rw [List.map_append, h7, List.length_append]
    have : CH.take (pre.length + 1) = CH.take pre.length ++ [CH.getD pre.length []] := by
      rw [List.take_add_one, List.getD_eq_getElem?_getD, List.getElem?_eq_getElem y1]; rfl
    exact this.symm
  · rcases List.mem_append.1 hp with hp | hp
    · exact hCh (h8 p hp)
    · rw [List.mem_singleton.1 hp]
      exact hCh (y4.mono hB)
section
variable {ops : Array Oper} {rest : List Oper} {o : Oper} {a : Act} {Q : Exit → Act → World → Prop}
theorem appT1 {w0 W : World} (base : Nat) (hgd : o.guard = none) (s x : Operand)
    (ho : o.op = .call { callee := .builtin .append, args := #[s, x], argTypes := #[61, 61] })
    (v : Value) (xs : List S3) (y : S3) (hs : a.eval s = v) (hx : a.eval x = .slice (some ⟨W.heap.size, 0, none⟩) 1 1)
    (HO : OwT W base v xs) (HB : Below base w0 W) (hbase : base ≤ W.heap.size) (hl : (xs.length + 1) * 24 ≤ 140737488355328)
    (h : ∀ v1 w1, OwT w1 base v1 (xs ++ [y]) → Below base w0 w1 → W.grownBy w1 v.ownBlock → (v1.ownBlock = v.ownBlock ∨ ∃ b, v1.ownBlock = some b ∧ W.heap.size ≤ b) → wpList Tryd.prog ops Q rest (a.put o.dst v1) w1) :
    wpList Tryd.prog ops Q (o :: rest) a (W.alloc (.cells #[encS y] 33)) :=
  Kd.R_append KS base hgd s x 61 33 (.slice none 0 0) 24 ho Tryd.underlying61 infoBS rfl (by decide) (by decide) v xs y [encS y] (fun _ => True) (fun _ => False) hs hx rfl (fun _ h => h.elim) (fun _ _ => trivial) HO HB hbase hl h
end
end Go.Proofs.YtdfahblgnbdndaaDoor
