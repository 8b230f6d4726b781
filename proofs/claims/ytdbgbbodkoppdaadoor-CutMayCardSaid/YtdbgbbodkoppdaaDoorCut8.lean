/- cut.Sizes; lighterageref01.SameInts. Conditions: their own. -/
import Derived.Test.YtdbgbbodkoppdaaDoorCut7
namespace Go.Proofs.YtdbgbbodkoppdaaDoor
open Go.RowKit Go.Shelf Go.Proofs.YtdbgbbodkoppdaaDoorW.PrintWords Go.Proofs.YtdbgbbodkoppdaaDoorW.PrintMore
set_option linter.unusedVariables false
set_option linter.unusedSimpArgs false
attribute [local go_sem] Oper.semAt_some
abbrev OwN (w : World) (base : Nat) (v : Value) (xs : List Int) : Prop := (Kd.int .i64).R 3 w base (fun _ => True) v xs
abbrev RdN (w : World) (A : Option Addr) (n : Nat) (xs : List Int) : Prop := (Kd.int .i64).C w A n xs
theorem infoN : (Tryd.prog.info? 3).map (fun i => (i.zero, i.size, i.bytes)) = some (some (.int .i64 0), 1, 8) := by kernel_rfl
theorem OwN.move {w w1 : World} {base : Nat} {v : Value} {xs : List Int} (h : OwN w base v xs) (hm : ∀ k cells, base ≤ k → w.heap[k]? = some (.cells cells 3 (0, 0)) → w1.heap[k]? = w.heap[k]?) : OwN w1 base v xs :=
  Kd.R_mono (Kd.R_move (Kd.R_bound h) (fun k hk => by
    obtain ⟨_, hb, _, q, hq, cells, hc⟩ := hk
    rcases List.mem_cons.1 hq with rfl | hq
    · exact hm k cells hb hc
    · cases hq)) (fun _ hk => hk.1)
def lens (L : List (List Int)) : List Int := L.map fun c => (c.length : Int)
structure CZ (w : World) (ob : Nat) (CH : List (List Int)) (M : Nat) (pre : List S3) (W : World) : Prop where
  m1 : w.heap.size ≤ M
  m2 : M ≤ W.heap.size
  le : pre.length ≤ CH.length
  fr : Fr w W (fun k => k = ob)
  box : ∃ v, W.heap[ob]? = some (.cells #[v] 32 (0, 0)) ∧ OwN W M v (lens (CH.take pre.length))
theorem CZ.qs {w A B : World} {ob M : Nat} {CH : List (List Int)} {pre : List S3} (h : CZ w ob CH M pre A) (hQ : Qs FoC w.heap.size A B) : CZ w ob CH M pre B := by
  obtain ⟨h1, h2, h9, h3, v, h4, h5⟩ := h
  exact ⟨h1, Nat.le_trans h2 hQ.size, h9, h3.next hQ (fun i hi => .inr hi.1), v, (hQ.cells h4 (by decide) (by decide)).trans h4, h5.move fun k cells _ hk => hQ.cells hk (by decide) (by decide)⟩
theorem CZ.start {w : World} {ob : Nat} (hob : w.heap[ob]? = some (.cells #[.slice none 0 0] 32 (0, 0))) (CH : List (List Int)) (W1 : World) (h : Below w.heap.size w W1) : CZ w ob CH W1.heap.size [] W1 :=
  ⟨h.size, Nat.le_refl _, Nat.zero_le _, Fr.later h, _, Later.heap h hob, Kd.R_nil _ _ _ _ _⟩
theorem CZ.snoc {w W w2 : World} {ob B1 M : Nat} {CH : List (List Int)} {pre : List S3} {x : S3} {v v2 : Value} (h : CZ w ob CH M pre W) (hY : Yc CH B1 M pre x W) (hB : w.heap.size ≤ B1) (hob : ob < w.heap.size) (hb : W.heap[ob]? = some (.cells #[v] 32 (0, 0)))
    (hO : OwN W M v (lens (CH.take pre.length))) (hO2 : OwN w2 M v2 (lens (CH.take pre.length) ++ [(x.2.1 : Int)])) (hG : W.grownBy w2 v.ownBlock) :
    Kb w.heap.size M W (w2.setCell ⟨ob, 0, none⟩ v2) ∧ CZ w ob CH M (pre ++ [x]) (w2.setCell ⟨ob, 0, none⟩ v2) := by
  obtain ⟨h1, h2, h9, h3, -⟩ := h
  obtain ⟨y1, y2, y3, y4⟩ := hY
  have hobv : some ob ≠ v.ownBlock := Kd.R_ne hO hb (by decide)
  have hb2 : w2.heap[ob]? = some (.cells #[v] 32 (0, 0)) := (hG.block ob (Array.getElem?_eq_some_iff.1 hb).1 hobv).trans hb
  have hvM : ∀ q, v.ownBlock = some q → M ≤ q := fun q hq => by
    rcases Kd.R_base2 hO with h | ⟨q', h, hq'⟩
    · rw [h] at hq; cases hq
    · rw [h] at hq; cases hq; exact hq'
  have hF : Fr W (w2.setCell ⟨ob, 0, none⟩ v2) (fun k => k = ob ∨ some k = v.ownBlock) :=
    ((Fr.refl W _).grown hG (fun i hi => .inl (.inr hi.symm))).set (setBlk_cell hb2 v2) (.inl (.inl rfl))
  refine ⟨Kb.fr hF h2 (fun k hk => ?_), h1, Nat.le_trans h2 hF.size, by rw [List.length_append]; exact y1, h3.next hF (fun i hi => ?_), v2, ?_, ?_⟩
  · rcases hk with rfl | e
    · exact .inl hob
    · exact .inr (hvM k e.symm)
  · rcases hi with rfl | e
    · exact .inl rfl
    · exact .inr (by have := hvM i e.symm; omega)
  · have := blk_set hb2 0 v2
    simpa using this
  · have e : lens (CH.take (pre ++ [x]).length) = lens (CH.take pre.length) ++ [(x.2.1 : Int)] := by
      rw [y4.n, List.length_append]
      have h1 : CH.take (pre.length + 1) = CH.take pre.length ++ [CH.getD pre.length []] := by
        rw [List.take_add_one, List.getD_eq_getElem?_getD, List.getElem?_eq_getElem y1]; rfl
      show lens (CH.take (pre.length + 1)) = _
      rw [h1]
      simp only [lens, List.map_append]
      rfl
    rw [e]
    exact hO2.move fun k cells hk hc => Below.heap_setCell _ _ _ _ (by show k ≠ ob; omega)
section
variable {ops : Array Oper} {rest : List Oper} {o : Oper} {a : Act} {Q : Exit → Act → World → Prop}
theorem appN1 {w0 W : World} (base : Nat) (hgd : o.guard = none) (s x : Operand)
    (ho : o.op = .call { callee := .builtin .append, args := #[s, x], argTypes := #[32, 32] })
    (v : Value) (xs : List Int) (y : Int) (hs : a.eval s = v) (hx : a.eval x = .slice (some ⟨W.heap.size, 0, none⟩) 1 1)
    (HO : OwN W base v xs) (HB : Below base w0 W) (hbase : base ≤ W.heap.size) (hl : (xs.length + 1) * 8 ≤ 140737488355328)
    (h : ∀ v1 w1, OwN w1 base v1 (xs ++ [y]) → Below base w0 w1 → W.grownBy w1 v.ownBlock → (v1.ownBlock = v.ownBlock ∨ ∃ b, v1.ownBlock = some b ∧ W.heap.size ≤ b) → wpList Tryd.prog ops Q rest (a.put o.dst v1) w1) :
    wpList Tryd.prog ops Q (o :: rest) a (W.alloc (.cells #[.int .i64 y] 3)) :=
  Kd.R_append (Kd.int .i64) base hgd s x 32 3 (.int .i64 0) 8 ho Tryd.underlying32 infoN rfl (by decide) (by decide) v xs y [.int .i64 y] (fun _ => True) (fun _ => False) hs hx rfl (fun _ h => h.elim) (fun _ _ => trivial) HO HB hbase hl h
end
theorem CZ.told {w w4 W : World} {ob M D n : Nat} {CH : List (List Int)} {pre : List S3} {va : Option Addr} {vc : Nat} (h : CZ w4 ob CH M pre (W.putObj D (.deferred none))) (hl : pre.length = CH.length) (hk : W.heap[D]? = some (.deferred (some []))) (hO : OwN W M (.slice va n vc) (lens (CH.take pre.length))) (hB : Below w.heap.size w w4) (hob : w.heap.size ≤ ob) :
    ∃ v, Ending.returned (.tuple #[.slice va n vc, .int .i64 0]) = .returned (.tuple #[v, .int .i64 0]) ∧ OwN (W.putObj D (.deferred none)) w.heap.size v (lens CH) ∧ Below w.heap.size w (W.putObj D (.deferred none)) := by
  obtain ⟨h1, h2, h9, h3, h4⟩ := h
  rw [hl, List.take_length] at hO
  exact ⟨_, rfl, Kd.R_lower (hO.move fun k cells _ hc => World.putObj_heap_other (fun e => by subst e; rw [hk] at hc; cases hc)) (Nat.le_trans hB.size h1), hB.trans (h3.below (fun k hk => by omega) hB.size)⟩
theorem three_new (w : World) (c2 c3 c4 : Array Value) (t2 t3 t4 : Nat) :
    let w4 := ((w.alloc (.cells c2 t2)).alloc (.cells c3 t3)).alloc (.cells c4 t4)
    (w4.heap[w.heap.size]? = some (.cells c2 t2 (0, 0))) ∧ (w4.heap[w.heap.size + 1]? = some (.cells c3 t3 (0, 0))) ∧ (w4.heap[w.heap.size + 1 + 1]? = some (.cells c4 t4 (0, 0))) ∧ Below w.heap.size w w4 ∧ w4.heap.size = w.heap.size + 3 := by
  have s2 : (w.alloc (.cells c2 t2)).heap.size = w.heap.size + 1 := by simp
  have s3 : ((w.alloc (.cells c2 t2)).alloc (.cells c3 t3)).heap.size = w.heap.size + 1 + 1 := by simp
  refine ⟨?_, ?_, ?_, ?_, by simp⟩
  · rw [Below.heap_alloc _ _ _ (by omega), Below.heap_alloc _ _ _ (by omega)]
    exact blk_new w (.cells c2 t2)
  · rw [Below.heap_alloc _ _ _ (by omega)]
    have := blk_new (w.alloc (.cells c2 t2)) (.cells c3 t3)
    rwa [s2] at this
  · have := blk_new ((w.alloc (.cells c2 t2)).alloc (.cells c3 t3)) (.cells c4 t4)
    rwa [s3] at this
  · exact (((Below.refl _ w).alloc (Nat.le_refl _) _).alloc (by omega) _).alloc (by omega) _
set_option maxRecDepth 100000 in
set_option maxHeartbeats 3200000 in
theorem sizes_calls (a b c : Int) (A : Option Addr) (n cp : Nat) (xs : List Int) (CH : List (List Int)) (w : World) (hm : mayB a b c = true) (hT : Tells a b c A n cp xs CH) (hX : RdB w A n xs) (hn : CH.length ≤ 1099511627776) :
    Calls Tryd.prog 9 #[.slice A n cp, .agg #[.int .i64 a, .int .i64 b, .int .i64 c]] w fun e w' => ∃ v, e = .returned (.tuple #[v, .int .i64 0]) ∧ OwN w' w.heap.size v (lens CH) ∧ Below w.heap.size w w' := by
  have HT := Aside0.mk hT
  have HX := Aside0.mk hX
  have HM := Aside0.mk hm
  clear hT hX hm
  refine calls_of_wp_m Tryd.func9 rfl ?_
  simp only [Tryd.ntmps9, List.size_toArray, List.length_cons, List.length_nil, Nat.reduceAdd, Nat.reduceSub, Array.replicate_succ, Array.replicate_zero, List.push_toArray, List.append_toArray, List.nil_append, List.cons_append]
  go_wp2_with (first
    | (go_at_call 12; refine (may_calls a b c _).mono ?_; rw [HM.out]; rintro e w1 ⟨rfl, hB1⟩; have HB1 : Aside0 (Below w.heap.size w w1) := ⟨Below.trans (below_alloc (Below.refl _ w) _) (hB1.mono (by simp))⟩; have HBX := Aside0.mk (Later.heap hB1 (blk_new w (.cells #[.int .i64 a, .int .i64 b, .int .i64 c] 23))); have hs1 : w.heap.size + 1 ≤ w1.heap.size := (by have := blk_lt HBX.out; omega); obtain ⟨q0, q1, q2⟩ := pm_cells (Later.heap (below_alloc (Below.refl w1.heap.size w1) (.cells #[.slice none 0 0] 32)) HBX.out); clear hB1)
    | (go_at_call 22; refine (all_calls A n cp a b c _).mono ?_; rintro e w4 ⟨rfl, h4⟩; have H4 := Aside0.mk h4; clear h4 q0 q1 q2)
    | fail)
  obtain ⟨D1, D2, D3, D4, D5⟩ : (w4.heap[w1.heap.size]? = some (.cells #[.slice none 0 0] 32 (0, 0))) ∧ (w4.heap[w1.heap.size + 1]? = some (.cells #[.slice A n cp] 35 (0, 0))) ∧ (w4.heap[w1.heap.size + 1 + 1]? = some (.cells #[.int .i64 a, .int .i64 b, .int .i64 c] 23 (0, 0))) ∧ Below w1.heap.size w1 w4 ∧ w4.heap.size = w1.heap.size + 3 := by
    rw [H4.out]
    exact three_new w1 _ _ _ _ _ _
  have F2 := Aside0.mk D2
  have F3 := Aside0.mk D3
  have F4 : Aside0 (Below w.heap.size w w4) := ⟨HB1.out.trans (D4.mono HB1.out.size)⟩
  have F1 := Aside0.mk D1
  have hob : w1.heap.size < w4.heap.size := by omega
  have hobw : w.heap.size ≤ w1.heap.size := by omega
  clear H4 HBX HB1 hs1 D1 D2 D3 D4 D5
  generalize w1.heap.size + 1 + 1 = pB at *
  generalize w1.heap.size + 1 = bB at *
  generalize w1.heap.size = ob at *
  refine (wpIn_wide (n := 10)).1 ?_
  refine wpIn_rangeFunc_Y FoC (F := Fence.wide) (n := 10) (gf := 29) (lb := #[.pointer (some ⟨pB, 0, none⟩), .pointer (some ⟨bB, 0, none⟩)]) (w0 := w4) rfl (by omega) rfl trivial (enters_of Tryd.func29 (by kernel_rfl) rfl)
    (HT.out w4 pB bB F3.out F2.out (Kd.C_below HX.out F4.out)) (fun o ho => .inl ho) (Below.refl _ _) (fun _ => rfl)
    (fun B M pre x A' C' hy hq => ⟨hy.1, hy.2.1, Nat.le_trans hy.2.2.1 hq.size, hy.2.2.2.qs hq⟩) (fun B M pre x A' hy => ⟨hy.2.1, hy.2.2.1⟩)
    (fun M pre W => CZ w4 ob CH M pre W) (fun c M pre W => False) (fun M s A' B' h hq => h.qs hq) (fun c M s A' B' h hq => h)
    (fun W1 hb => CZ.start F1.out CH W1 hb) ?a1 ?assign ?body ?done ?stop
  case assign =>
    intro l x W K hK
    gi_wp2
    exact hK
  case body =>
    intro l M B1 pre x W hB hI hY
    have HI := Aside0.mk hI
    have HY := Aside0.mk hY
    obtain ⟨v, hbox, hOv⟩ := hI.box
    have hbc : W.cell? ⟨ob, 0, none⟩ = some v := by rw [blk_cell hbox]; rfl
    have hpl : pre.length ≤ CH.length := by have := HY.out.1; omega
    obtain ⟨R, hR⟩ : ∃ R, lens (CH.take pre.length) = R := ⟨_, rfl⟩
    have hRl : R.length ≤ CH.length := by rw [← hR]; simp [lens]; omega
    have HRE := Aside0.mk hR
    rw [hR] at hOv
    obtain ⟨va, vc, rfl, -, -⟩ := Kd.R_reads hOv
    have HOV := Aside0.mk hOv
    have HBX := Aside0.mk hbox
    clear hI hY hOv hbox hR
    obtain ⟨xa, xn, xc⟩ := x
    dsimp only [encS]
    refine wpIn_block ?_
    refine region_in (fun ⟨a, w, h⟩ => h) (by kernel_rfl) ?_
    go_wp2_with (at_builtin; refine appN1 (w0 := W) M rfl (.tmp 15) (.tmp 18) rfl (.slice va R.length vc) R xn rfl rfl HOV.out (Below.refl _ _) HI.out.m2 (by omega) ?_; intro v2 w2 hO2 hB2 hG2 hAt2; have hsn := HI.out.snoc HY.out hB hob HBX.out (by rw [HRE.out]; exact HOV.out) (by rw [HRE.out]; exact hO2) hG2; have HSN := Aside0.mk hsn; have hb2 : w2.heap[ob]? = some (.cells #[.slice va R.length vc] 32 (0, 0)) := (hG2.block ob (Array.getElem?_eq_some_iff.1 HBX.out).1 (Kd.R_ne HOV.out HBX.out (by decide))).trans HBX.out; have hbc2 : w2.cell? ⟨ob, 0, none⟩ = some (.slice va R.length vc) := (by rw [blk_cell hb2]; rfl); have hbf2 : w2.frozen? ⟨ob, 0, none⟩ = false := blk_frozen hb2 0; obtain ⟨v2a, v2c, rfl, -, -⟩ := Kd.R_reads hO2; clear hO2 hB2 hG2 hAt2 hsn hb2)
    have h := HSN.out
    rw [show (R ++ [(xn : Int)]).length = R.length + 1 by simp] at h
    exact h
  case done =>
    intro D M xs2 W hD hs hI hK
    obtain ⟨v, hbox, hOv⟩ := hI.box
    have hbc : W.cell? ⟨ob, 0, none⟩ = some v := by rw [blk_cell hbox]; rfl
    obtain ⟨R, hR⟩ : ∃ R, lens (CH.take xs2.length) = R := ⟨_, rfl⟩
    have HRE := Aside0.mk hR
    rw [hR] at hOv
    obtain ⟨va, vc, rfl, -, -⟩ := Kd.R_reads hOv
    have HOV := Aside0.mk hOv
    have HI := Aside0.mk hI
    have HK := Aside0.mk hK
    have HS := Aside0.mk hs
    clear hOv hI hbox hK hs hR
    have HFin : Aside0 (CZ w4 ob CH M xs2 (W.putObj D (.deferred none))) := ⟨HI.out.qs (Qs.put FoC HK.out hD (.inl rfl))⟩
    go_wp2
    refine ⟨by simp, .inl ⟨_, _, rfl, run_takeDeferred HK.out, ?_⟩⟩
    refine ⟨_, results_tmp2 rfl _ _ _, ?_⟩
    exact CZ.told HFin.out HS.out HK.out (by rw [HRE.out]; exact HOV.out) F4.out hobw
  case stop => intro D M cc pre W hD hs hx; exact hx.elim
set_option maxRecDepth 20000 in
theorem sizes_bad (a b c : Int) (A : Option Addr) (n cp : Nat) (w : World) (hm : mayB a b c = false) :
    Calls Tryd.prog 9 #[.slice A n cp, .agg #[.int .i64 a, .int .i64 b, .int .i64 c]] w fun e w' => e = .returned (.tuple #[.slice none 0 0, .int .i64 1]) ∧ Below w.heap.size w w' := by
  have HM := Aside0.mk hm
  clear hm
  go_enter Tryd.func9, Tryd.ntmps9
  go_wp2_with (go_at_call 12; refine (may_calls a b c _).mono ?_; rw [HM.out]; rintro e w1 ⟨rfl, hB1⟩; have HB1 : Aside0 (Below w.heap.size w w1) := ⟨Below.trans (below_alloc (Below.refl _ w) _) (hB1.mono (by simp))⟩; clear hB1)
  (try simp only [Exit.inBlock, Exit.then])
  exact bodyPost_ret (results_tmp2 rfl _ _ _) rfl ⟨rfl, HB1.out⟩
end Go.Proofs.YtdbgbbodkoppdaaDoor
