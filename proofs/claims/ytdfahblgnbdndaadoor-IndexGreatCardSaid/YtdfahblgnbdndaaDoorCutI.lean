/- cut.Items. Conditions: their own, and what sha's table of roots holds. -/
import Derived.Test.YtdfahblgnbdndaaDoorCut8
import Derived.Test.YtdfahblgnbdndaaDoorItm
import Derived.Test.YtdfahblgnbdndaaDoorSha8
namespace Go.Proofs.YtdfahblgnbdndaaDoor
open Go.RowKit Go.Shelf Go.Proofs.YtdfahblgnbdndaaDoorW.PrintWords Go.Proofs.YtdfahblgnbdndaaDoorW.PrintMore
set_option linter.unusedVariables false
set_option linter.unusedSimpArgs false
attribute [local go_sem] Oper.semAt_some
theorem Roots.fr2 {w w1 : World} {S : Nat → Prop} (h : Roots w) (hf : Fr w w1 S) (hS : ¬ S 0) : Roots w1 := fun i hi => hf.cell (h i hi) hS
theorem Roots.pos {w : World} (h : Roots w) : 0 < w.heap.size := cell_lt' (h 0 (by omega))
theorem row1_exec {P : Program} {o : Oper} {a : Act} {w : World} {t e : TypeId} (parts : Array (Nat × Operand)) (ho : o.op = .buildSlice t 1 parts) {z : Value} {size by_ : Nat} (hu : P.underlying t = some (.slice e)) (hinfo : (P.info? e).map (fun i => (i.zero, i.size, i.bytes)) = some (some z, size, by_)) (cs : List Value) (hl : cs.length = size) (hb : size ≤ 2 ^ 24) (hp : size ≠ 0)
    (hparts : (parts.toList.map fun (i, x) => (i, a.eval x)) = [(0, Value.agg cs.toArray)]) : (execOp a.eval o).run P w = .ok (.value (.slice (some ⟨w.heap.size, 0, none⟩) 1 1)) (w.alloc (.cells cs.toArray e)) := by
  obtain ⟨it, hi, hz, hs, _⟩ := info_parts hinfo
  have := rows_exec (P := P) (o := o) (a := a) (w := w) 1 parts ho hu hi hz hs [cs] (by simpa using hl) (by simpa using hb) (by simpa using hp) rfl (by rw [hparts]; rfl)
  simpa using this
structure CT (w : World) (ob : Nat) (CH : List (List Int)) (M : Nat) (pre : List S3) (W : World) : Prop where
  m1 : w.heap.size ≤ M
  m2 : M ≤ W.heap.size
  le : pre.length ≤ CH.length
  fr : Fr w W (fun k => k = ob)
  box : ∃ v, W.heap[ob]? = some (.cells #[v] 27 (0, 0)) ∧ OwI W M v (itsOf (CH.take pre.length))
theorem CT.qs {w A B : World} {ob M : Nat} {CH : List (List Int)} {pre : List S3} (h : CT w ob CH M pre A) (hQ : Qs FoC w.heap.size A B) : CT w ob CH M pre B := by
  obtain ⟨h1, h2, h9, h3, v, h4, h5⟩ := h
  exact ⟨h1, Nat.le_trans h2 hQ.size, h9, h3.next hQ (fun i hi => .inr hi.1), v, (hQ.cells h4 (by decide) (by decide)).trans h4, kf_move h5 fun k cells _ hk => hQ.cells hk (by decide) (by decide)⟩
theorem CT.start {w : World} {ob : Nat} (hob : w.heap[ob]? = some (.cells #[.slice none 0 0] 27 (0, 0))) (CH : List (List Int)) (W1 : World) (h : Below w.heap.size w W1) : CT w ob CH W1.heap.size [] W1 :=
  ⟨h.size, Nat.le_refl _, Nat.zero_le _, Fr.later h, _, Later.heap h hob, Kd.R_nil _ _ _ _ _⟩
theorem CT.snoc {w W w1 w2 : World} {ob B1 M : Nat} {CH : List (List Int)} {pre : List S3} {x : S3} {v v2 : Value} (h : CT w ob CH M pre W) (hY : Yc CH B1 M pre x W) (hB : w.heap.size ≤ B1) (hob : ob < w.heap.size) (hb : W.heap[ob]? = some (.cells #[v] 27 (0, 0)))
    (hO : OwI W M v (itsOf (CH.take pre.length))) (hB1 : Below W.heap.size W w1) (hO2 : OwI w2 M v2 (itsOf (CH.take pre.length) ++ [(shaL (CH.getD pre.length []), (x.2.1 : Int))])) (hG : w1.grownBy w2 v.ownBlock) :
    Kb w.heap.size M W (w2.setCell ⟨ob, 0, none⟩ v2) ∧ CT w ob CH M (pre ++ [x]) (w2.setCell ⟨ob, 0, none⟩ v2) := by
  obtain ⟨h1, h2, h9, h3, -⟩ := h
  obtain ⟨y1, y2, y3, y4⟩ := hY
  have hobv : some ob ≠ v.ownBlock := Kd.R_ne hO hb (by decide)
  have hb1 : w1.heap[ob]? = some (.cells #[v] 27 (0, 0)) := Later.heap hB1 hb
  have hb2 : w2.heap[ob]? = some (.cells #[v] 27 (0, 0)) := (hG.block ob (Array.getElem?_eq_some_iff.1 hb1).1 hobv).trans hb1
  have hvM : ∀ q, v.ownBlock = some q → M ≤ q := fun q hq => by
    rcases Kd.R_base2 hO with h | ⟨q', h, hq'⟩
    · rw [h] at hq; cases hq
    · rw [h] at hq; cases hq; exact hq'
  have hF : Fr W (w2.setCell ⟨ob, 0, none⟩ v2) (fun k => k = ob ∨ some k = v.ownBlock) :=
    (((Fr.refl W _).call hB1).grown hG (fun i hi => .inl (.inr hi.symm))).set (setBlk_cell hb2 v2) (.inl (.inl rfl))
  refine ⟨Kb.fr hF h2 (fun k hk => ?_), h1, Nat.le_trans h2 hF.size, by rw [List.length_append]; exact y1, h3.next hF (fun i hi => ?_), v2, ?_, ?_⟩
  · rcases hk with rfl | e
    · exact .inl hob
    · exact .inr (hvM k e.symm)
  · rcases hi with rfl | e
    · exact .inl rfl
    · exact .inr (by have := hvM i e.symm; omega)
  · have := blk_set hb2 0 v2
    simpa using this
  · have e : itsOf (CH.take (pre ++ [x]).length) = itsOf (CH.take pre.length) ++ [(shaL (CH.getD pre.length []), (x.2.1 : Int))] := by
      rw [y4.n, List.length_append]
      have h1 : CH.take (pre.length + 1) = CH.take pre.length ++ [CH.getD pre.length []] := by
        rw [List.take_add_one, List.getD_eq_getElem?_getD, List.getElem?_eq_getElem y1]; rfl
      show itsOf (CH.take (pre.length + 1)) = _
      rw [h1]
      simp only [itsOf, List.map_append]
      rfl
    rw [e]
    exact kf_move hO2 fun k cells hk hc => Below.heap_setCell _ _ _ _ (by show k ≠ ob; omega)
theorem CT.told {w w4 W : World} {ob M D n : Nat} {CH : List (List Int)} {pre : List S3} {va : Option Addr} {vc : Nat} (h : CT w4 ob CH M pre (W.putObj D (.deferred none))) (hl : pre.length = CH.length) (hk : W.heap[D]? = some (.deferred (some []))) (hO : OwI W M (.slice va n vc) (itsOf (CH.take pre.length))) (hB : Below w.heap.size w w4) (hob : w.heap.size ≤ ob) :
    ∃ v, Ending.returned (.tuple #[.slice va n vc, .int .i64 0]) = .returned (.tuple #[v, .int .i64 0]) ∧ OwI (W.putObj D (.deferred none)) w.heap.size v (itsOf CH) ∧ Below w.heap.size w (W.putObj D (.deferred none)) := by
  obtain ⟨h1, h2, h9, h3, h4⟩ := h
  rw [hl, List.take_length] at hO
  exact ⟨_, rfl, Kd.R_lower (kf_move hO fun k cells _ hc => World.putObj_heap_other (fun e => by subst e; rw [hk] at hc; cases hc)) (Nat.le_trans hB.size h1), hB.trans (h3.below (fun k hk => by omega) hB.size)⟩
set_option maxRecDepth 100000 in
set_option maxHeartbeats 3200000 in
theorem items_calls (a b c : Int) (A : Option Addr) (n cp : Nat) (xs : List Int) (CH : List (List Int)) (w : World) (hm : mayB a b c = true) (hK : Roots w) (hT : Tells a b c A n cp xs CH) (hX : RdB w A n xs) (hn : CH.length ≤ 1099511627776) (hL : ∀ c ∈ CH, c.length ≤ 549755813888) :
    Calls Tryd.prog 36 #[.slice A n cp, .agg #[.int .i64 a, .int .i64 b, .int .i64 c]] w fun e w' => ∃ v, e = .returned (.tuple #[v, .int .i64 0]) ∧ OwI w' w.heap.size v (itsOf CH) ∧ Below w.heap.size w w' := by
  have HT := Aside0.mk hT
  have HX := Aside0.mk hX
  have HM := Aside0.mk hm
  have HK := Aside0.mk hK
  have HLC := Aside0.mk hL
  have hkp := hK.pos
  clear hT hX hm hK hL
  refine calls_of_wp_m Tryd.func36 rfl ?_
  simp only [Tryd.ntmps36, List.size_toArray, List.length_cons, List.length_nil, Nat.reduceAdd, Nat.reduceSub, Array.replicate_succ, Array.replicate_zero, List.push_toArray, List.append_toArray, List.nil_append, List.cons_append]
  go_wp2_with (first
    | (go_at_call 40; refine (may_calls a b c _).mono ?_; rw [HM.out]; rintro e w1 ⟨rfl, hB1⟩; have HB1 : Aside0 (Below w.heap.size w w1) := ⟨Below.trans (below_alloc (Below.refl _ w) _) (hB1.mono (by simp))⟩; have HBX := Aside0.mk (Later.heap hB1 (blk_new w (.cells #[.int .i64 a, .int .i64 b, .int .i64 c] 24))); have hs1 : w.heap.size + 1 ≤ w1.heap.size := (by have := blk_lt HBX.out; omega); obtain ⟨q0, q1, q2⟩ := pm_cells (Later.heap (below_alloc (Below.refl w1.heap.size w1) (.cells #[.slice none 0 0] 27)) HBX.out); clear hB1)
    | (go_at_call 59; refine (all_calls A n cp a b c _).mono ?_; rintro e w4 ⟨rfl, h4⟩; have H4 := Aside0.mk h4; clear h4 q0 q1 q2)
    | fail)
  obtain ⟨D1, D2, D3, D4, D5⟩ : (w4.heap[w1.heap.size]? = some (.cells #[.slice none 0 0] 27 (0, 0))) ∧ (w4.heap[w1.heap.size + 1]? = some (.cells #[.slice A n cp] 33 (0, 0))) ∧ (w4.heap[w1.heap.size + 1 + 1]? = some (.cells #[.int .i64 a, .int .i64 b, .int .i64 c] 24 (0, 0))) ∧ Below w1.heap.size w1 w4 ∧ w4.heap.size = w1.heap.size + 3 := by
    rw [H4.out]
    exact three_new w1 _ _ _ _ _ _
  have F2 := Aside0.mk D2
  have F3 := Aside0.mk D3
  have F4 : Aside0 (Below w.heap.size w w4) := ⟨HB1.out.trans (D4.mono HB1.out.size)⟩
  have F1 := Aside0.mk D1
  have hob : w1.heap.size < w4.heap.size := by omega
  have hobw : w.heap.size ≤ w1.heap.size := by omega
  clear H4 HBX HB1 hs1 D1 D2 D3 D4 D5
  generalize w1.heap.size + 1 + 1 = pB at *
  generalize w1.heap.size + 1 = bB at *
  generalize w1.heap.size = ob at *
  refine (wpIn_wide (n := 10)).1 ?_
  refine wpIn_rangeFunc_Y FoC (F := Fence.wide) (n := 10) (gf := 74) (lb := #[.pointer (some ⟨pB, 0, none⟩), .pointer (some ⟨bB, 0, none⟩)]) (w0 := w4) rfl (by omega) rfl trivial (enters_of Tryd.func74 (by kernel_rfl) rfl)
    (HT.out w4 pB bB F3.out F2.out (Kd.C_below HX.out F4.out)) (fun o ho => .inl ho) (Below.refl _ _) (fun _ => rfl)
    (fun B M pre x A' C' hy hq => ⟨hy.1, hy.2.1, Nat.le_trans hy.2.2.1 hq.size, hy.2.2.2.qs hq⟩) (fun B M pre x A' hy => ⟨hy.2.1, hy.2.2.1⟩)
    (fun M pre W => CT w4 ob CH M pre W) (fun c M pre W => False) (fun M s A' B' h hq => h.qs hq) (fun c M s A' B' h hq => h)
    (fun W1 hb => CT.start F1.out CH W1 hb) ?a1 ?assign ?body ?done ?stop
  case assign =>
    intro l x W K hK
    gi_wp2
    exact hK
  case body =>
    intro l M B1 pre x W hB hI hY
    have HI := Aside0.mk hI
    have HY := Aside0.mk hY
    obtain ⟨v, hbox, hOv⟩ := hI.box
    have hbc : W.cell? ⟨ob, 0, none⟩ = some v := by rw [blk_cell hbox]; rfl
    have hpl : pre.length ≤ CH.length := by have := HY.out.1; omega
    obtain ⟨ch, hch⟩ : ∃ ch, CH.getD pre.length [] = ch := ⟨_, rfl⟩
    have hcy := HY.out.2.2.2
    rw [hch] at hcy
    obtain ⟨R, hR⟩ : ∃ R, itsOf (CH.take pre.length) = R := ⟨_, rfl⟩
    have hRl : R.length ≤ CH.length := by rw [← hR]; simp [itsOf]; omega
    have HRE := Aside0.mk hR
    have HCE := Aside0.mk hch
    rw [hR] at hOv
    obtain ⟨va, vc, rfl, -, -⟩ := Kd.R_reads hOv
    have HOV := Aside0.mk hOv
    have HBX := Aside0.mk hbox
    have HBC := Aside0.mk hbc
    have HKW : Aside0 (Roots W) := ⟨(HK.out.below F4.out).fr2 HI.out.fr (by omega)⟩
    have HM2 := HI.out.m2
    obtain ⟨xa, xn, xc⟩ := x
    obtain rfl : xn = ch.length := hcy.n
    have HCR := Aside0.mk hcy.rd
    have HCB := Aside0.mk hcy.by_
    have hcl : ch.length ≤ 549755813888 := HLC.out ch (by rw [← hch, List.getD_eq_getElem?_getD, List.getElem?_eq_getElem HY.out.1]; exact List.getElem_mem _)
    clear hI hY hOv hbox hR hch hcy hbc
    dsimp only [encS]
    refine wpIn_block ?_
    refine seq_startR [7, 8] (.take 0 (.take 1 (.take 3 (.take 4 (.run 2 (.take 5 (.run 6 (.run 7 (.run 8 .done))))))))) (by kernel_rfl) (by kernel_rfl) (fun ⟨a, w, h⟩ => h) ?_
    refine seq_take (v := ?_) (a' := ?_) rfl rfl (by rfl) (fun w' hw' => ?_) ?_ ?_
    rotate_left 2
    · have hq := pw_cell_below hw' (show W.drew.cell? ⟨ob, 0, none⟩ = _ from HBC.out); go_simp
      with_reducible rfl
    · simp only [Act.put, List.setIfInBounds_toArray, List.set_cons_zero, List.set_cons_succ, Go.Proofs.YtdfahblgnbdndaaDoorW.PrintLast.i64_w, Go.Proofs.YtdfahblgnbdndaaDoorW.PrintLast.i32_w]
      rfl
    refine seq_take (v := ?_) (a' := ?_) rfl rfl (by rfl) (fun w' hw' => ?_) ?_ ?_
    rotate_left 2
    · go_simp
      with_reducible rfl
    · simp only [Act.put, List.setIfInBounds_toArray, List.set_cons_zero, List.set_cons_succ, Go.Proofs.YtdfahblgnbdndaaDoorW.PrintLast.i64_w, Go.Proofs.YtdfahblgnbdndaaDoorW.PrintLast.i32_w]
      rfl
    refine seq_take (v := ?_) (a' := ?_) rfl rfl (by rfl) (fun w' hw' => ?_) ?_ ?_
    rotate_left 2
    · go_simp
      with_reducible rfl
    · simp only [Act.put, List.setIfInBounds_toArray, List.set_cons_zero, List.set_cons_succ, Go.Proofs.YtdfahblgnbdndaaDoorW.PrintLast.i64_w, Go.Proofs.YtdfahblgnbdndaaDoorW.PrintLast.i32_w]
      rfl
    refine seq_take (v := ?_) (a' := ?_) rfl rfl (by rfl) (fun w' hw' => ?_) ?_ ?_
    rotate_left 2
    · go_simp
      with_reducible rfl
    · simp only [Act.put, List.setIfInBounds_toArray, List.set_cons_zero, List.set_cons_succ, Go.Proofs.YtdfahblgnbdndaaDoorW.PrintLast.i64_w, Go.Proofs.YtdfahblgnbdndaaDoorW.PrintLast.i32_w]
      rfl
    refine seq_run ?_
    refine do_call rfl rfl (by rfl) rfl Tryd.func37 (by kernel_rfl) rfl #[.slice xa ch.length xc] (by simp only [List.map_toArray, List.map_cons, List.map_nil]; rfl) ?_
    with_reducible refine (psum_calls xa ch.length xc ch W.drew (Kd.C_drew HCR.out) HCB.out (HKW.out.below (Below.drew (Below.refl _ _))) hcl).mono ?_
    rintro e w1 ⟨rfl, hB1⟩
    refine ⟨_, ?_, rfl, ?_, fun _ => hB1, ?_⟩
    rotate_left
    · simp only [Act.put, List.setIfInBounds_toArray, List.set_cons_zero, List.set_cons_succ, Go.Proofs.YtdfahblgnbdndaaDoorW.PrintLast.i64_w, Go.Proofs.YtdfahblgnbdndaaDoorW.PrintLast.i32_w]
      rfl
    have HB1 : Aside0 (Below W.heap.size W w1) := ⟨(Below.drew (Below.refl W.heap.size W)).trans hB1⟩
    clear hB1
    refine seq_take (v := _) (a' := ?_) rfl rfl (by rfl) (fun w' hw' => build_run 41 #[(0, .tmp 17), (1, .tmp 19)] rfl (built_it (shaL ch) (ch.length : Int) (shaL_len ch))) ?_ ?_
    rotate_left
    · simp only [Act.put, List.setIfInBounds_toArray, List.set_cons_zero, List.set_cons_succ, Go.Proofs.YtdfahblgnbdndaaDoorW.PrintLast.i64_w, Go.Proofs.YtdfahblgnbdndaaDoorW.PrintLast.i32_w]
      rfl
    refine seq_run ?_
    refine do_val (v := _) (a' := ?_) (w1 := _) rfl rfl (by rfl) (row1_exec #[(0, .tmp 20)] rfl Tryd.underlying27 infoI (icells (shaL ch, (ch.length : Int))) (icells_len (shaL_len ch)) (by decide) (by decide) rfl) ?_ ?_
    rotate_left
    · simp only [Act.put, List.setIfInBounds_toArray, List.set_cons_zero, List.set_cons_succ, Go.Proofs.YtdfahblgnbdndaaDoorW.PrintLast.i64_w, Go.Proofs.YtdfahblgnbdndaaDoorW.PrintLast.i32_w]
      rfl
    refine ⟨fun _ => below_alloc (Below.refl _ _) _, ?_⟩
    refine seq_run ?_
    refine do_appR KI (w0 := w1) (W := w1) M rfl rfl (by rfl) (.tmp 15) (.tmp 21) 27 41 zI 40 rfl Tryd.underlying27 infoI zI_size (by decide) (by decide) (.slice va R.length vc) R (shaL ch, (ch.length : Int)) (icells (shaL ch, (ch.length : Int))) rfl rfl ⟨shaL_len ch, rfl⟩ (Kd.R_below HOV.out HB1.out) (Below.refl _ _) (by have := HB1.out.size; omega) (by omega) ?_
    intro v2 w2 hO2 hB2 hG2 hAt2
    refine ⟨fun h => absurd (by simp) h, ?_⟩
    have hb2 : w2.heap[ob]? = some (.cells #[.slice va R.length vc] 27 (0, 0)) := (hG2.block ob (Array.getElem?_eq_some_iff.1 (Later.heap HB1.out HBX.out)).1 (Kd.R_ne HOV.out HBX.out (by decide))).trans (Later.heap HB1.out HBX.out)
    have hbc2 : w2.cell? ⟨ob, 0, none⟩ = some (.slice va R.length vc) := by rw [blk_cell hb2]; rfl
    have hbf2 : w2.frozen? ⟨ob, 0, none⟩ = false := blk_frozen hb2 0
    have HSN := Aside0.mk (HI.out.snoc HY.out hB hob HBX.out (by rw [HRE.out]; exact HOV.out) HB1.out (by rw [HRE.out, HCE.out]; exact hO2) hG2)
    obtain ⟨v2a, v2c, rfl, -, -⟩ := Kd.R_reads hO2
    clear hO2 hB2 hG2 hAt2 hb2
    refine seq_run ?_
    refine do_store (w1 := ?_) rfl rfl (by rfl) ?_ ?_
    rotate_left
    · go_simp
      rfl
    refine ⟨fun h => absurd (by simp) h, ?_⟩
    refine seq_endN ?_
    have h := HSN.out
    rw [show (R ++ [(shaL ch, (ch.length : Int))]).length = R.length + 1 by simp] at h
    exact h
  case done =>
    intro D M xs2 W hD hs hI hK
    obtain ⟨v, hbox, hOv⟩ := hI.box
    have hbc : W.cell? ⟨ob, 0, none⟩ = some v := by rw [blk_cell hbox]; rfl
    obtain ⟨R, hR⟩ : ∃ R, itsOf (CH.take xs2.length) = R := ⟨_, rfl⟩
    have HRE := Aside0.mk hR
    rw [hR] at hOv
    obtain ⟨va, vc, rfl, -, -⟩ := Kd.R_reads hOv
    have HOV := Aside0.mk hOv
    have HI := Aside0.mk hI
    have HK := Aside0.mk hK
    have HS := Aside0.mk hs
    clear hOv hI hbox hK hs hR
    have HFin : Aside0 (CT w4 ob CH M xs2 (W.putObj D (.deferred none))) := ⟨HI.out.qs (Qs.put FoC HK.out hD (.inl rfl))⟩
    go_wp2
    refine ⟨by simp, .inl ⟨_, _, rfl, run_takeDeferred HK.out, ?_⟩⟩
    refine ⟨_, results_tmp2 rfl _ _ _, ?_⟩
    exact CT.told HFin.out HS.out HK.out (by rw [HRE.out]; exact HOV.out) F4.out hobw
  case stop => intro D M cc pre W hD hs hx; exact hx.elim
set_option maxRecDepth 20000 in
theorem items_bad (a b c : Int) (A : Option Addr) (n cp : Nat) (w : World) (hm : mayB a b c = false) :
    Calls Tryd.prog 36 #[.slice A n cp, .agg #[.int .i64 a, .int .i64 b, .int .i64 c]] w fun e w' => e = .returned (.tuple #[.slice none 0 0, .int .i64 1]) ∧ Below w.heap.size w w' := by
  have HM := Aside0.mk hm
  clear hm
  go_enter Tryd.func36, Tryd.ntmps36
  go_wp2_with (go_at_call 40; refine (may_calls a b c _).mono ?_; rw [HM.out]; rintro e w1 ⟨rfl, hB1⟩; have HB1 : Aside0 (Below w.heap.size w w1) := ⟨Below.trans (below_alloc (Below.refl _ w) _) (hB1.mono (by simp))⟩; clear hB1)
  (try simp only [Exit.inBlock, Exit.then])
  exact bodyPost_ret (results_tmp2 rfl _ _ _) rfl ⟨rfl, HB1.out⟩

end Go.Proofs.YtdfahblgnbdndaaDoor
