/- Who collects. Conditions: what the iterator tells. -/
import Derived.Test.YtdbgbbodkoppdaaDoorCut6
namespace Go.Proofs.YtdbgbbodkoppdaaDoor
open Go.RowKit Go.Shelf Go.Proofs.YtdbgbbodkoppdaaDoorW.PrintWords Go.Proofs.YtdbgbbodkoppdaaDoorW.PrintMore
set_option linter.unusedVariables false
set_option linter.unusedSimpArgs false
attribute [local go_sem] Oper.semAt_some
/-- What an iterator of these bytes and numbers tells. -/
def Tells (a b c : Int) (A : Option Addr) (n cp : Nat) (xs : List Int) (CH : List (List Int)) : Prop :=
  ∀ (w : World) (pB bB : Nat), w.heap[pB]? = some (.cells #[.int .i64 a, .int .i64 b, .int .i64 c] 23 (0, 0)) → w.heap[bB]? = some (.cells #[.slice A n cp] 35 (0, 0)) → RdB w A n xs →
    SeqY FoC Fence.wide 9 Tryd.prog 29 #[.pointer (some ⟨pB, 0, none⟩), .pointer (some ⟨bB, 0, none⟩)] (fun x => #[encS x]) (Yc CH) (fun ys => ys.length = CH.length) (fun pre => pre.length ≤ CH.length) w
theorem tells_ok (a b c : Nat) (A : Option Addr) (n cp : Nat) (xs : List Int) (hby : Bytes xs) (hm : mayB a b c = true) (hn : n ≤ 1073741824) : Tells a b c A n cp xs (al a c (pw b) [] xs) :=
  fun w pB bB h1 h2 h3 => all1_seq a b c pB bB n cp A xs w h1 h2 h3 hby hm hn
theorem tells_bad (a b c : Int) (A : Option Addr) (n cp : Nat) (xs : List Int) (hm : mayB a b c = false) : Tells a b c A n cp xs [] :=
  fun w pB bB h1 h2 h3 l J Jx W hW hJ hY h0 => (all1_bad a b c pB bB w [] h1 hm l J Jx W hW hJ hY h0).mono fun e w' h => ⟨h.1, h.2.imp id fun ⟨pre, M, h1, h2⟩ => ⟨pre, M, Nat.le_of_eq h1, h2⟩⟩
/-- Chunks that were told. -/
def Told (base : Nat) (w : World) (CH : List (List Int)) (L : List (S3 × List Int)) : Prop := L.map (·.2) = CH ∧ ∀ p ∈ L, ChY base p.1 p.2 w
theorem Told.chR {base : Nat} {w : World} {CH : List (List Int)} {L : List (S3 × List Int)} (h : Told base w CH L) : ChR w L := fun p hp => by
  obtain ⟨h1, h2, h3, h4, h5, _⟩ := h.2 p hp
  exact ⟨h5, h1, h2, h3⟩
theorem func_nil (f : FuncId) (x y : Array Value) (w : World) : (binOp .eql 56 (.func (.func f) x y) .nilFunc).run Tryd.prog w = .ok (.bool false) w := by
  have hu : Tryd.prog.underlying 56 = some (.func #[86] #[] false) := by kernel_rfl
  have h : ∀ d : Nat, (Op.equalIn (d + 1) 56 (.func (.func f) x y) .nilFunc).run Tryd.prog w = .ok false w := fun d => by
    simp [Op.equalIn, run_underlying hu]
  simp only [binOp]
  simp [Op.equal, Op.maxDepth, h 9999]
theorem CI.told {w w4 W : World} {ob M D n : Nat} {CH : List (List Int)} {pre : List S3} {va : Option Addr} {vc : Nat} (h : CI w4 ob CH M pre (W.putObj D (.deferred none))) (hl : pre.length = CH.length) (_ : True) (_ : True) (hk : W.heap[D]? = some (.deferred (some []))) (hO : OwT W M (.slice va n vc) pre) (hB : Below w.heap.size w w4) (hob : w.heap.size ≤ ob) :
    ∃ v L, Ending.returned (.slice va n vc) = .returned v ∧ OwT (W.putObj D (.deferred none)) w.heap.size v (L.map (·.1)) ∧ Told w.heap.size (W.putObj D (.deferred none)) CH L ∧ Below w.heap.size w (W.putObj D (.deferred none)) := by
  obtain ⟨h1, h2, h3, h4, L, h6, h7, h8⟩ := h
  rw [hl, List.take_length] at h7
  refine ⟨_, L, rfl, ?_, ⟨h7, fun p hp => (h8 p hp).mono hB.size⟩, hB.trans (h3.below (fun k hk => by omega) hB.size)⟩
  rw [h6]
  exact Kd.R_lower (hO.move fun k cells _ hc => World.putObj_heap_other (fun e => by subst e; rw [hk] at hc; cases hc)) (Nat.le_trans hB.size h1)
theorem four_new (w : World) (c1 c2 c3 c4 : Array Value) (t1 t2 t3 t4 : Nat) :
    let w4 := (((w.alloc (.cells c1 t1)).alloc (.cells c2 t2)).alloc (.cells c3 t3)).alloc (.cells c4 t4)
    (w4.heap[w.heap.size + 1]? = some (.cells c2 t2 (0, 0))) ∧ (w4.heap[w.heap.size + 1 + 1]? = some (.cells c3 t3 (0, 0))) ∧ (w4.heap[w.heap.size + 1 + 1 + 1]? = some (.cells c4 t4 (0, 0))) ∧ Below w.heap.size w w4 ∧ w4.heap.size = w.heap.size + 4 := by
  have s1 : (w.alloc (.cells c1 t1)).heap.size = w.heap.size + 1 := by simp
  have s2 : ((w.alloc (.cells c1 t1)).alloc (.cells c2 t2)).heap.size = w.heap.size + 1 + 1 := by simp
  have s3 : (((w.alloc (.cells c1 t1)).alloc (.cells c2 t2)).alloc (.cells c3 t3)).heap.size = w.heap.size + 1 + 1 + 1 := by simp
  refine ⟨?_, ?_, ?_, ?_, by simp⟩
  · rw [Below.heap_alloc _ _ _ (by omega), Below.heap_alloc _ _ _ (by omega)]
    have := blk_new (w.alloc (.cells c1 t1)) (.cells c2 t2)
    rwa [s1] at this
  · rw [Below.heap_alloc _ _ _ (by omega)]
    have := blk_new ((w.alloc (.cells c1 t1)).alloc (.cells c2 t2)) (.cells c3 t3)
    rwa [s2] at this
  · have := blk_new (((w.alloc (.cells c1 t1)).alloc (.cells c2 t2)).alloc (.cells c3 t3)) (.cells c4 t4)
    rwa [s3] at this
  · exact ((((Below.refl _ w).alloc (Nat.le_refl _) _).alloc (by omega) _).alloc (by omega) _).alloc (by omega) _
set_option maxRecDepth 100000 in
set_option maxHeartbeats 3200000 in
theorem collect_calls (a b c : Int) (A : Option Addr) (n cp : Nat) (xs : List Int) (CH : List (List Int)) (w : World) (hT : Tells a b c A n cp xs CH) (hX : RdB w A n xs) (hn : CH.length ≤ 1099511627776) :
    Calls Tryd.prog 14 #[.slice A n cp, .agg #[.int .i64 a, .int .i64 b, .int .i64 c]] w fun e w' => ∃ v L, e = .returned v ∧ OwT w' w.heap.size v (L.map (·.1)) ∧ Told w.heap.size w' CH L ∧ Below w.heap.size w w' := by
  have hfn := func_nil 29
  have HT := Aside0.mk hT
  have HX := Aside0.mk hX
  clear hT hX
  refine calls_of_wp_m Tryd.func14 rfl ?_
  simp only [Tryd.ntmps14, List.size_toArray, List.length_cons, List.length_nil, Nat.reduceAdd, Nat.reduceSub, Array.replicate_succ, Array.replicate_zero, List.push_toArray, List.append_toArray, List.nil_append, List.cons_append]
  go_wp2_with (first
    | (go_at_call 22; refine (all_calls A n cp a b c _).mono ?_; rintro e w4 ⟨rfl, h4⟩; have H4 := Aside0.mk h4; clear h4)
    | fail)
  obtain ⟨F1, F2, F3, F4, F5⟩ : (w4.heap[w.heap.size + 1]? = some (.cells #[.slice none 0 0] 42 (0, 0))) ∧ (w4.heap[w.heap.size + 1 + 1]? = some (.cells #[.slice A n cp] 35 (0, 0))) ∧ (w4.heap[w.heap.size + 1 + 1 + 1]? = some (.cells #[.int .i64 a, .int .i64 b, .int .i64 c] 23 (0, 0))) ∧ Below w.heap.size w w4 ∧ w4.heap.size = w.heap.size + 4 := by
    rw [H4.out]
    exact four_new w _ _ _ _ _ _ _ _
  have F2 := Aside0.mk F2
  have F3 := Aside0.mk F3
  have F4 := Aside0.mk F4
  have F1 := Aside0.mk F1
  clear H4 hfn
  generalize w.heap.size + 1 + 1 + 1 = pB at *
  generalize w.heap.size + 1 + 1 = bB at *
  have hob : w.heap.size + 1 < w4.heap.size := by omega
  have hobw : w.heap.size ≤ w.heap.size + 1 := by omega
  generalize w.heap.size + 1 = ob at *
  refine (wpIn_wide (n := 10)).1 ?_
  refine wpIn_rangeFunc_Y FoC (F := Fence.wide) (n := 10) (gf := 29) (lb := #[.pointer (some ⟨pB, 0, none⟩), .pointer (some ⟨bB, 0, none⟩)]) (w0 := w4) rfl (by omega) rfl trivial (enters_of Tryd.func29 (by kernel_rfl) rfl)
    (HT.out w4 pB bB F3.out F2.out (Kd.C_below HX.out F4.out)) (fun o ho => .inl ho) (Below.refl _ _) (fun _ => rfl)
    (fun B M pre x A' C' hy hq => ⟨hy.1, hy.2.1, Nat.le_trans hy.2.2.1 hq.size, hy.2.2.2.qs hq⟩) (fun B M pre x A' hy => ⟨hy.2.1, hy.2.2.1⟩)
    (fun M pre W => CI w4 ob CH M pre W) (fun c M pre W => False) (fun M s A' B' h hq => h.qs hq) (fun c M s A' B' h hq => h)
    (fun W1 hb => CI.start F1.out CH W1 hb) ?a1 ?assign ?body ?done ?stop
  case assign =>
    intro l x W K hK
    gi_wp2
    exact hK
  case body =>
    intro l M B1 pre x W hB hI hY
    have HI := Aside0.mk hI
    have HY := Aside0.mk hY
    obtain ⟨v, hbox, hOv⟩ := hI.box
    have hbc : W.cell? ⟨ob, 0, none⟩ = some v := by rw [blk_cell hbox]; rfl
    obtain ⟨va, vc, rfl, -, -⟩ := Kd.R_reads hOv
    have HOV := Aside0.mk hOv
    have HBX := Aside0.mk hbox
    clear hI hY hOv hbox
    refine wpIn_block ?_
    refine region_in (fun ⟨a, w, h⟩ => h) (by kernel_rfl) ?_
    have hpl : pre.length ≤ CH.length := by have := HY.out.1; omega
    obtain ⟨xa, xn, xc⟩ := x
    dsimp only [encS]
    go_wp2_with (at_builtin; refine appT1 (w0 := W) M rfl (.tmp 15) (.tmp 17) rfl (.slice va pre.length vc) pre (xa, xn, xc) rfl rfl HOV.out (Below.refl _ _) HI.out.m2 (by omega) ?_; intro v2 w2 hO2 hB2 hG2 hAt2; have hsn := HI.out.snoc HY.out hB hob HBX.out HOV.out hO2 hG2; have HSN := Aside0.mk hsn; have hb2 : w2.heap[ob]? = some (.cells #[.slice va pre.length vc] 42 (0, 0)) := (hG2.block ob (Array.getElem?_eq_some_iff.1 HBX.out).1 (Kd.R_ne HOV.out HBX.out (by decide))).trans HBX.out; have hbc2 : w2.cell? ⟨ob, 0, none⟩ = some (.slice va pre.length vc) := (by rw [blk_cell hb2]; rfl); have hbf2 : w2.frozen? ⟨ob, 0, none⟩ = false := blk_frozen hb2 0; obtain ⟨v2a, v2c, rfl, -, -⟩ := Kd.R_reads hO2; clear hO2 hB2 hG2 hAt2 hsn hb2)
    have h := HSN.out
    rw [show (pre ++ [(xa, xn, xc)]).length = pre.length + 1 by simp] at h
    exact h
  case done =>
    intro D M xs2 W hD hs hI hK
    obtain ⟨v, hbox, hOv⟩ := hI.box
    have hbc : W.cell? ⟨ob, 0, none⟩ = some v := by rw [blk_cell hbox]; rfl
    obtain ⟨va, vc, rfl, -, -⟩ := Kd.R_reads hOv
    have HOV := Aside0.mk hOv
    have HI := Aside0.mk hI
    have HK := Aside0.mk hK
    clear hOv hI hbox hK
    have HFin : Aside0 (CI w4 ob CH M xs2 (W.putObj D (.deferred none))) := ⟨HI.out.qs (Qs.put FoC HK.out hD (.inl rfl))⟩
    go_wp2
    refine ⟨by simp, .inl ⟨_, _, rfl, run_takeDeferred HK.out, ?_⟩⟩
    refine ⟨_, results_tmp rfl _ _ _, ?_⟩
    exact CI.told HFin.out hs trivial trivial HK.out (hs ▸ HOV.out) F4.out hobw
  case stop => intro D M cc pre W hD hs hx; exact hx.elim
end Go.Proofs.YtdbgbbodkoppdaaDoor
