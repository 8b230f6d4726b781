/- The law CutStops: its walk. Conditions: what each argument reads. -/
import Derived.Test.YtdbgbbodkoppdaaCut11
namespace Go.Proofs.Ytdbgbbodkoppdaa
open Go.RowKit Go.Shelf Go.Proofs.YtdbgbbodkoppdaaW.PrintWords Go.Proofs.YtdbgbbodkoppdaaW.PrintMore
set_option linter.unusedVariables false
set_option linter.unusedSimpArgs false
attribute [local go_sem] Oper.semAt_some
theorem five_new (w : World) (c1 c2 c3 c4 c5 : Array Value) (t1 t2 t3 t4 t5 : Nat) :
    let w4 := ((((w.alloc (.cells c1 t1)).alloc (.cells c2 t2)).alloc (.cells c3 t3)).alloc (.cells c4 t4)).alloc (.cells c5 t5)
    (w4.heap[w.heap.size]? = some (.cells c1 t1 (0, 0))) ∧ (w4.heap[w.heap.size + 1]? = some (.cells c2 t2 (0, 0))) ∧ (w4.heap[w.heap.size + 1 + 1]? = some (.cells c3 t3 (0, 0))) ∧ (w4.heap[w.heap.size + 1 + 1 + 1]? = some (.cells c4 t4 (0, 0))) ∧ (w4.heap[w.heap.size + 1 + 1 + 1 + 1]? = some (.cells c5 t5 (0, 0))) ∧ Below w.heap.size w w4 ∧ w4.heap.size = w.heap.size + 5 := by
  obtain ⟨h1, h2, h3, h4, h5⟩ := four_new w c1 c2 c3 c4 t1 t2 t3 t4
  have h0 : ((((w.alloc (.cells c1 t1)).alloc (.cells c2 t2)).alloc (.cells c3 t3)).alloc (.cells c4 t4)).heap[w.heap.size]? = some (.cells c1 t1 (0, 0)) := by
    rw [Below.heap_alloc _ _ _ (by simp; omega), Below.heap_alloc _ _ _ (by simp; omega), Below.heap_alloc _ _ _ (by simp)]
    exact blk_new w (.cells c1 t1)
  refine ⟨?_, ?_, ?_, ?_, ?_, h4.alloc (by omega) _, by simp⟩
  · rw [Below.heap_alloc _ _ _ (by omega)]; exact h0
  · rw [Below.heap_alloc _ _ _ (by omega)]; exact h1
  · rw [Below.heap_alloc _ _ _ (by omega)]; exact h2
  · rw [Below.heap_alloc _ _ _ (by omega)]; exact h3
  · have := blk_new ((((w.alloc (.cells c1 t1)).alloc (.cells c2 t2)).alloc (.cells c3 t3)).alloc (.cells c4 t4)) (.cells c5 t5)
    rwa [h5] at this
set_option maxRecDepth 100000 in
set_option maxHeartbeats 3200000 in
theorem cutStops_walk (A : Option Addr) (n cp : Nat) (xb : List Int) (pa pb pc nn : Int) (w : World) (h : RdB w A n xb) (hc : n ≤ cp) (hb : Bytes xb) (ha0 : -9223372036854775808 ≤ pa) (ha1 : pa ≤ 9223372036854775807) (hb0 : -9223372036854775808 ≤ pb) (hb1 : pb ≤ 9223372036854775807) (hc0 : -9223372036854775808 ≤ pc) (hc1 : pc ≤ 9223372036854775807) (hn0 : -9223372036854775808 ≤ nn) (hn1 : nn ≤ 9223372036854775807) :
    Calls Try.prog 6 #[.slice A n cp, .agg #[.int .i64 pa, .int .i64 pb, .int .i64 pc], .int .i64 nn] w fun e w' => e = .returned (.bool true) ∧ Below w.heap.size w w' := by
  have hfn := func_nil 27
  have H := Aside0.mk h
  have HBY := Aside0.mk hb
  have hgc := fun (w : World) => good_calls pa pb pc w ha0 ha1 hb0 hb1 hc0 hc1
  obtain ⟨a0, b0, c0, ea, eb, ec, m1, m2, m3, m4, hm⟩ := good_nat pa pb pc
  simp only [ea, eb, ec] at hgc
  have HGC := Aside0.mk hgc
  have HM := Aside0.mk hm
  have hac := fun (w : World) => around_calls nn 7 w hn0 hn1 (by omega) (by omega)
  obtain ⟨hr0, hr1⟩ := around_range nn 7 (by omega)
  obtain ⟨kk, hkk⟩ := Int.eq_ofNat_of_zero_le hr0
  rw [hkk] at hr1
  simp only [hkk] at hac
  have HAC := Aside0.mk hac
  have hk7 : kk < 7 := by omega
  clear h hb hgc hm ea eb ec ha0 ha1 hb0 hb1 hc0 hc1 hac hr0 hr1 hkk hn0 hn1
  refine calls_of_wp_m Try.func6 rfl ?_
  simp only [Try.ntmps6, List.size_toArray, List.length_cons, List.length_nil, Nat.reduceAdd, Nat.reduceSub, Array.replicate_succ, Array.replicate_zero, List.push_toArray, List.append_toArray, List.nil_append, List.cons_append]
  go_wp2_with (first
    | (go_at_call 7; refine (few_new A n cp xb 100 _ (Kd.C_alloc H.out _) hc HBY.out (by omega) (by omega)).mono ?_; rintro e w1 ⟨BX, dX, X, rfl, -, hby, -, hd_X, hyl, R_X, hB⟩; have L1 : Aside0 (Below w.heap.size w w1) := ⟨Below.trans (below_alloc (Below.refl _ w) _) (hB.mono (by simp))⟩; have HBX := Aside0.mk (Later.heap hB (blk_new w (.cells #[.int .i64 pa, .int .i64 pb, .int .i64 pc] 24))); obtain ⟨q0, q1, q2⟩ := pm_cells HBX.out; have Y_X : Aside0 (Bytes X ∧ X.length ≤ 100) := ⟨hby, hyl⟩; have D_X := Aside0.mk hd_X; clear hB hby hd_X hyl)
    | (go_at_call 8; refine (HGC.out _).mono ?_; rintro e w2 ⟨rfl, hB⟩; have L2 : Aside0 (Below w.heap.size w w2) := ⟨L1.out.trans (hB.mono L1.out.size)⟩; have R_X2 := Aside0.mk (Kd.C_below R_X.out hB); clear hB q0 q1 q2)
    | (go_at_call 10; refine (HAC.out _).mono ?_; rintro e u0 ⟨rfl, rfl⟩)
    | (go_at_call 17; refine (all_calls BX X.length dX a0 b0 c0 _).mono ?_; rintro e w4 ⟨rfl, h4⟩; have H4 := Aside0.mk h4; clear h4)
    | fail)
  -- BEHIND
  obtain ⟨D0, D1, D2, D3, D4, D5, D6⟩ : (w4.heap[w2.heap.size]? = some (.cells #[.int .i64 (a0 : Int), .int .i64 (b0 : Int), .int .i64 (c0 : Int)] 24 (0, 0))) ∧ (w4.heap[w2.heap.size + 1]? = some (.cells #[.int .i64 (kk : Int)] 3 (0, 0))) ∧ (w4.heap[w2.heap.size + 1 + 1]? = some (.cells #[.slice none 0 0] 32 (0, 0))) ∧ (w4.heap[w2.heap.size + 1 + 1 + 1]? = some (.cells #[.slice BX X.length dX] 22 (0, 0))) ∧ (w4.heap[w2.heap.size + 1 + 1 + 1 + 1]? = some (.cells #[.int .i64 (a0 : Int), .int .i64 (b0 : Int), .int .i64 (c0 : Int)] 24 (0, 0))) ∧ Below w2.heap.size w2 w4 ∧ w4.heap.size = w2.heap.size + 5 := by
    rw [H4.out]
    exact five_new w2 _ _ _ _ _ _ _ _ _ _
  have F0 := Aside0.mk D0
  have FK := Aside0.mk D1
  have F1 := Aside0.mk D2
  have F2 := Aside0.mk D3
  have F3 := Aside0.mk D4
  have F4 : Aside0 (Below w.heap.size w w4) := ⟨L2.out.trans (D5.mono L2.out.size)⟩
  have R_X4 := Aside0.mk (Kd.C_below R_X2.out D5)
  have hob : w2.heap.size + 1 + 1 < w4.heap.size := by omega
  have hobw : w.heap.size ≤ w2.heap.size + 1 + 1 := by have := L2.out.size; omega
  have HXB : Aside0 (∀ ad : Addr, BX = some ad → 0 < X.length → ad.block < w2.heap.size) := ⟨fun ad he hp => by have h9 := R_X2.out; rw [he] at h9; exact rdB_lt h9 hp⟩
  have HCE0 : Aside0 ((al a0 c0 (pw b0) [] X).length ≤ 101) := ⟨by have := al_count (a := a0) (c := c0) (p := pw b0) (xs := X); have := Y_X.out.2; omega⟩
  have HTL := Aside0.mk (tells_ok a0 b0 c0 BX X.length dX X Y_X.out.1 HM.out (by have := Y_X.out.2; omega))
  obtain ⟨CH, hCH⟩ : ∃ CH, al a0 c0 (pw b0) [] X = CH := ⟨_, rfl⟩
  have HCE := Aside0.mk hCH
  rw [hCH] at HCE0 HTL
  have hCHl := HCE0.out
  obtain ⟨gB, hgB⟩ : ∃ gB, gB = w2.heap.size := ⟨_, rfl⟩
  obtain ⟨kB, hkB⟩ : ∃ kB, kB = w2.heap.size + 1 := ⟨_, rfl⟩
  obtain ⟨ob, hobE⟩ : ∃ ob, ob = w2.heap.size + 1 + 1 := ⟨_, rfl⟩
  obtain ⟨bB, hbB⟩ : ∃ bB, bB = w2.heap.size + 1 + 1 + 1 := ⟨_, rfl⟩
  obtain ⟨pB, hpB⟩ : ∃ pB, pB = w2.heap.size + 1 + 1 + 1 + 1 := ⟨_, rfl⟩
  rw [← hpB, ← hbB, ← hobE, ← hkB, ← hgB]
  rw [← hgB] at F0 HXB
  rw [← hkB] at FK
  rw [← hobE] at F1 hob hobw
  rw [← hbB] at F2
  rw [← hpB] at F3
  have ho1 : gB < kB ∧ kB < ob := by omega
  clear H4 hCH hfn D0 D1 D2 D3 D4 D5 D6 L1 L2 R_X R_X2 HBX hgB hkB hobE hbB hpB
  refine (wpIn_wide (n := 10)).1 ?_
  refine wpIn_rangeFunc_Y FoC (F := Fence.wide) (n := 10) (gf := 27) (lb := #[.pointer (some ⟨pB, 0, none⟩), .pointer (some ⟨bB, 0, none⟩)]) (w0 := w4) rfl (by omega) rfl trivial (enters_of Try.func27 (by kernel_rfl) rfl)
    (HTL.out w4 pB bB F3.out F2.out R_X4.out) (fun o ho => .inl ho) (Below.refl _ _) (fun _ => rfl)
    (fun B M pre x A' C' hy hq => ⟨hy.1, hy.2.1, Nat.le_trans hy.2.2.1 hq.size, hy.2.2.2.qs hq⟩) (fun B M pre x A' hy => ⟨hy.2.1, hy.2.2.1⟩)
    (fun M pre W => CI w4 ob CH M pre W ∧ pre.length ≤ kk) (fun c M pre W => c = .exit 0 ∧ ∃ ini last, pre = ini ++ [last] ∧ ini.length = kk ∧ CI w4 ob CH M ini W) (fun M s A' B' h hq => ⟨h.1.qs hq, h.2⟩)
    (fun c M s A' B' h hq => by
      obtain ⟨h1, ini, last, h2, h3, h4⟩ := h
      exact ⟨h1, ini, last, h2, h3, h4.qs hq⟩)
    (fun W1 hb => ⟨CI.start F1.out CH W1 hb, Nat.zero_le _⟩) ?a1 ?assign ?body ?done ?stop
  case assign =>
    intro l x W K hK
    gi_wp2
    exact hK
  case body =>
    rintro l M B1 pre x W hB ⟨hI, hpk⟩ hY
    have HI := Aside0.mk hI
    have HY := Aside0.mk hY
    obtain ⟨v, hbox, hOv⟩ := hI.box
    have hbc : W.cell? ⟨ob, 0, none⟩ = some v := by rw [blk_cell hbox]; rfl
    have hkc : W.cell? ⟨kB, 0, none⟩ = some (.int .i64 (kk : Int)) := by rw [blk_cell ((hI.fr.block kB (blk_lt FK.out) (by omega)).trans FK.out)]; rfl
    obtain ⟨va, vc, rfl, -, -⟩ := Kd.R_reads hOv
    have HOV := Aside0.mk hOv
    have HBX := Aside0.mk hbox
    clear hI hY hOv hbox
    have hpl : pre.length ≤ CH.length := by have := HY.out.1; omega
    obtain ⟨xa, xn, xc⟩ := x
    dsimp only [encS]
    refine wpIn_block ?_
    by_cases hst : pre.length = kk
    · have hstB : ((pre.length : Int) == (kk : Int)) = true := by rw [beq_iff_eq]; omega
      have HST := Aside0.mk hst
      clear hst
      gi_wp2
      exact ⟨Kb.refl _ _ _, rfl, pre, _, rfl, HST.out, HI.out⟩
    · have hstB : ((pre.length : Int) == (kk : Int)) = false := by rw [beq_eq_false_iff_ne]; omega
      have HST : Aside0 (pre.length + 1 ≤ kk) := ⟨by omega⟩
      clear hst
      gi_wp2_with (gi_at_builtin; refine wpList_in2 (fun ⟨a, w, h⟩ => h) (by kernel_rfl) ?_; refine appT1 (w0 := W) M rfl (.tmp 31) (.tmp 33) rfl (.slice va pre.length vc) pre (xa, xn, xc) rfl rfl HOV.out (Below.refl _ _) HI.out.m2 (by omega) ?_; intro v2 w2 hO2 hB2 hG2 hAt2; have hsn := HI.out.snoc HY.out hB hob HBX.out HOV.out hO2 hG2; have HSN := Aside0.mk hsn; have hb2 : w2.heap[ob]? = some (.cells #[.slice va pre.length vc] 32 (0, 0)) := (hG2.block ob (Array.getElem?_eq_some_iff.1 HBX.out).1 (Kd.R_ne HOV.out HBX.out (by decide))).trans HBX.out; have hbc2 : w2.cell? ⟨ob, 0, none⟩ = some (.slice va pre.length vc) := (by rw [blk_cell hb2]; rfl); have hbf2 : w2.frozen? ⟨ob, 0, none⟩ = false := blk_frozen hb2 0; obtain ⟨v2a, v2c, rfl, -, -⟩ := Kd.R_reads hO2; clear hO2 hB2 hG2 hAt2 hsn hb2)
      go_wp2
      have h := HSN.out
      rw [show (pre ++ [(xa, xn, xc)]).length = pre.length + 1 by simp] at h
      exact ⟨h.1, h.2, by rw [List.length_append]; exact HST.out⟩
  case done =>
    rintro D M pre W hD hs ⟨hI, hpk⟩ hK
    have HI := Aside0.mk hI
    have HK := Aside0.mk hK
    obtain ⟨r, hrl⟩ : ∃ r, pre.length = r := ⟨_, rfl⟩
    have hrk : r ≤ kk ∧ r = CH.length := by omega
    have hmin : min ((CH.length : Nat) : Int) (kk : Int) = (r : Int) := by omega
    have hrc : r ≤ CH.length := by omega
    clear hK hs hpk hrk
    obtain ⟨v, hbox, hOv⟩ := hI.box
    have hpd := HI.out.chs
    obtain ⟨L, hLf, hLs, hLc⟩ := hpd
    have hch : ChR W L := fun p hp => by
      obtain ⟨h1, h2, h3, h4, h5, _⟩ := hLc p hp
      exact ⟨h5, h1, h2, h3⟩
    have hbc : W.cell? ⟨ob, 0, none⟩ = some v := by rw [blk_cell hbox]; rfl
    obtain ⟨va, vc, rfl, -, hvr⟩ := Kd.R_reads hOv
    rw [← hLf] at hvr
    have hLl : L.length = r := by rw [← hrl, ← hLf, List.length_map]
    rw [List.length_map, hLl] at hvr
    rw [hrl] at hbc hLs
    have HCH := Aside0.mk hch
    have HVR := Aside0.mk hvr
    have HLS := Aside0.mk hLs
    have HBC := Aside0.mk hbc
    have GW : Aside0 (W.heap[gB]? = some (.cells #[.int .i64 (a0 : Int), .int .i64 (b0 : Int), .int .i64 (c0 : Int)] 24 (0, 0))) := ⟨(HI.out.fr.block gB (blk_lt F0.out) (by omega)).trans F0.out⟩
    have KW : Aside0 (W.cell? ⟨kB, 0, none⟩ = some (.int .i64 (kk : Int))) := ⟨by rw [blk_cell ((HI.out.fr.block kB (blk_lt FK.out) (by omega)).trans FK.out)]; rfl⟩
    have RW : Aside0 (RdB W BX X.length X) := ⟨HI.out.fr.rdB R_X4.out (fun ad he hp => by have := HXB.out ad he hp; omega)⟩
    have LW : Aside0 (Below w.heap.size w W) := ⟨F4.out.trans (HI.out.fr.below (fun k hk => by omega) F4.out.size)⟩
    have hsW := HI.out.m1
    have hsW2 := HI.out.m2
    clear hbox hOv hch hLf hLc hvr hLl hLs hbc hI HI
    obtain ⟨g0, g1, g2⟩ := pm_cells GW.out
    go_wp2_with (first
      | (go_at_call 14; (with_reducible refine at_cw W ?_); refine (pchunks_calls BX X.length dX a0 b0 c0 X W RW.out D_X.out Y_X.out.1 (by have := Y_X.out.2; omega) HM.out).mono ?_; rw [HCE.out]; rintro e w7 ⟨vo, L2, rfl, hO7, hC7, hE7, hB7⟩; obtain ⟨vE, ve, rfl, hve, hvr7⟩ := Kd.R_reads hO7; have hl2 : L2.length = CH.length := (by rw [← hE7, List.length_map]); rw [List.length_map, hl2] at hvr7 hve; have HVE := Aside0.mk (And.intro hvr7 hve); have HC7 := Aside0.mk hC7; have HE7 := Aside0.mk hE7; have L7 : Aside0 (Below W.heap.size W w7) := ⟨hB7⟩; rw [List.length_map, hl2]; clear hO7 hB7 hvr7 hve hC7 hE7 hl2 g0 g1 g2)
      | fail)
    obtain ⟨hcE, hrE⟩ := cutToS HVE.out.1 HVE.out.2 r (by omega)
    rw [← List.map_take] at hrE
    have HRE := Aside0.mk hrE
    have BC7 := Aside0.mk (pw_cell_below L7.out HBC.out)
    have KC7 := Aside0.mk (pw_cell_below L7.out KW.out)
    have EQ : Aside0 (L.map (·.2) = (L2.take r).map (·.2)) := ⟨by rw [HLS.out, List.map_take, HE7.out]⟩
    clear hrE
    refine seq_startN [] (.take 0 (.take 1 (.take 2 (.take 3 (.take 4 (.take 5 (.take 6 (.run 7 (.take 8 (.run 9 (.take 10 (.take 11 .done)))))))))))) (by kernel_rfl) (by kernel_rfl) ?_
    refine seq_take (v := ?_) (a' := ?_) rfl rfl (by rfl) (fun w' hw' => ?_) ?_ ?_
    rotate_left 2
    · have hq := pw_cell_below hw' (show w7.drew.cell? ⟨ob, 0, none⟩ = _ from BC7.out); go_simp
      with_reducible rfl
    · simp only [Act.put, List.setIfInBounds_toArray, List.set_cons_zero, List.set_cons_succ, Go.Proofs.YtdbgbbodkoppdaaW.PrintLast.i64_w, Go.Proofs.YtdbgbbodkoppdaaW.PrintLast.i32_w]
      rfl
    refine seq_take (v := ?_) (a' := ?_) rfl rfl (by rfl) (fun w' hw' => ?_) ?_ ?_
    rotate_left 2
    · go_simp
      with_reducible rfl
    · simp only [Act.put, List.setIfInBounds_toArray, List.set_cons_zero, List.set_cons_succ, Go.Proofs.YtdbgbbodkoppdaaW.PrintLast.i64_w, Go.Proofs.YtdbgbbodkoppdaaW.PrintLast.i32_w]
      rfl
    refine seq_take (v := ?_) (a' := ?_) rfl rfl (by rfl) (fun w' hw' => ?_) ?_ ?_
    rotate_left 2
    · go_simp
      with_reducible rfl
    · simp only [Act.put, List.setIfInBounds_toArray, List.set_cons_zero, List.set_cons_succ, Go.Proofs.YtdbgbbodkoppdaaW.PrintLast.i64_w, Go.Proofs.YtdbgbbodkoppdaaW.PrintLast.i32_w]
      rfl
    refine seq_take (v := ?_) (a' := ?_) rfl rfl (by rfl) (fun w' hw' => ?_) ?_ ?_
    rotate_left 2
    · go_simp
      with_reducible rfl
    · simp only [Act.put, List.setIfInBounds_toArray, List.set_cons_zero, List.set_cons_succ, Go.Proofs.YtdbgbbodkoppdaaW.PrintLast.i64_w, Go.Proofs.YtdbgbbodkoppdaaW.PrintLast.i32_w]
      rfl
    refine seq_take (v := ?_) (a' := ?_) rfl rfl (by rfl) (fun w' hw' => ?_) ?_ ?_
    rotate_left 2
    · have hq := pw_cell_below hw' (show w7.drew.cell? ⟨kB, 0, none⟩ = _ from KC7.out); go_simp
      with_reducible rfl
    · simp only [Act.put, List.setIfInBounds_toArray, List.set_cons_zero, List.set_cons_succ, Go.Proofs.YtdbgbbodkoppdaaW.PrintLast.i64_w, Go.Proofs.YtdbgbbodkoppdaaW.PrintLast.i32_w]
      rfl
    refine seq_take (v := ?_) (a' := ?_) rfl rfl (by rfl) (fun w' hw' => ?_) ?_ ?_
    rotate_left 2
    · go_simp
      with_reducible rfl
    · simp only [Act.put, List.setIfInBounds_toArray, List.set_cons_zero, List.set_cons_succ, Go.Proofs.YtdbgbbodkoppdaaW.PrintLast.i64_w, Go.Proofs.YtdbgbbodkoppdaaW.PrintLast.i32_w]
      rfl
    refine seq_take (v := ?_) (a' := ?_) rfl rfl (by rfl) (fun w' hw' => ?_) ?_ ?_
    rotate_left 2
    · go_simp
      with_reducible rfl
    · simp only [Act.put, List.setIfInBounds_toArray, List.set_cons_zero, List.set_cons_succ, Go.Proofs.YtdbgbbodkoppdaaW.PrintLast.i64_w, Go.Proofs.YtdbgbbodkoppdaaW.PrintLast.i32_w]
      rfl
    refine seq_run ?_
    refine do_call rfl rfl (by rfl) rfl Try.func13 (by kernel_rfl) rfl #[.slice va r vc, .slice vE r ve] (by simp only [List.map_toArray, List.map_cons, List.map_nil]; rfl) ?_
    with_reducible refine (same_calls va vE r r vc ve L (L2.take r) w7.drew (Kd.C_drew (Kd.C_below HVR.out L7.out)) (Kd.C_drew HRE.out) (HCH.out.below L7.out).drewC (HC7.out.take r).drewC EQ.out (by omega)).mono ?_
    rintro e w8 ⟨rfl, hB8⟩
    refine ⟨_, ?_, rfl, ?_, fun _ => hB8, ?_⟩
    rotate_left
    · simp only [Act.put, List.setIfInBounds_toArray, List.set_cons_zero, List.set_cons_succ, Go.Proofs.YtdbgbbodkoppdaaW.PrintLast.i64_w, Go.Proofs.YtdbgbbodkoppdaaW.PrintLast.i32_w]
      rfl
    have L8 : Aside0 (Below W.heap.size W w8) := ⟨L7.out.trans (Below.mono ((Below.drew (Below.refl w7.heap.size w7)).trans hB8) L7.out.size)⟩
    clear hB8
    refine seq_take (v := ?_) (a' := ?_) rfl rfl (by rfl) (fun w' hw' => ?_) ?_ ?_
    rotate_left 2
    · go_simp
      with_reducible rfl
    · simp only [Act.put, List.setIfInBounds_toArray, List.set_cons_zero, List.set_cons_succ, Go.Proofs.YtdbgbbodkoppdaaW.PrintLast.i64_w, Go.Proofs.YtdbgbbodkoppdaaW.PrintLast.i32_w]
      rfl
    refine seq_run ?_
    refine do_call rfl rfl (by rfl) rfl Try.func15 (by kernel_rfl) rfl #[] (by simp only [List.map_toArray, List.map_nil]) ?_
    with_reducible refine (lives_calls w8).mono ?_
    rintro e w9 ⟨rfl, hB9⟩
    refine ⟨_, ?_, rfl, ?_, fun _ => hB9, ?_⟩
    rotate_left
    · simp only [Act.put, List.setIfInBounds_toArray, List.set_cons_zero, List.set_cons_succ, Go.Proofs.YtdbgbbodkoppdaaW.PrintLast.i64_w, Go.Proofs.YtdbgbbodkoppdaaW.PrintLast.i32_w]
      rfl
    have L9 : Aside0 (Below W.heap.size W w9) := ⟨L8.out.trans (Below.mono hB9 L8.out.size)⟩
    clear hB9
    refine seq_take (v := ?_) (a' := ?_) rfl rfl (by rfl) (fun w' hw' => ?_) ?_ ?_
    rotate_left 2
    · go_simp
      with_reducible rfl
    · simp only [Act.put, List.setIfInBounds_toArray, List.set_cons_zero, List.set_cons_succ, Go.Proofs.YtdbgbbodkoppdaaW.PrintLast.i64_w, Go.Proofs.YtdbgbbodkoppdaaW.PrintLast.i32_w]
      rfl
    refine seq_take (v := ?_) (a' := ?_) rfl rfl (by rfl) (fun w' hw' => ?_) ?_ ?_
    rotate_left 2
    · go_simp
      with_reducible rfl
    · simp only [Act.put, List.setIfInBounds_toArray, List.set_cons_zero, List.set_cons_succ, Go.Proofs.YtdbgbbodkoppdaaW.PrintLast.i64_w, Go.Proofs.YtdbgbbodkoppdaaW.PrintLast.i32_w]
      rfl
    refine seq_endN ?_
    go_wp2
    have hK' : w9.heap[D]? = some (.deferred (some [])) := Later.heap L9.out HK.out
    refine ⟨by simp, .inl ⟨_, _, rfl, run_takeDeferred hK', ?_⟩⟩
    refine ⟨_, results_tmp rfl _ _ _, rfl, ?_⟩
    have h9 := below_tr LW.out L9.out LW.out.size
    exact h9.trans ((Qs.put FoC hK' hD (.inl rfl)).below (fun k hk => by have := hk.1; have := F4.out.size; omega) h9.size)
  case stop =>
    rintro D M cc pre0 W hD hs ⟨rfl, pre, last, rfl, hik, hI⟩ hK
    have HI := Aside0.mk hI
    have HK := Aside0.mk hK
    obtain ⟨r, hrl⟩ : ∃ r, pre.length = r := ⟨_, rfl⟩
    have hrk : r = kk ∧ r ≤ CH.length := by rw [List.length_append] at hs; simp at hs; omega
    have hmin : min ((CH.length : Nat) : Int) (kk : Int) = (r : Int) := by omega
    have hrc : r ≤ CH.length := by omega
    clear hK hs hik hrk
    obtain ⟨v, hbox, hOv⟩ := hI.box
    have hpd := HI.out.chs
    obtain ⟨L, hLf, hLs, hLc⟩ := hpd
    have hch : ChR W L := fun p hp => by
      obtain ⟨h1, h2, h3, h4, h5, _⟩ := hLc p hp
      exact ⟨h5, h1, h2, h3⟩
    have hbc : W.cell? ⟨ob, 0, none⟩ = some v := by rw [blk_cell hbox]; rfl
    obtain ⟨va, vc, rfl, -, hvr⟩ := Kd.R_reads hOv
    rw [← hLf] at hvr
    have hLl : L.length = r := by rw [← hrl, ← hLf, List.length_map]
    rw [List.length_map, hLl] at hvr
    rw [hrl] at hbc hLs
    have HCH := Aside0.mk hch
    have HVR := Aside0.mk hvr
    have HLS := Aside0.mk hLs
    have HBC := Aside0.mk hbc
    have GW : Aside0 (W.heap[gB]? = some (.cells #[.int .i64 (a0 : Int), .int .i64 (b0 : Int), .int .i64 (c0 : Int)] 24 (0, 0))) := ⟨(HI.out.fr.block gB (blk_lt F0.out) (by omega)).trans F0.out⟩
    have KW : Aside0 (W.cell? ⟨kB, 0, none⟩ = some (.int .i64 (kk : Int))) := ⟨by rw [blk_cell ((HI.out.fr.block kB (blk_lt FK.out) (by omega)).trans FK.out)]; rfl⟩
    have RW : Aside0 (RdB W BX X.length X) := ⟨HI.out.fr.rdB R_X4.out (fun ad he hp => by have := HXB.out ad he hp; omega)⟩
    have LW : Aside0 (Below w.heap.size w W) := ⟨F4.out.trans (HI.out.fr.below (fun k hk => by omega) F4.out.size)⟩
    have hsW := HI.out.m1
    have hsW2 := HI.out.m2
    clear hbox hOv hch hLf hLc hvr hLl hLs hbc hI HI
    obtain ⟨g0, g1, g2⟩ := pm_cells GW.out
    gi_wp2_with fail
    go_wp2_with (first
      | (go_at_call 14; (with_reducible refine at_cw W ?_); refine (pchunks_calls BX X.length dX a0 b0 c0 X W RW.out D_X.out Y_X.out.1 (by have := Y_X.out.2; omega) HM.out).mono ?_; rw [HCE.out]; rintro e w7 ⟨vo, L2, rfl, hO7, hC7, hE7, hB7⟩; obtain ⟨vE, ve, rfl, hve, hvr7⟩ := Kd.R_reads hO7; have hl2 : L2.length = CH.length := (by rw [← hE7, List.length_map]); rw [List.length_map, hl2] at hvr7 hve; have HVE := Aside0.mk (And.intro hvr7 hve); have HC7 := Aside0.mk hC7; have HE7 := Aside0.mk hE7; have L7 : Aside0 (Below W.heap.size W w7) := ⟨hB7⟩; rw [List.length_map, hl2]; clear hO7 hB7 hvr7 hve hC7 hE7 hl2 g0 g1 g2)
      | fail)
    obtain ⟨hcE, hrE⟩ := cutToS HVE.out.1 HVE.out.2 r (by omega)
    rw [← List.map_take] at hrE
    have HRE := Aside0.mk hrE
    have BC7 := Aside0.mk (pw_cell_below L7.out HBC.out)
    have KC7 := Aside0.mk (pw_cell_below L7.out KW.out)
    have EQ : Aside0 (L.map (·.2) = (L2.take r).map (·.2)) := ⟨by rw [HLS.out, List.map_take, HE7.out]⟩
    clear hrE
    refine seq_startN [] (.take 0 (.take 1 (.take 2 (.take 3 (.take 4 (.take 5 (.take 6 (.run 7 (.take 8 (.run 9 (.take 10 (.take 11 .done)))))))))))) (by kernel_rfl) (by kernel_rfl) ?_
    refine seq_take (v := ?_) (a' := ?_) rfl rfl (by rfl) (fun w' hw' => ?_) ?_ ?_
    rotate_left 2
    · have hq := pw_cell_below hw' (show w7.drew.cell? ⟨ob, 0, none⟩ = _ from BC7.out); go_simp
      with_reducible rfl
    · simp only [Act.put, List.setIfInBounds_toArray, List.set_cons_zero, List.set_cons_succ, Go.Proofs.YtdbgbbodkoppdaaW.PrintLast.i64_w, Go.Proofs.YtdbgbbodkoppdaaW.PrintLast.i32_w]
      rfl
    refine seq_take (v := ?_) (a' := ?_) rfl rfl (by rfl) (fun w' hw' => ?_) ?_ ?_
    rotate_left 2
    · go_simp
      with_reducible rfl
    · simp only [Act.put, List.setIfInBounds_toArray, List.set_cons_zero, List.set_cons_succ, Go.Proofs.YtdbgbbodkoppdaaW.PrintLast.i64_w, Go.Proofs.YtdbgbbodkoppdaaW.PrintLast.i32_w]
      rfl
    refine seq_take (v := ?_) (a' := ?_) rfl rfl (by rfl) (fun w' hw' => ?_) ?_ ?_
    rotate_left 2
    · go_simp
      with_reducible rfl
    · simp only [Act.put, List.setIfInBounds_toArray, List.set_cons_zero, List.set_cons_succ, Go.Proofs.YtdbgbbodkoppdaaW.PrintLast.i64_w, Go.Proofs.YtdbgbbodkoppdaaW.PrintLast.i32_w]
      rfl
    refine seq_take (v := ?_) (a' := ?_) rfl rfl (by rfl) (fun w' hw' => ?_) ?_ ?_
    rotate_left 2
    · go_simp
      with_reducible rfl
    · simp only [Act.put, List.setIfInBounds_toArray, List.set_cons_zero, List.set_cons_succ, Go.Proofs.YtdbgbbodkoppdaaW.PrintLast.i64_w, Go.Proofs.YtdbgbbodkoppdaaW.PrintLast.i32_w]
      rfl
    refine seq_take (v := ?_) (a' := ?_) rfl rfl (by rfl) (fun w' hw' => ?_) ?_ ?_
    rotate_left 2
    · have hq := pw_cell_below hw' (show w7.drew.cell? ⟨kB, 0, none⟩ = _ from KC7.out); go_simp
      with_reducible rfl
    · simp only [Act.put, List.setIfInBounds_toArray, List.set_cons_zero, List.set_cons_succ, Go.Proofs.YtdbgbbodkoppdaaW.PrintLast.i64_w, Go.Proofs.YtdbgbbodkoppdaaW.PrintLast.i32_w]
      rfl
    refine seq_take (v := ?_) (a' := ?_) rfl rfl (by rfl) (fun w' hw' => ?_) ?_ ?_
    rotate_left 2
    · go_simp
      with_reducible rfl
    · simp only [Act.put, List.setIfInBounds_toArray, List.set_cons_zero, List.set_cons_succ, Go.Proofs.YtdbgbbodkoppdaaW.PrintLast.i64_w, Go.Proofs.YtdbgbbodkoppdaaW.PrintLast.i32_w]
      rfl
    refine seq_take (v := ?_) (a' := ?_) rfl rfl (by rfl) (fun w' hw' => ?_) ?_ ?_
    rotate_left 2
    · go_simp
      with_reducible rfl
    · simp only [Act.put, List.setIfInBounds_toArray, List.set_cons_zero, List.set_cons_succ, Go.Proofs.YtdbgbbodkoppdaaW.PrintLast.i64_w, Go.Proofs.YtdbgbbodkoppdaaW.PrintLast.i32_w]
      rfl
    refine seq_run ?_
    refine do_call rfl rfl (by rfl) rfl Try.func13 (by kernel_rfl) rfl #[.slice va r vc, .slice vE r ve] (by simp only [List.map_toArray, List.map_cons, List.map_nil]; rfl) ?_
    with_reducible refine (same_calls va vE r r vc ve L (L2.take r) w7.drew (Kd.C_drew (Kd.C_below HVR.out L7.out)) (Kd.C_drew HRE.out) (HCH.out.below L7.out).drewC (HC7.out.take r).drewC EQ.out (by omega)).mono ?_
    rintro e w8 ⟨rfl, hB8⟩
    refine ⟨_, ?_, rfl, ?_, fun _ => hB8, ?_⟩
    rotate_left
    · simp only [Act.put, List.setIfInBounds_toArray, List.set_cons_zero, List.set_cons_succ, Go.Proofs.YtdbgbbodkoppdaaW.PrintLast.i64_w, Go.Proofs.YtdbgbbodkoppdaaW.PrintLast.i32_w]
      rfl
    have L8 : Aside0 (Below W.heap.size W w8) := ⟨L7.out.trans (Below.mono ((Below.drew (Below.refl w7.heap.size w7)).trans hB8) L7.out.size)⟩
    clear hB8
    refine seq_take (v := ?_) (a' := ?_) rfl rfl (by rfl) (fun w' hw' => ?_) ?_ ?_
    rotate_left 2
    · go_simp
      with_reducible rfl
    · simp only [Act.put, List.setIfInBounds_toArray, List.set_cons_zero, List.set_cons_succ, Go.Proofs.YtdbgbbodkoppdaaW.PrintLast.i64_w, Go.Proofs.YtdbgbbodkoppdaaW.PrintLast.i32_w]
      rfl
    refine seq_run ?_
    refine do_call rfl rfl (by rfl) rfl Try.func15 (by kernel_rfl) rfl #[] (by simp only [List.map_toArray, List.map_nil]) ?_
    with_reducible refine (lives_calls w8).mono ?_
    rintro e w9 ⟨rfl, hB9⟩
    refine ⟨_, ?_, rfl, ?_, fun _ => hB9, ?_⟩
    rotate_left
    · simp only [Act.put, List.setIfInBounds_toArray, List.set_cons_zero, List.set_cons_succ, Go.Proofs.YtdbgbbodkoppdaaW.PrintLast.i64_w, Go.Proofs.YtdbgbbodkoppdaaW.PrintLast.i32_w]
      rfl
    have L9 : Aside0 (Below W.heap.size W w9) := ⟨L8.out.trans (Below.mono hB9 L8.out.size)⟩
    clear hB9
    refine seq_take (v := ?_) (a' := ?_) rfl rfl (by rfl) (fun w' hw' => ?_) ?_ ?_
    rotate_left 2
    · go_simp
      with_reducible rfl
    · simp only [Act.put, List.setIfInBounds_toArray, List.set_cons_zero, List.set_cons_succ, Go.Proofs.YtdbgbbodkoppdaaW.PrintLast.i64_w, Go.Proofs.YtdbgbbodkoppdaaW.PrintLast.i32_w]
      rfl
    refine seq_take (v := ?_) (a' := ?_) rfl rfl (by rfl) (fun w' hw' => ?_) ?_ ?_
    rotate_left 2
    · go_simp
      with_reducible rfl
    · simp only [Act.put, List.setIfInBounds_toArray, List.set_cons_zero, List.set_cons_succ, Go.Proofs.YtdbgbbodkoppdaaW.PrintLast.i64_w, Go.Proofs.YtdbgbbodkoppdaaW.PrintLast.i32_w]
      rfl
    refine seq_endN ?_
    go_wp2
    have hK' : w9.heap[D]? = some (.deferred (some [])) := Later.heap L9.out HK.out
    refine ⟨by simp, .inl ⟨_, _, rfl, run_takeDeferred hK', ?_⟩⟩
    refine ⟨_, results_tmp rfl _ _ _, rfl, ?_⟩
    have h9 := below_tr LW.out L9.out LW.out.size
    exact h9.trans ((Qs.put FoC hK' hD (.inl rfl)).below (fun k hk => by have := hk.1; have := F4.out.size; omega) h9.size)
end Go.Proofs.Ytdbgbbodkoppdaa
