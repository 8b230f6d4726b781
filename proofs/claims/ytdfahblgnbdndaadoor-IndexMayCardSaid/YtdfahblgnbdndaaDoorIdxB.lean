/- The law IndexMay: its walk. Conditions: what its arguments read, and what sha's table of roots holds. -/
import Derived.Test.YtdfahblgnbdndaaDoorG12
import Derived.Test.YtdfahblgnbdndaaDoorG13
import Derived.Deep.CutBlock
import Derived.Deep.DeepCutAuto
namespace Go.Proofs.YtdfahblgnbdndaaDoor
open Go.RowKit Go.Shelf Go.Proofs.YtdfahblgnbdndaaDoorW.PrintWords Go.Proofs.YtdfahblgnbdndaaDoorW.PrintMore
set_option linter.unusedVariables false
set_option linter.unusedSimpArgs false
/-- One item's size is another one. -/
theorem itm_store {w : World} {base n cp : Nat} {ad : Addr} {its : List Itm} (h : OwI w base (.slice (some ad) n cp) its) {k : Nat} (hk : k < n) (s : Int) :
    ∃ g cur, ad = ⟨g, 0, none⟩ ∧ base ≤ g ∧ n = its.length ∧ w.heap[g]? = some (.cells cur 41 (0, 0)) ∧ (w.cell? ⟨g, k * 33 + 32, none⟩).isSome = true ∧ SetBlk w (w.setCell ⟨g, k * 33 + 32, none⟩ (.int .i64 s)) g (.cells (cur.setIfInBounds (k * 33 + 32) (.int .i64 s)) 41 (0, 0)) ∧
      RdI (w.setCell ⟨g, k * 33 + 32, none⟩ (.int .i64 s)) (some ⟨g, 0, none⟩) n (its.set k ((its.getD k ([], 0)).1, s)) := by
  obtain ⟨A, c, e, _, hr⟩ := Kd.R_reads h
  injection e with e1 e2 e3
  subst e1
  subst e2
  obtain ⟨inner, ho⟩ := Kd.R_own h
  rcases ho.2 with ⟨he, _⟩ | ⟨g, cap, cur, he, hb, hg, _⟩
  · injection he with he; cases he
  injection he with he _ _
  injection he with he
  subst he
  have hat := fun j (hj : j < its.length) => kf_at hr ([], 0) j hj
  have hsome : (w.cell? ⟨g, k * 33 + 32, none⟩).isSome = true := by
    obtain ⟨ad, e, h32, hc⟩ := hat k hk
    obtain rfl := Option.some.inj e
    have h1 := hc 32 (.int .i64 (its.getD k ([], 0)).2) (by rw [← List.getElem?_toArray]; exact it_last h32)
    rw [Addr.add_mid] at h1
    simp only [Nat.zero_add] at h1
    rw [h1]; rfl
  refine ⟨g, cur, rfl, hb, rfl, hg, hsome, setBlk_cell hg _, ?_⟩
  refine ⟨by rw [List.length_set], hr.2.1, fun hp => ⟨_, rfl, fun j p hj => ?_⟩⟩
  have hjl : j < its.length := by have := (List.getElem?_eq_some_iff.1 hj).1; rwa [List.length_set] at this
  obtain ⟨ad, e, h32, hc⟩ := hat j hjl
  obtain rfl := Option.some.inj e
  rw [List.getElem?_set] at hj
  by_cases hkj : k = j
  · subst hkj
    rw [if_pos rfl, if_pos hjl] at hj
    obtain rfl := Option.some.inj hj
    have h32' : ((its.getD k ([], 0)).1, s).1.length = 32 := h32
    refine ⟨icells ((its.getD k ([], 0)).1, s), icells_len h32', ⟨h32', rfl⟩, fun i u hu => ?_⟩
    have hi : i < 33 := by have := (List.getElem?_eq_some_iff.1 hu).1; rwa [icells_len h32'] at this
    change World.cell? _ (Addr.add ⟨g, 0, none⟩ (k * 33 + i)) = some u
    rw [Addr.add_mid, Nat.zero_add]
    rcases Nat.lt_or_ge i 32 with h3 | h3
    · rw [World.cell?_setCell_other _ _ _ _ (by intro e; injection e with _ e _; omega)]
      have hu' : (icells (its.getD k ([], 0)))[i]? = some u := by
        unfold icells at hu ⊢
        rw [List.getElem?_append_left (by rw [Nm_len, h32']; exact h3)] at hu
        rw [List.getElem?_append_left (by rw [Nm_len, h32]; exact h3)]
        exact hu
      have := hc i u hu'
      rwa [Addr.add_mid, Nat.zero_add] at this
    · obtain rfl : i = 32 := by omega
      rw [World.cell?_setCell_same' _ _ _ hsome]
      rw [← List.getElem?_toArray, it_last h32'] at hu
      exact hu
  · rw [if_neg hkj] at hj
    have hp : its.getD j ([], 0) = p := by rw [List.getD_eq_getElem?_getD, hj]; rfl
    rw [hp] at h32 hc
    refine ⟨icells p, icells_len h32, ⟨h32, rfl⟩, fun i u hu => ?_⟩
    have hi : i < 33 := by have := (List.getElem?_eq_some_iff.1 hu).1; rwa [icells_len h32] at this
    have h1 := hc i u hu
    change World.cell? _ (Addr.add ⟨g, 0, none⟩ (j * 33 + i)) = some u
    rw [Addr.add_mid, Nat.zero_add] at h1 ⊢
    rw [World.cell?_setCell_other _ _ _ _ (by intro e; injection e with _ e _; omega)]
    exact h1
/-- An index's cells that are read whole. -/
def XRow (W : World) (im : List Int) (cs : List Value) : Prop := ∃ (a b c : Int) (A : Option Addr) (n cp : Nat) (its : List Itm), cs = Xc a b c im (.slice A n cp) ∧ RdI W A n its ∧ n ≤ 8 ∧ ∀ x ∈ its, Bytes x.1
theorem XRow.below {W W' : World} {im : List Int} {cs : List Value} (h : XRow W im cs) (hb : Below W.heap.size W W') : XRow W' im cs := by
  obtain ⟨a, b, c, A, n, cp, its, e, h1, h2, h3⟩ := h
  exact ⟨a, b, c, A, n, cp, its, e, Kd.C_below h1 hb, h2, h3⟩
theorem rows3_at {w W : World} {g T : Nat} {fr : Nat × Nat} {im : List Int} (him : im.length = 32) {c0 c1 c2 : List Value} (h0 : XRow W im c0) (h1 : XRow W im c1) (h2 : XRow W im c2) (h : w.heap[g]? = some (.cells [c0, c1, c2].flatten.toArray T fr)) (k : Nat) (hk : k < 3) :
    ∃ cs, XRow W im cs ∧ w.rangeAt g (k * 36) cs := by
  have hl : ∀ cs, XRow W im cs → cs.length = 36 := fun cs ⟨a, b, c, A, n, cp, its, e, _⟩ => by rw [e]; exact Xc_len him
  have hv : ∀ v ∈ [c0, c1, c2], v.length = 36 := by
    intro v hv
    rcases List.mem_cons.1 hv with rfl | hv
    · exact hl _ h0
    rcases List.mem_cons.1 hv with rfl | hv
    · exact hl _ h1
    · rw [List.mem_singleton.1 hv]; exact hl _ h2
  match k, hk with
  | 0, _ => exact ⟨c0, h0, rows_range h hv rfl⟩
  | 1, _ => exact ⟨c1, h1, rows_range h hv rfl⟩
  | 2, _ => exact ⟨c2, h2, rows_range h hv rfl⟩
set_option maxRecDepth 20000 in
set_option maxHeartbeats 6400000 in
theorem indexMay_walk (pa pb pc wh nn : Int) (im : List Int) (A : Option Addr) (n cp : Nat) (its : List Itm) (w : World) (ha : Wf64 pa) (hb : Wf64 pb) (hc : Wf64 pc) (hwh : Wf64 wh) (hnn : Wf64 nn) (him : im.length = 32) (hib : Bytes im) (hr : RdI w A n its) (hcp : n ≤ cp) (hall : ∀ x ∈ its, Bytes x.1 ∧ Wf64 x.2) (hK : Roots w) :
    Calls Tryd.prog 4 #[.agg (Xc pa pb pc im (.slice A n cp)).toArray, .int .i64 wh, .int .i64 nn] w fun e w' => e = .returned (.bool true) ∧ Below w.heap.size w w' := by
  obtain ⟨a0, b0, c0, ea, eb, ec, _, _, _, hc70, hm⟩ := good_nat pa pb pc
  have HGD : Aside0 (∀ w : World, Calls Tryd.prog 23 #[.agg #[.int .i64 pa, .int .i64 pb, .int .i64 pc]] w fun e w' => e = .returned (.agg #[.int .i64 (a0 : Int), .int .i64 (b0 : Int), .int .i64 (c0 : Int)]) ∧ Below w.heap.size w w') := ⟨fun w => by
    have h := good_calls pa pb pc w ha.1 ha.2 hb.1 hb.2 hc.1 hc.2
    rwa [ea, eb, ec] at h⟩
  have HM := Aside0.mk hm
  have HX := Aside0.mk hr
  have HALL := Aside0.mk hall
  have HK := Aside0.mk hK
  have HIB := Aside0.mk hib
  have hGL := goodIts_len a0 c0 its
  have HGB : Aside0 (∀ x ∈ goodIts a0 c0 its, Bytes x.1) := ⟨fun x hx => by
    unfold goodIts at hx
    obtain ⟨y, hy, rfl⟩ := List.mem_map.1 hx
    exact (hall y (List.mem_of_mem_take hy)).1⟩
  have HTB : Aside0 (∀ x ∈ its.take 8, Bytes x.1) := ⟨fun x hx => (hall x (List.mem_of_mem_take hx)).1⟩
  have hTl : (its.take 8).length ≤ 8 := by rw [List.length_take]; omega
  obtain ⟨TK, hTK⟩ : ∃ TK, its.take 8 = TK := ⟨_, rfl⟩
  have HTK := Aside0.mk hTK
  rw [hTK] at HTB hTl
  clear hTK
  obtain ⟨hw0, hw1⟩ := hwh
  obtain ⟨hn0, hn1⟩ := hnn
  have hsm : ∀ x ∈ its, -9223372036854775808 ≤ x.2 ∧ x.2 ≤ 9223372036854775807 := fun x hx => (hall x hx).2
  have HSM := Aside0.mk hsm
  clear ha hb hc hr hall hK hm ea eb ec hib hsm
  obtain ⟨GI, hGI⟩ : ∃ GI, goodIts a0 c0 its = GI := ⟨_, rfl⟩
  have HGI := Aside0.mk hGI
  rw [hGI] at hGL HGB
  have hGL8 : GI.length ≤ 6 := by omega
  have HG8 : Aside0 (GI.take 8 = GI) := ⟨List.take_of_length_le (by omega)⟩
  clear hGI hGL
  go_enter Tryd.func4, Tryd.ntmps4
  go_upto_region 3 with (first
    | ((with_reducible refine at_ld 38 (.tmp 3) ?_); refine load_arm rfl 38 (.tmp 3) rfl rfl (ld_row (blk_new w _) 38 _ Tryd.underlying38 rfl (by rw [List.size_toArray]; exact size_RX him)) ?_; simp only [Act.put, List.setIfInBounds_toArray, List.set_cons_zero, List.set_cons_succ])
    | (go_at_call 14; refine (rgood_calls pa pb pc im A n cp its _ _ a0 b0 c0 rfl him (Kd.C_below HX.out (below_alloc (Below.refl _ w) _)) HGD.out HM.out hc70 HSM.out).mono ?_; rintro e w1 ⟨v, rfl, hO, hB⟩; rw [HGI.out] at hO; obtain ⟨A1, cp1, rfl, hcp1, hr1⟩ := Kd.R_reads hO; have HR1 := Aside0.mk hr1; have HB1 := Aside0.mk (below_tr (below_alloc (Below.refl _ w) _) hB (by simp)); have HBX := Aside0.mk (blk_below hB (blk_new w (.cells (Xc pa pb pc im (.slice A n cp)).toArray 38))); clear hO hB hr1)
    | ((with_reducible refine at_al 38 ?_); refine new_rx rfl rfl rfl rfl (.tmp 15) rfl (of_decide_eq_true rfl) rfl him rfl ?_; rintro w2 g2 HN); have HN2 := Aside0.mk HN; clear HN
    | ((with_reducible refine at_ld (w := w2) 38 (.tmp 7) ?_); refine load_arm rfl 38 (.tmp 7) rfl rfl (ld_row HN2.out.at_ 38 _ Tryd.underlying38 rfl (by rw [List.size_toArray]; exact size_RX him)) ?_; simp only [Act.put, List.setIfInBounds_toArray, List.set_cons_zero, List.set_cons_succ])
    | (go_at_call 15; refine (rfew_calls a0 b0 c0 im A1 GI.length cp1 GI _ w2 rfl him (Kd.C_below HR1.out HN2.out.below) hcp1).mono ?_; rintro e w3 ⟨v, rfl, hO, hB⟩; rw [HG8.out] at hO; obtain ⟨A3, cp3, rfl, hcp3, -⟩ := Kd.R_reads hO; have HO3 := Aside0.mk hO; have HB3 := Aside0.mk hB; clear hO hB)
    | ((with_reducible refine at_al 38 ?_); refine new_rx rfl rfl rfl rfl (.tmp 17) rfl (of_decide_eq_true rfl) rfl him rfl ?_; rintro w4 g4 HN); have HN4 := Aside0.mk HN; clear HN
    | fail)
  have B24 : Aside0 (Below w2.heap.size w2 w4) := ⟨below_tr HB3.out HN4.out.below HB3.out.size⟩
  have B1 : Aside0 (Below w.heap.size w w2) := ⟨below_tr HB1.out HN2.out.below HB1.out.size⟩
  have FX : Aside0 (w4.heap[w.heap.size]? = some (.cells (Xc pa pb pc im (.slice A n cp)).toArray 38 (0, 0))) := ⟨blk_below B24.out (blk_below HN2.out.below HBX.out)⟩
  have F2 : Aside0 (w4.heap[g2]? = some (.cells (Xc a0 b0 c0 im (.slice A1 GI.length cp1)).toArray 38 (0, 0))) := ⟨blk_below B24.out HN2.out.at_⟩
  have F4 := Aside0.mk HN4.out.at_
  have hg24 : g2 < w2.heap.size := HN2.out.lt
  have hg4 : w2.heap.size ≤ g4 := Nat.le_trans HB3.out.size HN4.out.ge
  have HO4 : Aside0 (OwI w4 w2.heap.size (.slice A3 GI.length cp3) GI) := ⟨Kd.R_below HO3.out HN4.out.below⟩
  have HR4 : Aside0 (RdI w4 A1 GI.length GI) := ⟨Kd.C_below HR1.out (HN2.out.below.trans (B24.out.mono HN2.out.below.size))⟩
  obtain ⟨q0, q1, q2, q3, _⟩ := x_cells HN4.out.at_ him
  have hf2 : w4.frozen? ⟨g4, 2, none⟩ = false := blk_frozen HN4.out.at_ 2

  clear hcp1 hcp3
  simp only [Act.put, List.setIfInBounds_toArray, List.set_cons_zero, List.set_cons_succ]
  go_cut [26] (fun p wx => wx = w4 ∧ p = .bool (decide (0 < GI.length ∧ Int.tmod nn 2 = 0)))
  case first =>
    by_cases hp1 : 0 < GI.length
    · have hp1I : (0 : Int) < (GI.length : Int) := by omega
      by_cases hp2 : Int.tmod nn 2 = 0
      · go_wp2
        go_meet
        case rel => exact ⟨rfl, by rw [decide_eq_true ⟨hp1, hp2⟩]⟩
      · have hp2B : (Int.tmod nn 2 == 0) = false := by simp [hp2]
        go_wp2
        go_meet
        case rel => exact ⟨rfl, by rw [decide_eq_false (fun h => hp2 h.2)]⟩
    · have hp1I : ¬ (0 : Int) < (GI.length : Int) := by omega
      go_wp2
      go_meet
      case rel => exact ⟨rfl, by rw [decide_eq_false (fun h => hp1 h.1)]⟩
  case rest =>
  obtain ⟨ew, rfl⟩ := hcut
  subst wc
  go_upto_if 26 with fail
  go_cut [8] (fun p wx => p = .pointer (some ⟨g4, 0, none⟩) ∧ ∃ (c1 : Int) (A1 : Option Addr) (n1 cp1 : Nat) (its1 : List Itm), wx.heap[g4]? = some (.cells (Xc a0 b0 c1 im (.slice A1 n1 cp1)).toArray 38 (0, 0)) ∧ RdI wx A1 n1 its1 ∧ n1 ≤ 8 ∧ (∀ x ∈ its1, Bytes x.1) ∧ Below w2.heap.size w4 wx)
  case first =>
    have htd0 : -9223372036854775808 ≤ Int.tdiv nn 2 ∧ Int.tdiv nn 2 ≤ 9223372036854775807 := by
      rcases Int.le_total 0 nn with h | h
      · rw [Int.tdiv_eq_ediv_of_nonneg h]; omega
      · rw [← Int.neg_neg nn, Int.neg_tdiv, Int.tdiv_eq_ediv_of_nonneg (by omega)]; omega
    by_cases hpos : 0 < GI.length ∧ Int.tmod nn 2 = 0
    · rw [decide_eq_true hpos]
      obtain ⟨hp1, hp2⟩ := hpos
      have HAC := Aside0.mk (fun (w : World) => around_calls wh (GI.length : Int) w hw0 hw1 (by omega) (by omega))
      obtain ⟨hr0, hr1⟩ := around_range wh (GI.length : Int) (by omega)
      obtain ⟨kk, hkk⟩ := Int.eq_ofNat_of_zero_le hr0
      rw [hkk] at HAC hr1
      obtain ⟨td, htd⟩ : ∃ td, td = Int.tdiv nn 2 := ⟨_, rfl⟩
      have HWR : Aside0 (IntKind.i64.wrap (Int.tdiv nn 2) = td) := ⟨by rw [IntKind.wrap_i64, htd]; omega⟩
      have HO4D : OwI w4.drew w2.heap.size (.slice A3 GI.length cp3) GI := Kd.R_below HO4.out (Below.drew (Below.refl _ _))
      obtain ⟨ad, rfl⟩ : ∃ ad, A3 = some ad := by
        obtain ⟨_, _, e, _, hr⟩ := Kd.R_reads HO4D
        injection e with e
        rw [e]
        exact kf_some hr hp1
      have hkl : kk < GI.length := by omega
      obtain ⟨g, cur, rfl, hge, -, hgc, hsome, hS, hR⟩ := itm_store HO4D hkl td
      have HS5 := Aside0.mk hS
      have HR5 := Aside0.mk hR
      obtain ⟨u0, hu0⟩ : ∃ u0, w4.cell? ⟨g, kk * 33 + 32, none⟩ = some u0 := Option.isSome_iff_exists.1 hsome
      have hfz : w4.drew.frozen? ⟨g, kk * 33 + 32, none⟩ = false := blk_frozen hgc _
      have HQ : Aside0 (∀ W, Later w4.drew W → W.cell? ⟨g4, 35, none⟩ = some (.slice (some ⟨g, 0, none⟩) GI.length cp3)) := ⟨fun W hW => (x_cells (Later.heap hW (show w4.drew.heap[g4]? = _ from F4.out)) him).2.2.2.1⟩
      have hgg : g ≠ g4 := fun e => by
        have h1 : w4.drew.heap[g4]? = _ := F4.out
        rw [← e, hgc] at h1
        injection h1 with h1
        injection h1 with _ h1
        exact absurd h1 (by decide)
      have F45 : Aside0 ((w4.drew.setCell ⟨g, kk * 33 + 32, none⟩ (.int .i64 td)).heap[g4]? = some (.cells (Xc a0 b0 c0 im (.slice (some ⟨g, 0, none⟩) GI.length cp3)).toArray 38 (0, 0))) := ⟨hS.blk (Ne.symm hgg) F4.out⟩
      have hkI : (kk : Int) < (GI.length : Int) := by omega
      have HB5 : Aside0 (Below w2.heap.size w4 (w4.drew.setCell ⟨g, kk * 33 + 32, none⟩ (.int .i64 td))) := ⟨(Below.drew (Below.refl _ _)).trans (hS.below hge)⟩
      have HNB5 : Aside0 (∀ x ∈ GI.set kk ((GI.getD kk ([], 0)).1, td), Bytes x.1) := ⟨fun x hx => by
        rcases List.mem_or_eq_of_mem_set hx with h | rfl
        · exact HGB.out x h
        · exact HGB.out (GI.getD kk ([], 0)) (by rw [List.getD_eq_getElem?_getD, List.getElem?_eq_getElem hkl]; exact List.getElem_mem _)⟩
      clear hS hR HO4D hgc
      go_upto_region 4 with fail
      clear q0 q1 q2 q3 hf2 hr0 hkk htd0 htd
      refine seq_startN [11] (.take 0 (.take 1 (.take 2 (.take 3 (.take 4 (.take 5 (.take 6 (.take 7 (.take 8 (.take 9 (.take 10 (.run 11 .done)))))))))))) (by kernel_rfl) (by kernel_rfl) ?_
      refine seq_take (v := ?_) (a' := ?_) rfl rfl (by rfl) (fun w' hw' => ?_) ?_ ?_
      rotate_left 2
      · go_simp
        with_reducible rfl
      · simp only [Act.put, List.setIfInBounds_toArray, List.set_cons_zero, List.set_cons_succ, Go.Proofs.YtdfahblgnbdndaaDoorW.PrintLast.i64_w, Go.Proofs.YtdfahblgnbdndaaDoorW.PrintLast.i32_w]
        rfl
      refine seq_take (v := ?_) (a' := ?_) rfl rfl (by rfl) (fun w' hw' => ?_) ?_ ?_
      rotate_left 2
      · have r3 := HQ.out w' hw'; go_simp
        with_reducible rfl
      · simp only [Act.put, List.setIfInBounds_toArray, List.set_cons_zero, List.set_cons_succ, Go.Proofs.YtdfahblgnbdndaaDoorW.PrintLast.i64_w, Go.Proofs.YtdfahblgnbdndaaDoorW.PrintLast.i32_w]
        rfl
      refine seq_take (v := ?_) (a' := ?_) rfl rfl (by rfl) (fun w' hw' => ?_) ?_ ?_
      rotate_left 2
      · go_simp
        with_reducible rfl
      · simp only [Act.put, List.setIfInBounds_toArray, List.set_cons_zero, List.set_cons_succ, Go.Proofs.YtdfahblgnbdndaaDoorW.PrintLast.i64_w, Go.Proofs.YtdfahblgnbdndaaDoorW.PrintLast.i32_w]
        rfl
      refine seq_take (v := ?_) (a' := ?_) rfl rfl (by rfl) (fun w' hw' => ?_) ?_ ?_
      rotate_left 2
      · go_simp
        with_reducible rfl
      · simp only [Act.put, List.setIfInBounds_toArray, List.set_cons_zero, List.set_cons_succ, Go.Proofs.YtdfahblgnbdndaaDoorW.PrintLast.i64_w, Go.Proofs.YtdfahblgnbdndaaDoorW.PrintLast.i32_w]
        rfl
      refine seq_take (v := ?_) (a' := ?_) rfl rfl (by rfl) (fun w' hw' => ?_) ?_ ?_
      rotate_left 2
      · have r3 := HQ.out w' hw'; go_simp
        with_reducible rfl
      · simp only [Act.put, List.setIfInBounds_toArray, List.set_cons_zero, List.set_cons_succ, Go.Proofs.YtdfahblgnbdndaaDoorW.PrintLast.i64_w, Go.Proofs.YtdfahblgnbdndaaDoorW.PrintLast.i32_w]
        rfl
      refine seq_take (v := ?_) (a' := ?_) rfl rfl (by rfl) (fun w' hw' => ?_) ?_ ?_
      rotate_left 2
      · go_simp
        with_reducible rfl
      · simp only [Act.put, List.setIfInBounds_toArray, List.set_cons_zero, List.set_cons_succ, Go.Proofs.YtdfahblgnbdndaaDoorW.PrintLast.i64_w, Go.Proofs.YtdfahblgnbdndaaDoorW.PrintLast.i32_w]
        rfl
      refine seq_quiet (v := ?_) (a' := ?_) rfl rfl (by rfl) rfl Tryd.func10 (by kernel_rfl) rfl #[.int .i64 wh, .int .i64 (GI.length : Int)] (by simp only [List.map_toArray, List.map_cons, List.map_nil]; rfl) (fun w' hw' => ?_) ?_ ?_
      rotate_left 2
      · with_reducible exact HAC.out w'
      · simp only [Act.put, List.setIfInBounds_toArray, List.set_cons_zero, List.set_cons_succ, Go.Proofs.YtdfahblgnbdndaaDoorW.PrintLast.i64_w, Go.Proofs.YtdfahblgnbdndaaDoorW.PrintLast.i32_w]
        rfl
      refine seq_take (v := ?_) (a' := ?_) rfl rfl (by rfl) (fun w' hw' => ?_) ?_ ?_
      rotate_left 2
      · go_simp
        with_reducible rfl
      · simp only [Act.put, List.setIfInBounds_toArray, List.set_cons_zero, List.set_cons_succ, Go.Proofs.YtdfahblgnbdndaaDoorW.PrintLast.i64_w, Go.Proofs.YtdfahblgnbdndaaDoorW.PrintLast.i32_w]
        rfl
      refine seq_take (v := ?_) (a' := ?_) rfl rfl (by rfl) (fun w' hw' => ?_) ?_ ?_
      rotate_left 2
      · have hwr := HWR.out; go_simp
        with_reducible rfl
      · simp only [Act.put, List.setIfInBounds_toArray, List.set_cons_zero, List.set_cons_succ, Go.Proofs.YtdfahblgnbdndaaDoorW.PrintLast.i64_w, Go.Proofs.YtdfahblgnbdndaaDoorW.PrintLast.i32_w]
        rfl
      refine seq_take (v := ?_) (a' := ?_) rfl rfl (by rfl) (fun w' hw' => ?_) ?_ ?_
      rotate_left 2
      · go_simp
        with_reducible rfl
      · simp only [Act.put, List.setIfInBounds_toArray, List.set_cons_zero, List.set_cons_succ, Go.Proofs.YtdfahblgnbdndaaDoorW.PrintLast.i64_w, Go.Proofs.YtdfahblgnbdndaaDoorW.PrintLast.i32_w]
        rfl
      refine seq_take (v := ?_) (a' := ?_) rfl rfl (by rfl) (fun w' hw' => ?_) ?_ ?_
      rotate_left 2
      · go_simp
        with_reducible rfl
      · simp only [Act.put, List.setIfInBounds_toArray, List.set_cons_zero, List.set_cons_succ, Go.Proofs.YtdfahblgnbdndaaDoorW.PrintLast.i64_w, Go.Proofs.YtdfahblgnbdndaaDoorW.PrintLast.i32_w]
        rfl
      refine seq_run ?_
      refine do_store (w1 := ?_) rfl rfl (by rfl) ?_ ?_
      rotate_left
      · go_simp
        rfl
      refine ⟨fun h => absurd (by simp) h, ?_⟩
      refine seq_endN ?_
      go_wp2
      go_meet
      case rel => exact ⟨rfl, (c0 : Int), _, _, cp3, _, F45.out, HR5.out, by omega, HNB5.out, HB5.out⟩
    · rw [decide_eq_false hpos]
      obtain ⟨td, htd⟩ : ∃ td, td = Int.tdiv nn 2 := ⟨_, rfl⟩
      have HWR : Int.tdiv nn 2 = td := htd.symm
      have HS : Aside0 (SetBlk w4 (w4.setCell ⟨g4, 2, none⟩ (.int .i64 td)) g4 (.cells (Xc a0 b0 td im (.slice A3 GI.length cp3)).toArray 38 (0, 0))) := ⟨by have h := setBlk_cell (i := 2) F4.out (.int .i64 td); rwa [Xc_set2] at h⟩
      have HR5 : Aside0 (RdI (w4.setCell ⟨g4, 2, none⟩ (.int .i64 td)) A3 GI.length GI) := ⟨by
        have h := kf_move HO4.out fun q cells hq hc => HS.out.else_ q (fun e => by
          subst e
          rw [F4.out] at hc
          injection hc with hc
          injection hc with _ hc
          exact absurd hc (by decide))
        obtain ⟨_, _, e, _, hr⟩ := Kd.R_reads h
        injection e with e _ _
        rw [e]; exact hr⟩
      have HB5 : Aside0 (Below w2.heap.size w4 (w4.setCell ⟨g4, 2, none⟩ (.int .i64 td))) := ⟨HS.out.below hg4⟩
      clear htd
      go_wp2
      go_meet
      case rel => exact ⟨rfl, td, A3, _, cp3, GI, HS.out.at_, HR5.out, by omega, HGB.out, HB5.out⟩
  case rest =>
  obtain ⟨rfl, c1, A5, n5, cp5, its5, hx5, hr5, hn5, hby5, hB5⟩ := hcut
  have BC : Aside0 (Below w2.heap.size w2 wc) := ⟨B24.out.trans hB5⟩
  have HBC := BC.out
  have FXc : Aside0 (wc.heap[w.heap.size]? = some (.cells (Xc pa pb pc im (.slice A n cp)).toArray 38 (0, 0))) := ⟨blk_below HBC (blk_below HN2.out.below HBX.out)⟩
  have F2c : Aside0 (wc.heap[g2]? = some (.cells (Xc a0 b0 c0 im (.slice A1 GI.length cp1)).toArray 38 (0, 0))) := ⟨blk_below HBC HN2.out.at_⟩
  have F4c := Aside0.mk hx5
  have HRG : Aside0 (RdI wc A1 GI.length GI) := ⟨Kd.C_below HR1.out (HN2.out.below.trans (HBC.mono HN2.out.below.size))⟩
  have BWC : Aside0 (Below w.heap.size w wc) := ⟨B1.out.trans (HBC.mono B1.out.size)⟩
  have HRX : Aside0 (RdI wc A n its) := ⟨Kd.C_below HX.out BWC.out⟩
  have HR5 := Aside0.mk hr5
  have HBY5 := Aside0.mk hby5
  obtain ⟨it, hi, hz, hs, _⟩ := info_parts infoRX
  clear q0 q1 q2 q3 hf2 hx5 hr5 hby5 hB5 HBC F4 F2 FX HBX HR4 HO4 HO3 HB1 HB3 B24 BC HN2 HN4
  go_upto_region 6 with fail
  refine seq_startN [] (.take 0 (.take 2 (.take 3 (.run 1 (.run 4 (.take 5 .done)))))) (by kernel_rfl) (by kernel_rfl) ?_
  refine seq_take (v := _) (a' := ?_) rfl rfl (by rfl) (fun w' hw' => load_run rfl (p := .pointer (some ⟨w.heap.size, 0, none⟩)) rfl (ld_row (hw'.heap (w := wc.drew) FXc.out) 38 _ Tryd.underlying38 rfl (by rw [List.size_toArray]; exact size_RX him))) ?_ ?_
  rotate_left
  · simp only [Act.put, List.setIfInBounds_toArray, List.set_cons_zero, List.set_cons_succ, Go.Proofs.YtdfahblgnbdndaaDoorW.PrintLast.i64_w, Go.Proofs.YtdfahblgnbdndaaDoorW.PrintLast.i32_w]
    rfl
  refine seq_take (v := _) (a' := ?_) rfl rfl (by rfl) (fun w' hw' => load_run rfl (p := .pointer (some ⟨g2, 0, none⟩)) rfl (ld_row (hw'.heap (w := wc.drew) F2c.out) 38 _ Tryd.underlying38 rfl (by rw [List.size_toArray]; exact size_RX him))) ?_ ?_
  rotate_left
  · simp only [Act.put, List.setIfInBounds_toArray, List.set_cons_zero, List.set_cons_succ, Go.Proofs.YtdfahblgnbdndaaDoorW.PrintLast.i64_w, Go.Proofs.YtdfahblgnbdndaaDoorW.PrintLast.i32_w]
    rfl
  refine seq_take (v := _) (a' := ?_) rfl rfl (by rfl) (fun w' hw' => load_run rfl (p := .pointer (some ⟨g4, 0, none⟩)) rfl (ld_row (hw'.heap (w := wc.drew) F4c.out) 38 _ Tryd.underlying38 rfl (by rw [List.size_toArray]; exact size_RX him))) ?_ ?_
  rotate_left
  · simp only [Act.put, List.setIfInBounds_toArray, List.set_cons_zero, List.set_cons_succ, Go.Proofs.YtdfahblgnbdndaaDoorW.PrintLast.i64_w, Go.Proofs.YtdfahblgnbdndaaDoorW.PrintLast.i32_w]
    rfl
  refine seq_run ?_
  refine do_call rfl rfl (by rfl) rfl Tryd.func15 (by kernel_rfl) rfl #[.agg (Xc pa pb pc im (.slice A n cp)).toArray] (by simp only [List.map_toArray, List.map_cons, List.map_nil]; rfl) ?_
  with_reducible refine (rfew_calls pa pb pc im A n cp its _ _ rfl him (Kd.C_drew HRX.out) hcp).mono ?_
  rintro e w6 ⟨v, rfl, hO6, hB6⟩
  refine ⟨_, ?_, rfl, ?_, fun _ => hB6, ?_⟩
  rotate_left
  · simp only [Act.put, List.setIfInBounds_toArray, List.set_cons_zero, List.set_cons_succ, Go.Proofs.YtdfahblgnbdndaaDoorW.PrintLast.i64_w, Go.Proofs.YtdfahblgnbdndaaDoorW.PrintLast.i32_w]
    rfl
  rw [HTK.out] at hO6
  obtain ⟨A6, cp6, rfl, hcp6, hr6⟩ := Kd.R_reads hO6
  have hXL : ∀ cs ∈ [Xc pa pb pc im (.slice A6 TK.length cp6), Xc a0 b0 c0 im (.slice A1 GI.length cp1), Xc a0 b0 c1 im (.slice A5 n5 cp5)], cs.length = 36 := by
    intro cs hcs
    simp only [List.mem_cons, List.not_mem_nil, or_false] at hcs
    rcases hcs with rfl | rfl | rfl <;> exact Xc_len him
  refine seq_run ?_
  refine do_val (v := _) (a' := ?_) (w1 := _) rfl rfl (by rfl) (rows_exec 3 _ rfl Tryd.underlying42 hi hz hs [Xc pa pb pc im (.slice A6 TK.length cp6), Xc a0 b0 c0 im (.slice A1 GI.length cp1), Xc a0 b0 c1 im (.slice A5 n5 cp5)] hXL (show 3 * 36 ≤ 2 ^ 24 by decide) (show 3 * 36 ≠ 0 by decide) rfl rfl) ?_ ?_
  rotate_left
  · simp only [Act.put, List.setIfInBounds_toArray, List.set_cons_zero, List.set_cons_succ, Go.Proofs.YtdfahblgnbdndaaDoorW.PrintLast.i64_w, Go.Proofs.YtdfahblgnbdndaaDoorW.PrintLast.i32_w]
    rfl
  refine ⟨fun _ => below_alloc (Below.refl _ _) _, ?_⟩
  refine seq_take (v := ?_) (a' := ?_) rfl rfl (by rfl) (fun w' hw' => ?_) ?_ ?_
  rotate_left 2
  · go_simp
    with_reducible rfl
  · simp only [Act.put, List.setIfInBounds_toArray, List.set_cons_zero, List.set_cons_succ, Go.Proofs.YtdfahblgnbdndaaDoorW.PrintLast.i64_w, Go.Proofs.YtdfahblgnbdndaaDoorW.PrintLast.i32_w]
    rfl
  refine seq_endN ?_
  clear hi hz hs hXL
  obtain ⟨w9, hw9⟩ : ∃ w9, w9 = w6.alloc (.cells [Xc pa pb pc im (.slice A6 TK.length cp6), Xc a0 b0 c0 im (.slice A1 GI.length cp1), Xc a0 b0 c1 im (.slice A5 n5 cp5)].flatten.toArray 38) := ⟨_, rfl⟩
  have GA : Aside0 (w9.heap[w6.heap.size]? = some (.cells [Xc pa pb pc im (.slice A6 TK.length cp6), Xc a0 b0 c0 im (.slice A1 GI.length cp1), Xc a0 b0 c1 im (.slice A5 n5 cp5)].flatten.toArray 38 (0, 0))) := ⟨by rw [hw9]; exact blk_new w6 _⟩
  have B69 : Below w6.heap.size w6 w9 := by rw [hw9]; exact below_alloc (Below.refl _ _) _
  have BC9 : Below wc.heap.size wc w9 := (Below.drew (Below.refl _ _)).trans (hB6.trans (B69.mono hB6.size))
  have B9 : Aside0 (Below w.heap.size w w9) := ⟨BWC.out.trans (BC9.mono BWC.out.size)⟩
  rw [← hw9]
  have R0 : Aside0 (XRow w9 im (Xc pa pb pc im (.slice A6 TK.length cp6))) := ⟨⟨_, _, _, _, _, _, _, rfl, Kd.C_below hr6 B69, hTl, HTB.out⟩⟩
  have R1 : Aside0 (XRow w9 im (Xc a0 b0 c0 im (.slice A1 GI.length cp1))) := ⟨⟨_, _, _, _, _, _, _, rfl, Kd.C_below HRG.out BC9, by omega, HGB.out⟩⟩
  have R2 : Aside0 (XRow w9 im (Xc a0 b0 c1 im (.slice A5 n5 cp5))) := ⟨⟨_, _, _, _, _, _, _, rfl, Kd.C_below HR5.out BC9, hn5, HBY5.out⟩⟩
  obtain ⟨ad, had⟩ : ∃ ad : Addr, ad = ⟨w6.heap.size, 0, none⟩ := ⟨_, rfl⟩
  have HAD := Aside0.mk had
  rw [← had]
  clear had hw9 B69 BC9 hO6 hr6 hB6 FXc F2c F4c HRG HRX HR5 HBY5 hcp6
  go_wp2
  go_loopw [10, 11, 12, 13] (fun i _ _ _ wr => ∃ k : Nat, k ≤ 3 ∧ i = .int .i64 k ∧ Below w9.heap.size w9 wr) (fun i _ _ _ _ => 3 - (intOf i).toNat)
  case atStart => exact ⟨0, by omega, rfl, Below.refl _ _⟩
  case round =>
    obtain ⟨k, hk, rfl, hB⟩ := hrel
    have HB := Aside0.mk hB
    clear hB
    by_cases hlt : k < 3
    · obtain ⟨cs, ⟨a, b, c, A7, n7, cp7, its7, rfl, hr7, hn7, hby7⟩, hcs⟩ := rows3_at him R0.out R1.out R2.out GA.out k hlt
      have HLD : Aside0 (∀ W, Below w9.heap.size w9 W → (Instr.loadAt 38 (.pointer (some (ad.add (k * 36))))).run Tryd.prog W = .ok (.agg (Xc a b c im (.slice A7 n7 cp7)).toArray) W) := ⟨fun W hW => ld_elem (fun j u hu => by
        rw [HAD.out, Addr.add_mid, Nat.zero_add]
        exact pw_cell_below hW (hcs j u hu)) 38 _ Tryd.underlying38 rfl (size_RX him)⟩
      have HRD : Aside0 (∀ W, Below w9.heap.size w9 W → RdI W A7 n7 its7) := ⟨fun W hW => Kd.C_below hr7 hW⟩
      have HBY := Aside0.mk hby7
      clear hcs hr7 hby7
      by_cases hm : mayX a b c its7 = true
      · obtain ⟨hmb, -, hall, -⟩ := mayX_spec hm
        have HSZ : Aside0 (szs its7 1048576) := ⟨szs_of hmb hall 1048576 (by omega)⟩
        obtain ⟨a9, b9, c9, rfl, rfl, rfl, -⟩ := mayB_nat hmb
        have HM := Aside0.mk hm
        clear hm hmb hall
        go_wp2_with (first
          | ((with_reducible refine at_ld 38 (.tmp 53) ?_); refine load_arm rfl 38 (.tmp 53) rfl rfl (HLD.out _ HB.out) ?_; simp only [Act.put, List.setIfInBounds_toArray, List.set_cons_zero, List.set_cons_succ])
          | (go_at_call 16; (with_reducible refine at_cw wr ?_); refine (rimay_calls a9 b9 c9 im A7 n7 cp7 its7 _ wr rfl him (HRD.out _ HB.out) (by omega)).mono ?_; rw [HM.out]; rintro e x1 ⟨rfl, hB⟩; have HB1 := Aside0.mk (below_tr HB.out hB HB.out.size); clear hB)
          | ((with_reducible refine at_ld 38 (.tmp 59) ?_); refine load_arm rfl 38 (.tmp 59) rfl rfl (HLD.out _ HB1.out) ?_; simp only [Act.put, List.setIfInBounds_toArray, List.set_cons_zero, List.set_cons_succ])
          | (go_at_call 18; (with_reducible refine at_cw x1 ?_); refine (xof_calls a9 b9 c9 im A7 n7 cp7 _ x1 rfl him).mono ?_; rintro e x2 ⟨rfl, hB⟩; have HB2 := Aside0.mk (below_tr HB1.out hB HB1.out.size); clear hB)
          | (go_at_call 17; (with_reducible refine at_cw x2 ?_); refine (iwrite_ok a9 b9 c9 im A7 n7 cp7 its7 _ x2 rfl him (HRD.out _ HB2.out) HM.out HIB.out HBY.out).mono ?_; rintro e x3 ⟨v3, rfl, hO3, hB⟩; have HB3 := Aside0.mk (below_tr HB2.out hB HB2.out.size); obtain ⟨xs3, HX3, hO3'⟩ : ∃ xs, Aside0 (xs = xbytes a9 b9 c9 im its7) ∧ OwB x3 x2.heap.size v3 xs := ⟨_, ⟨rfl⟩, hO3⟩; clear hO3; obtain ⟨A8, c8, hv3, hc8, hr8⟩ := OwB.reads hO3'; have HR8 := Aside0.mk hr8; clear hr8 hO3' hB; subst hv3)
          | ((with_reducible refine at_ld 38 (.tmp 67) ?_); refine load_arm rfl 38 (.tmp 67) rfl rfl (HLD.out _ HB3.out) ?_; simp only [Act.put, List.setIfInBounds_toArray, List.set_cons_zero, List.set_cons_succ])
          | (go_at_call 18; (with_reducible refine at_cw x3 ?_); refine (xof_calls a9 b9 c9 im A7 n7 cp7 _ x3 rfl him).mono ?_; rintro e x4 ⟨rfl, hB⟩; have HB4 := Aside0.mk (below_tr HB3.out hB HB3.out.size); have HBX4 := Aside0.mk hB; clear hB)
          | (go_at_call 19; (with_reducible refine at_cw x4 ?_); refine (imay_calls a9 b9 c9 im A7 n7 cp7 its7 _ x4 rfl him (HRD.out _ HB4.out) (by omega)).mono ?_; rw [HM.out]; rintro e x5 ⟨rfl, hB⟩; have HB5 := Aside0.mk (below_tr HB4.out hB HB4.out.size); have HBX5 := Aside0.mk hB; clear hB)
          | fail)
        have E5d := Aside0.mk (Below.drew HB5.out)
        have HR9 : Aside0 (RdB x5.drew A8 xs3.length xs3) := ⟨Kd.C_drew (Kd.C_below (Kd.C_below HR8.out HBX4.out) HBX5.out)⟩
        clear HR8 HBX4 HBX5 HB1 HB2 HB3 HB4
        refine seq_startN [] (.take 0 (.take 1 (.take 2 (.take 3 (.take 4 (.take 5 (.take 6 (.take 7 (.run 8 (.take 9 (.take 10 (.take 11 (.take 12 (.take 13 (.take 14 (.take 15 (.take 18 (.take 19 (.take 20 (.take 21 (.run 16 (.run 17 (.run 22 (.take 23 (.take 24 (.take 25 .done)))))))))))))))))))))))))) (by kernel_rfl) (by kernel_rfl) ?_
        refine seq_take (v := ?_) (a' := ?_) rfl rfl (by rfl) (fun w' hw' => ?_) ?_ ?_
        rotate_left 2
        · go_simp
          with_reducible rfl
        · simp only [Act.put, List.setIfInBounds_toArray, List.set_cons_zero, List.set_cons_succ, Go.Proofs.YtdfahblgnbdndaaDoorW.PrintLast.i64_w, Go.Proofs.YtdfahblgnbdndaaDoorW.PrintLast.i32_w]
          rfl
        refine seq_take (v := ?_) (a' := ?_) rfl rfl (by rfl) (fun w' hw' => ?_) ?_ ?_
        rotate_left 2
        · go_simp
          with_reducible rfl
        · simp only [Act.put, List.setIfInBounds_toArray, List.set_cons_zero, List.set_cons_succ, Go.Proofs.YtdfahblgnbdndaaDoorW.PrintLast.i64_w, Go.Proofs.YtdfahblgnbdndaaDoorW.PrintLast.i32_w]
          rfl
        refine seq_take (v := ?_) (a' := ?_) rfl rfl (by rfl) (fun w' hw' => ?_) ?_ ?_
        rotate_left 2
        · go_simp
          with_reducible rfl
        · simp only [Act.put, List.setIfInBounds_toArray, List.set_cons_zero, List.set_cons_succ, Go.Proofs.YtdfahblgnbdndaaDoorW.PrintLast.i64_w, Go.Proofs.YtdfahblgnbdndaaDoorW.PrintLast.i32_w]
          rfl
        refine seq_take (v := _) (a' := ?_) rfl rfl (by rfl) (fun w' hw' => conv_run _ _ _ rfl rfl (conv_str (Kd.C_below HR9.out hw') c8)) ?_ ?_
        rotate_left
        · simp only [Act.put, List.setIfInBounds_toArray, List.set_cons_zero, List.set_cons_succ, Go.Proofs.YtdfahblgnbdndaaDoorW.PrintLast.i64_w, Go.Proofs.YtdfahblgnbdndaaDoorW.PrintLast.i32_w]
          rfl
        refine seq_take (v := ?_) (a' := ?_) rfl rfl (by rfl) (fun w' hw' => ?_) ?_ ?_
        rotate_left 2
        · go_simp
          with_reducible rfl
        · simp only [Act.put, List.setIfInBounds_toArray, List.set_cons_zero, List.set_cons_succ, Go.Proofs.YtdfahblgnbdndaaDoorW.PrintLast.i64_w, Go.Proofs.YtdfahblgnbdndaaDoorW.PrintLast.i32_w]
          rfl
        refine seq_take (v := ?_) (a' := ?_) rfl rfl (by rfl) (fun w' hw' => ?_) ?_ ?_
        rotate_left 2
        · go_simp
          with_reducible rfl
        · simp only [Act.put, List.setIfInBounds_toArray, List.set_cons_zero, List.set_cons_succ, Go.Proofs.YtdfahblgnbdndaaDoorW.PrintLast.i64_w, Go.Proofs.YtdfahblgnbdndaaDoorW.PrintLast.i32_w]
          rfl
        refine seq_take (v := ?_) (a' := ?_) rfl rfl (by rfl) (fun w' hw' => ?_) ?_ ?_
        rotate_left 2
        · go_simp
          with_reducible rfl
        · simp only [Act.put, List.setIfInBounds_toArray, List.set_cons_zero, List.set_cons_succ, Go.Proofs.YtdfahblgnbdndaaDoorW.PrintLast.i64_w, Go.Proofs.YtdfahblgnbdndaaDoorW.PrintLast.i32_w]
          rfl
        refine seq_take (v := _) (a' := ?_) rfl rfl (by rfl) (fun w' hw' => load_run rfl (p := .pointer (some (ad.add (k * 36)))) rfl (HLD.out _ (E5d.out.trans (Below.mono hw' E5d.out.size)))) ?_ ?_
        rotate_left
        · simp only [Act.put, List.setIfInBounds_toArray, List.set_cons_zero, List.set_cons_succ, Go.Proofs.YtdfahblgnbdndaaDoorW.PrintLast.i64_w, Go.Proofs.YtdfahblgnbdndaaDoorW.PrintLast.i32_w]
          rfl
        refine seq_run ?_
        refine do_call rfl rfl (by rfl) rfl Tryd.func20 (by kernel_rfl) rfl #[.agg (Xc a9 b9 c9 im (.slice A7 n7 cp7)).toArray] (by simp only [List.map_toArray, List.map_cons, List.map_nil]; rfl) ?_
        with_reducible refine (rbytes_calls a9 b9 c9 im A7 n7 cp7 its7 _ _ rfl him (HRD.out _ E5d.out) HM.out HIB.out HBY.out).mono ?_
        rintro e x6 ⟨v6, rfl, hO6, hC6⟩
        refine ⟨_, ?_, rfl, ?_, fun _ => hC6, ?_⟩
        rotate_left
        · simp only [Act.put, List.setIfInBounds_toArray, List.set_cons_zero, List.set_cons_succ, Go.Proofs.YtdfahblgnbdndaaDoorW.PrintLast.i64_w, Go.Proofs.YtdfahblgnbdndaaDoorW.PrintLast.i32_w]
          rfl
        rw [← HX3.out] at hO6
        obtain ⟨A9, c9', hv6, hc6, hr6⟩ := OwB.reads hO6
        subst hv6
        have E6 := Aside0.mk (below_tr E5d.out hC6 E5d.out.size)
        clear hO6 hC6
        refine seq_take (v := _) (a' := ?_) rfl rfl (by rfl) (fun w' hw' => conv_run _ _ _ rfl rfl (conv_str (Kd.C_below hr6 hw') c9')) ?_ ?_
        rotate_left
        · simp only [Act.put, List.setIfInBounds_toArray, List.set_cons_zero, List.set_cons_succ, Go.Proofs.YtdfahblgnbdndaaDoorW.PrintLast.i64_w, Go.Proofs.YtdfahblgnbdndaaDoorW.PrintLast.i32_w]
          rfl
        refine seq_take (v := ?_) (a' := ?_) rfl rfl (by rfl) (fun w' hw' => ?_) ?_ ?_
        rotate_left 2
        · go_simp
          with_reducible rfl
        · simp only [Act.put, List.setIfInBounds_toArray, List.set_cons_zero, List.set_cons_succ, Go.Proofs.YtdfahblgnbdndaaDoorW.PrintLast.i64_w, Go.Proofs.YtdfahblgnbdndaaDoorW.PrintLast.i32_w]
          rfl
        refine seq_take (v := ?_) (a' := ?_) rfl rfl (by rfl) (fun w' hw' => ?_) ?_ ?_
        rotate_left 2
        · go_simp
          with_reducible rfl
        · simp only [Act.put, List.setIfInBounds_toArray, List.set_cons_zero, List.set_cons_succ, Go.Proofs.YtdfahblgnbdndaaDoorW.PrintLast.i64_w, Go.Proofs.YtdfahblgnbdndaaDoorW.PrintLast.i32_w]
          rfl
        refine seq_take (v := ?_) (a' := ?_) rfl rfl (by rfl) (fun w' hw' => ?_) ?_ ?_
        rotate_left 2
        · go_simp
          with_reducible rfl
        · simp only [Act.put, List.setIfInBounds_toArray, List.set_cons_zero, List.set_cons_succ, Go.Proofs.YtdfahblgnbdndaaDoorW.PrintLast.i64_w, Go.Proofs.YtdfahblgnbdndaaDoorW.PrintLast.i32_w]
          rfl
        refine seq_take (v := ?_) (a' := ?_) rfl rfl (by rfl) (fun w' hw' => ?_) ?_ ?_
        rotate_left 2
        · go_simp
          with_reducible rfl
        · simp only [Act.put, List.setIfInBounds_toArray, List.set_cons_zero, List.set_cons_succ, Go.Proofs.YtdfahblgnbdndaaDoorW.PrintLast.i64_w, Go.Proofs.YtdfahblgnbdndaaDoorW.PrintLast.i32_w]
          rfl
        refine seq_take (v := ?_) (a' := ?_) rfl rfl (by rfl) (fun w' hw' => ?_) ?_ ?_
        rotate_left 2
        · go_simp
          with_reducible rfl
        · simp only [Act.put, List.setIfInBounds_toArray, List.set_cons_zero, List.set_cons_succ, Go.Proofs.YtdfahblgnbdndaaDoorW.PrintLast.i64_w, Go.Proofs.YtdfahblgnbdndaaDoorW.PrintLast.i32_w]
          rfl
        refine seq_take (v := _) (a' := ?_) rfl rfl (by rfl) (fun w' hw' => load_run rfl (p := .pointer (some (ad.add (k * 36)))) rfl (HLD.out _ (E6.out.trans (Below.mono hw' E6.out.size)))) ?_ ?_
        rotate_left
        · simp only [Act.put, List.setIfInBounds_toArray, List.set_cons_zero, List.set_cons_succ, Go.Proofs.YtdfahblgnbdndaaDoorW.PrintLast.i64_w, Go.Proofs.YtdfahblgnbdndaaDoorW.PrintLast.i32_w]
          rfl
        refine seq_take (v := ?_) (a' := ?_) rfl rfl (by rfl) (fun w' hw' => ?_) ?_ ?_
        rotate_left 2
        · go_simp
          with_reducible rfl
        · simp only [Act.put, List.setIfInBounds_toArray, List.set_cons_zero, List.set_cons_succ, Go.Proofs.YtdfahblgnbdndaaDoorW.PrintLast.i64_w, Go.Proofs.YtdfahblgnbdndaaDoorW.PrintLast.i32_w]
          rfl
        refine seq_take (v := ?_) (a' := ?_) rfl rfl (by rfl) (fun w' hw' => ?_) ?_ ?_
        rotate_left 2
        · go_simp
          with_reducible rfl
        · simp only [Act.put, List.setIfInBounds_toArray, List.set_cons_zero, List.set_cons_succ, Go.Proofs.YtdfahblgnbdndaaDoorW.PrintLast.i64_w, Go.Proofs.YtdfahblgnbdndaaDoorW.PrintLast.i32_w]
          rfl
        refine seq_take (v := ?_) (a' := ?_) rfl rfl (by rfl) (fun w' hw' => ?_) ?_ ?_
        rotate_left 2
        · go_simp
          with_reducible rfl
        · simp only [Act.put, List.setIfInBounds_toArray, List.set_cons_zero, List.set_cons_succ, Go.Proofs.YtdfahblgnbdndaaDoorW.PrintLast.i64_w, Go.Proofs.YtdfahblgnbdndaaDoorW.PrintLast.i32_w]
          rfl
        refine seq_take (v := _) (a' := ?_) rfl rfl (by rfl) (fun w' hw' => load_run rfl (p := .pointer (some (ad.add (k * 36)))) rfl (HLD.out _ (E6.out.trans (Below.mono hw' E6.out.size)))) ?_ ?_
        rotate_left
        · simp only [Act.put, List.setIfInBounds_toArray, List.set_cons_zero, List.set_cons_succ, Go.Proofs.YtdfahblgnbdndaaDoorW.PrintLast.i64_w, Go.Proofs.YtdfahblgnbdndaaDoorW.PrintLast.i32_w]
          rfl
        refine seq_run ?_
        refine do_call rfl rfl (by rfl) rfl Tryd.func18 (by kernel_rfl) rfl #[.agg (Xc a9 b9 c9 im (.slice A7 n7 cp7)).toArray] (by simp only [List.map_toArray, List.map_cons, List.map_nil]; rfl) ?_
        with_reducible refine (xof_calls a9 b9 c9 im A7 n7 cp7 _ _ rfl him).mono ?_
        rintro e x7 ⟨rfl, hC7⟩
        refine ⟨_, ?_, rfl, ?_, fun _ => hC7, ?_⟩
        rotate_left
        · simp only [Act.put, List.setIfInBounds_toArray, List.set_cons_zero, List.set_cons_succ, Go.Proofs.YtdfahblgnbdndaaDoorW.PrintLast.i64_w, Go.Proofs.YtdfahblgnbdndaaDoorW.PrintLast.i32_w]
          rfl
        have E7 := Aside0.mk (below_tr E6.out hC7 E6.out.size)
        clear hC7
        refine seq_run ?_
        refine do_call rfl rfl (by rfl) rfl Tryd.func12 (by kernel_rfl) rfl #[.agg (Xc a9 b9 c9 im (.slice A7 n7 cp7)).toArray] (by simp only [List.map_toArray, List.map_cons, List.map_nil]; rfl) ?_
        with_reducible refine (itotal_calls a9 b9 c9 im A7 n7 cp7 its7 _ _ rfl him (HRD.out _ E7.out) HSZ.out (by omega)).mono ?_
        rintro e x8 ⟨rfl, hC8⟩
        refine ⟨_, ?_, rfl, ?_, fun _ => hC8, ?_⟩
        rotate_left
        · simp only [Act.put, List.setIfInBounds_toArray, List.set_cons_zero, List.set_cons_succ, Go.Proofs.YtdfahblgnbdndaaDoorW.PrintLast.i64_w, Go.Proofs.YtdfahblgnbdndaaDoorW.PrintLast.i32_w]
          rfl
        have E8 := Aside0.mk (below_tr E7.out hC8 E7.out.size)
        clear hC8
        refine seq_run ?_
        refine do_call rfl rfl (by rfl) rfl Tryd.func21 (by kernel_rfl) rfl #[.agg (Xc a9 b9 c9 im (.slice A7 n7 cp7)).toArray] (by simp only [List.map_toArray, List.map_cons, List.map_nil]; rfl) ?_
        with_reducible refine (rtotal_calls a9 b9 c9 im A7 n7 cp7 its7 _ _ rfl him (HRD.out _ E8.out) HSZ.out (by omega)).mono ?_
        rintro e x9 ⟨rfl, hC9⟩
        refine ⟨_, ?_, rfl, ?_, fun _ => hC9, ?_⟩
        rotate_left
        · simp only [Act.put, List.setIfInBounds_toArray, List.set_cons_zero, List.set_cons_succ, Go.Proofs.YtdfahblgnbdndaaDoorW.PrintLast.i64_w, Go.Proofs.YtdfahblgnbdndaaDoorW.PrintLast.i32_w]
          rfl
        have E9 := Aside0.mk (below_tr E8.out hC9 E8.out.size)
        clear hC9
        refine seq_take (v := ?_) (a' := ?_) rfl rfl (by rfl) (fun w' hw' => ?_) ?_ ?_
        rotate_left 2
        · go_simp
          with_reducible rfl
        · simp only [Act.put, List.setIfInBounds_toArray, List.set_cons_zero, List.set_cons_succ, Go.Proofs.YtdfahblgnbdndaaDoorW.PrintLast.i64_w, Go.Proofs.YtdfahblgnbdndaaDoorW.PrintLast.i32_w]
          rfl
        refine seq_take (v := ?_) (a' := ?_) rfl rfl (by rfl) (fun w' hw' => ?_) ?_ ?_
        rotate_left 2
        · go_simp
          with_reducible rfl
        · simp only [Act.put, List.setIfInBounds_toArray, List.set_cons_zero, List.set_cons_succ, Go.Proofs.YtdfahblgnbdndaaDoorW.PrintLast.i64_w, Go.Proofs.YtdfahblgnbdndaaDoorW.PrintLast.i32_w]
          rfl
        refine seq_take (v := ?_) (a' := ?_) rfl rfl (by rfl) (fun w' hw' => ?_) ?_ ?_
        rotate_left 2
        · go_simp
          with_reducible rfl
        · simp only [Act.put, List.setIfInBounds_toArray, List.set_cons_zero, List.set_cons_succ, Go.Proofs.YtdfahblgnbdndaaDoorW.PrintLast.i64_w, Go.Proofs.YtdfahblgnbdndaaDoorW.PrintLast.i32_w]
          rfl
        refine seq_endN ?_
        go_wp2
        go_roundw
        case rel => exact ⟨k + 1, by omega, by go_num, E9.out⟩
        case measure => simp [intOf]; omega
      · have HM : Aside0 (mayX a b c its7 = false) := ⟨by simpa using hm⟩
        clear hm
        go_wp2_with (first
          | ((with_reducible refine at_ld 38 (.tmp 53) ?_); refine load_arm rfl 38 (.tmp 53) rfl rfl (HLD.out _ HB.out) ?_; simp only [Act.put, List.setIfInBounds_toArray, List.set_cons_zero, List.set_cons_succ])
          | (go_at_call 16; (with_reducible refine at_cw wr ?_); refine (rimay_calls a b c im A7 n7 cp7 its7 _ wr rfl him (HRD.out _ HB.out) (by omega)).mono ?_; rw [HM.out]; rintro e x1 ⟨rfl, hB⟩; have HB1 := Aside0.mk (below_tr HB.out hB HB.out.size); clear hB)
          | ((with_reducible refine at_ld 38 (.tmp 59) ?_); refine load_arm rfl 38 (.tmp 59) rfl rfl (HLD.out _ HB1.out) ?_; simp only [Act.put, List.setIfInBounds_toArray, List.set_cons_zero, List.set_cons_succ])
          | (go_at_call 18; (with_reducible refine at_cw x1 ?_); refine (xof_calls a b c im A7 n7 cp7 _ x1 rfl him).mono ?_; rintro e x2 ⟨rfl, hB⟩; have HB2 := Aside0.mk (below_tr HB1.out hB HB1.out.size); clear hB)
          | (go_at_call 17; (with_reducible refine at_cw x2 ?_); refine (iwrite_bad a b c im A7 n7 cp7 its7 _ x2 rfl him (HRD.out _ HB2.out) (by omega) HM.out).mono ?_; rintro e x3 ⟨rfl, hB⟩; have HB3 := Aside0.mk (below_tr HB2.out hB HB2.out.size); clear hB)
          | ((with_reducible refine at_ld 38 (.tmp 67) ?_); refine load_arm rfl 38 (.tmp 67) rfl rfl (HLD.out _ HB3.out) ?_; simp only [Act.put, List.setIfInBounds_toArray, List.set_cons_zero, List.set_cons_succ])
          | (go_at_call 18; (with_reducible refine at_cw x3 ?_); refine (xof_calls a b c im A7 n7 cp7 _ x3 rfl him).mono ?_; rintro e x4 ⟨rfl, hB⟩; have HB4 := Aside0.mk (below_tr HB3.out hB HB3.out.size); clear hB)
          | (go_at_call 19; (with_reducible refine at_cw x4 ?_); refine (imay_calls a b c im A7 n7 cp7 its7 _ x4 rfl him (HRD.out _ HB4.out) (by omega)).mono ?_; rw [HM.out]; rintro e x5 ⟨rfl, hB⟩; have HB5 := Aside0.mk (below_tr HB4.out hB HB4.out.size); clear hB)
          | fail)
        have E5d := Aside0.mk (Below.drew HB5.out)
        clear HB1 HB2 HB3 HB4
        refine seq_startN [] (.take 0 (.take 1 (.take 2 (.take 3 (.take 4 (.take 5 (.take 6 (.take 7 (.take 8 (.take 9 (.take 10 (.take 11 (.take 12 (.take 13 (.take 14 (.take 15 (.take 16 (.take 17 (.take 18 (.take 19 (.take 20 (.take 21 (.take 22 (.take 23 (.take 24 (.take 25 .done)))))))))))))))))))))))))) (by kernel_rfl) (by kernel_rfl) ?_
        refine seq_take (v := ?_) (a' := ?_) rfl rfl (by rfl) (fun w' hw' => ?_) ?_ ?_
        rotate_left 2
        · go_simp
          with_reducible rfl
        · simp only [Act.put, List.setIfInBounds_toArray, List.set_cons_zero, List.set_cons_succ, Go.Proofs.YtdfahblgnbdndaaDoorW.PrintLast.i64_w, Go.Proofs.YtdfahblgnbdndaaDoorW.PrintLast.i32_w]
          rfl
        refine seq_take (v := ?_) (a' := ?_) rfl rfl (by rfl) (fun w' hw' => ?_) ?_ ?_
        rotate_left 2
        · go_simp
          with_reducible rfl
        · simp only [Act.put, List.setIfInBounds_toArray, List.set_cons_zero, List.set_cons_succ, Go.Proofs.YtdfahblgnbdndaaDoorW.PrintLast.i64_w, Go.Proofs.YtdfahblgnbdndaaDoorW.PrintLast.i32_w]
          rfl
        refine seq_off (a' := ?_) rfl rfl (by rfl) ?_ ?_
        rotate_left
        · simp only [Act.put, List.setIfInBounds_toArray, List.set_cons_zero, List.set_cons_succ, Go.Proofs.YtdfahblgnbdndaaDoorW.PrintLast.i64_w, Go.Proofs.YtdfahblgnbdndaaDoorW.PrintLast.i32_w]
          rfl
        refine seq_off (a' := ?_) rfl rfl (by rfl) ?_ ?_
        rotate_left
        · simp only [Act.put, List.setIfInBounds_toArray, List.set_cons_zero, List.set_cons_succ, Go.Proofs.YtdfahblgnbdndaaDoorW.PrintLast.i64_w, Go.Proofs.YtdfahblgnbdndaaDoorW.PrintLast.i32_w]
          rfl
        refine seq_off (a' := ?_) rfl rfl (by rfl) ?_ ?_
        rotate_left
        · simp only [Act.put, List.setIfInBounds_toArray, List.set_cons_zero, List.set_cons_succ, Go.Proofs.YtdfahblgnbdndaaDoorW.PrintLast.i64_w, Go.Proofs.YtdfahblgnbdndaaDoorW.PrintLast.i32_w]
          rfl
        refine seq_off (a' := ?_) rfl rfl (by rfl) ?_ ?_
        rotate_left
        · simp only [Act.put, List.setIfInBounds_toArray, List.set_cons_zero, List.set_cons_succ, Go.Proofs.YtdfahblgnbdndaaDoorW.PrintLast.i64_w, Go.Proofs.YtdfahblgnbdndaaDoorW.PrintLast.i32_w]
          rfl
        refine seq_off (a' := ?_) rfl rfl (by rfl) ?_ ?_
        rotate_left
        · simp only [Act.put, List.setIfInBounds_toArray, List.set_cons_zero, List.set_cons_succ, Go.Proofs.YtdfahblgnbdndaaDoorW.PrintLast.i64_w, Go.Proofs.YtdfahblgnbdndaaDoorW.PrintLast.i32_w]
          rfl
        refine seq_off (a' := ?_) rfl rfl (by rfl) ?_ ?_
        rotate_left
        · simp only [Act.put, List.setIfInBounds_toArray, List.set_cons_zero, List.set_cons_succ, Go.Proofs.YtdfahblgnbdndaaDoorW.PrintLast.i64_w, Go.Proofs.YtdfahblgnbdndaaDoorW.PrintLast.i32_w]
          rfl
        refine seq_off (a' := ?_) rfl rfl (by rfl) ?_ ?_
        rotate_left
        · simp only [Act.put, List.setIfInBounds_toArray, List.set_cons_zero, List.set_cons_succ, Go.Proofs.YtdfahblgnbdndaaDoorW.PrintLast.i64_w, Go.Proofs.YtdfahblgnbdndaaDoorW.PrintLast.i32_w]
          rfl
        refine seq_off (a' := ?_) rfl rfl (by rfl) ?_ ?_
        rotate_left
        · simp only [Act.put, List.setIfInBounds_toArray, List.set_cons_zero, List.set_cons_succ, Go.Proofs.YtdfahblgnbdndaaDoorW.PrintLast.i64_w, Go.Proofs.YtdfahblgnbdndaaDoorW.PrintLast.i32_w]
          rfl
        refine seq_off (a' := ?_) rfl rfl (by rfl) ?_ ?_
        rotate_left
        · simp only [Act.put, List.setIfInBounds_toArray, List.set_cons_zero, List.set_cons_succ, Go.Proofs.YtdfahblgnbdndaaDoorW.PrintLast.i64_w, Go.Proofs.YtdfahblgnbdndaaDoorW.PrintLast.i32_w]
          rfl
        refine seq_off (a' := ?_) rfl rfl (by rfl) ?_ ?_
        rotate_left
        · simp only [Act.put, List.setIfInBounds_toArray, List.set_cons_zero, List.set_cons_succ, Go.Proofs.YtdfahblgnbdndaaDoorW.PrintLast.i64_w, Go.Proofs.YtdfahblgnbdndaaDoorW.PrintLast.i32_w]
          rfl
        refine seq_off (a' := ?_) rfl rfl (by rfl) ?_ ?_
        rotate_left
        · simp only [Act.put, List.setIfInBounds_toArray, List.set_cons_zero, List.set_cons_succ, Go.Proofs.YtdfahblgnbdndaaDoorW.PrintLast.i64_w, Go.Proofs.YtdfahblgnbdndaaDoorW.PrintLast.i32_w]
          rfl
        refine seq_off (a' := ?_) rfl rfl (by rfl) ?_ ?_
        rotate_left
        · simp only [Act.put, List.setIfInBounds_toArray, List.set_cons_zero, List.set_cons_succ, Go.Proofs.YtdfahblgnbdndaaDoorW.PrintLast.i64_w, Go.Proofs.YtdfahblgnbdndaaDoorW.PrintLast.i32_w]
          rfl
        refine seq_off (a' := ?_) rfl rfl (by rfl) ?_ ?_
        rotate_left
        · simp only [Act.put, List.setIfInBounds_toArray, List.set_cons_zero, List.set_cons_succ, Go.Proofs.YtdfahblgnbdndaaDoorW.PrintLast.i64_w, Go.Proofs.YtdfahblgnbdndaaDoorW.PrintLast.i32_w]
          rfl
        refine seq_off (a' := ?_) rfl rfl (by rfl) ?_ ?_
        rotate_left
        · simp only [Act.put, List.setIfInBounds_toArray, List.set_cons_zero, List.set_cons_succ, Go.Proofs.YtdfahblgnbdndaaDoorW.PrintLast.i64_w, Go.Proofs.YtdfahblgnbdndaaDoorW.PrintLast.i32_w]
          rfl
        refine seq_off (a' := ?_) rfl rfl (by rfl) ?_ ?_
        rotate_left
        · simp only [Act.put, List.setIfInBounds_toArray, List.set_cons_zero, List.set_cons_succ, Go.Proofs.YtdfahblgnbdndaaDoorW.PrintLast.i64_w, Go.Proofs.YtdfahblgnbdndaaDoorW.PrintLast.i32_w]
          rfl
        refine seq_off (a' := ?_) rfl rfl (by rfl) ?_ ?_
        rotate_left
        · simp only [Act.put, List.setIfInBounds_toArray, List.set_cons_zero, List.set_cons_succ, Go.Proofs.YtdfahblgnbdndaaDoorW.PrintLast.i64_w, Go.Proofs.YtdfahblgnbdndaaDoorW.PrintLast.i32_w]
          rfl
        refine seq_off (a' := ?_) rfl rfl (by rfl) ?_ ?_
        rotate_left
        · simp only [Act.put, List.setIfInBounds_toArray, List.set_cons_zero, List.set_cons_succ, Go.Proofs.YtdfahblgnbdndaaDoorW.PrintLast.i64_w, Go.Proofs.YtdfahblgnbdndaaDoorW.PrintLast.i32_w]
          rfl
        refine seq_off (a' := ?_) rfl rfl (by rfl) ?_ ?_
        rotate_left
        · simp only [Act.put, List.setIfInBounds_toArray, List.set_cons_zero, List.set_cons_succ, Go.Proofs.YtdfahblgnbdndaaDoorW.PrintLast.i64_w, Go.Proofs.YtdfahblgnbdndaaDoorW.PrintLast.i32_w]
          rfl
        refine seq_off (a' := ?_) rfl rfl (by rfl) ?_ ?_
        rotate_left
        · simp only [Act.put, List.setIfInBounds_toArray, List.set_cons_zero, List.set_cons_succ, Go.Proofs.YtdfahblgnbdndaaDoorW.PrintLast.i64_w, Go.Proofs.YtdfahblgnbdndaaDoorW.PrintLast.i32_w]
          rfl
        refine seq_off (a' := ?_) rfl rfl (by rfl) ?_ ?_
        rotate_left
        · simp only [Act.put, List.setIfInBounds_toArray, List.set_cons_zero, List.set_cons_succ, Go.Proofs.YtdfahblgnbdndaaDoorW.PrintLast.i64_w, Go.Proofs.YtdfahblgnbdndaaDoorW.PrintLast.i32_w]
          rfl
        refine seq_off (a' := ?_) rfl rfl (by rfl) ?_ ?_
        rotate_left
        · simp only [Act.put, List.setIfInBounds_toArray, List.set_cons_zero, List.set_cons_succ, Go.Proofs.YtdfahblgnbdndaaDoorW.PrintLast.i64_w, Go.Proofs.YtdfahblgnbdndaaDoorW.PrintLast.i32_w]
          rfl
        refine seq_off (a' := ?_) rfl rfl (by rfl) ?_ ?_
        rotate_left
        · simp only [Act.put, List.setIfInBounds_toArray, List.set_cons_zero, List.set_cons_succ, Go.Proofs.YtdfahblgnbdndaaDoorW.PrintLast.i64_w, Go.Proofs.YtdfahblgnbdndaaDoorW.PrintLast.i32_w]
          rfl
        refine seq_off (a' := ?_) rfl rfl (by rfl) ?_ ?_
        rotate_left
        · simp only [Act.put, List.setIfInBounds_toArray, List.set_cons_zero, List.set_cons_succ, Go.Proofs.YtdfahblgnbdndaaDoorW.PrintLast.i64_w, Go.Proofs.YtdfahblgnbdndaaDoorW.PrintLast.i32_w]
          rfl
        refine seq_take (v := ?_) (a' := ?_) rfl rfl (by rfl) (fun w' hw' => ?_) ?_ ?_
        rotate_left 2
        · go_simp
          with_reducible rfl
        · simp only [Act.put, List.setIfInBounds_toArray, List.set_cons_zero, List.set_cons_succ, Go.Proofs.YtdfahblgnbdndaaDoorW.PrintLast.i64_w, Go.Proofs.YtdfahblgnbdndaaDoorW.PrintLast.i32_w]
          rfl
        refine seq_endN ?_
        go_wp2
        go_roundw
        case rel => exact ⟨k + 1, by omega, by go_num, E5d.out⟩
        case measure => simp [intOf]; omega
    · obtain rfl : k = 3 := by omega
      go_wp2_with (first
        | (go_at_call 13; (with_reducible refine at_cw wr ?_); refine (xlives_calls wr ((HK.out.below B9.out).below HB.out)).mono ?_; rintro e x10 ⟨rfl, hB10⟩; have HB10 := Aside0.mk (below_tr HB.out hB10 HB.out.size); clear hB10)
        | fail)
      go_ret
      exact ⟨rfl, B9.out.trans (HB10.out.mono B9.out.size)⟩
end Go.Proofs.YtdfahblgnbdndaaDoor
