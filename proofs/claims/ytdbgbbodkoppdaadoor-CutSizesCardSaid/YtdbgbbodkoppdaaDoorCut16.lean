/- The law CutSizes: its walk. Conditions: what each argument reads, and what sha's table of roots holds. -/
import Derived.Test.YtdbgbbodkoppdaaDoorCutR
import Derived.Test.YtdbgbbodkoppdaaDoorOpenP
namespace Go.Proofs.YtdbgbbodkoppdaaDoor
open Go.RowKit Go.Shelf Go.Proofs.YtdbgbbodkoppdaaDoorW.PrintWords Go.Proofs.YtdbgbbodkoppdaaDoorW.PrintMore
set_option linter.unusedVariables false
set_option linter.unusedSimpArgs false
set_option maxRecDepth 20000 in
set_option maxHeartbeats 3200000 in
theorem cutSizes_walk (A : Option Addr) (n cp : Nat) (xb : List Int) (pa pb pc : Int) (w : World) (h : RdB w A n xb) (hc : n ≤ cp) (hb : Bytes xb) (ha0 : -9223372036854775808 ≤ pa) (ha1 : pa ≤ 9223372036854775807) (hb0 : -9223372036854775808 ≤ pb) (hb1 : pb ≤ 9223372036854775807) (hc0 : -9223372036854775808 ≤ pc) (hc1 : pc ≤ 9223372036854775807) (hK : Roots w) :
    Calls Tryd.prog 4 #[.slice A n cp, .agg #[.int .i64 pa, .int .i64 pb, .int .i64 pc]] w fun e w' => e = .returned (.bool true) ∧ Below w.heap.size w w' := by
  have H := Aside0.mk h
  have HBY := Aside0.mk hb
  have HK := Aside0.mk hK
  have hgc := fun (w : World) => good_calls pa pb pc w ha0 ha1 hb0 hb1 hc0 hc1
  obtain ⟨a0, b0, c0, ea, eb, ec, m1, m2, m3, m4, hm⟩ := good_nat pa pb pc
  simp only [ea, eb, ec] at hgc
  have HGC := Aside0.mk hgc
  have HM := Aside0.mk hm
  clear h hb hgc hm ea eb ec ha0 ha1 hb0 hb1 hc0 hc1 hK
  go_enter Tryd.func4, Tryd.ntmps4
  go_wp2_with (first
    | (go_at_call 16; refine (few_new A n cp xb 150 _ (Kd.C_alloc H.out _) hc HBY.out (by omega) (by omega)).mono ?_; rintro e w1 ⟨BX, dX, X, rfl, -, hby, -, hd_X, hyl, R_X, hB⟩; have L1 : Aside0 (Below w.heap.size w w1) := ⟨Below.trans (below_alloc (Below.refl _ w) _) (hB.mono (by simp))⟩; have HBX := Aside0.mk (Later.heap hB (blk_new w (.cells #[.int .i64 pa, .int .i64 pb, .int .i64 pc] 23))); obtain ⟨q0, q1, q2⟩ := pm_cells HBX.out; have Y_X : Aside0 (Bytes X ∧ X.length ≤ 150) := ⟨hby, hyl⟩; have D_X := Aside0.mk hd_X; have HSZ := Aside0.mk (al_mem_le (p := pw b0) (xs := X) m1 (by omega : a0 ≤ c0)); have HCN : Aside0 ((al a0 c0 (pw b0) [] X).length ≤ 151) := ⟨Nat.le_trans al_count (by omega)⟩; have HTL := Aside0.mk (tells_ok a0 b0 c0 BX X.length dX X hby HM.out (by omega)); clear hB hby hd_X hyl)
    | (go_at_call 5; refine (HGC.out _).mono ?_; rintro e w2 ⟨rfl, hB⟩; have L2 : Aside0 (Below w.heap.size w w2) := ⟨L1.out.trans (hB.mono L1.out.size)⟩; have R_X2 := Aside0.mk (Kd.C_below R_X.out hB); clear hB q0 q1 q2)
    | (go_at_call 17; refine (pchunks_calls BX X.length dX a0 b0 c0 X _ (Kd.C_alloc R_X2.out _) D_X.out Y_X.out.1 (by have := Y_X.out.2; omega) HM.out).mono ?_; rintro e w3 ⟨vo, L, rfl, hO, hC3, hE3, hB3⟩; obtain ⟨vE, ve, rfl, hve, hvr⟩ := Kd.R_reads hO; have hl := congrArg List.length hE3; rw [List.length_map] at hl; rw [List.length_map, hl] at hvr hve; rw [List.length_map, hl]; have HVE := Aside0.mk hvr; have HC3 := Aside0.mk hC3; have HE3 := Aside0.mk hE3; have G3 := Aside0.mk (Later.heap hB3 (blk_new w2 (.cells #[.int .i64 (a0 : Int), .int .i64 (b0 : Int), .int .i64 (c0 : Int)] 23))); have R_X3 := Aside0.mk (Kd.C_below (Kd.C_alloc R_X2.out _) hB3); have L3 : Aside0 (Below w.heap.size w w3) := ⟨L2.out.trans ((Below.trans (below_alloc (Below.refl _ w2) _) (hB3.mono (by simp))).mono L2.out.size)⟩; obtain ⟨q0, q1, q2⟩ := pm_cells G3.out; generalize w2.heap.size = gB at *; clear hO hC3 hE3 hB3 hvr hve hl)
    | (go_at_call 10; (with_reducible refine at_cw w3 ?_); refine (items_calls a0 b0 c0 BX X.length dX X (al a0 c0 (pw b0) [] X) w3 HM.out (HK.out.below L3.out) HTL.out R_X3.out (by have := HCN.out; omega) (fun c hc => by have := (HSZ.out c hc).2; omega)).mono ?_; rintro e w4 ⟨vi, rfl, hO4, hB4⟩; obtain ⟨iA, ic, rfl, -, hir⟩ := Kd.R_reads hO4; rw [itsOf_len] at hir ⊢; have HIR := Aside0.mk hir; have HB4 := Aside0.mk hB4; have G4 := Aside0.mk (Later.heap hB4 G3.out); obtain ⟨g0, g1, g2⟩ := pm_cells G4.out; clear hO4 hB4 hir q0 q1 q2)
    | (go_at_call 9; (with_reducible refine at_cw w4 ?_); refine (sizes_calls a0 b0 c0 BX X.length dX X (al a0 c0 (pw b0) [] X) w4 HM.out HTL.out (Kd.C_below R_X3.out HB4.out) (by have := HCN.out; omega)).mono ?_; rintro e w5 ⟨vs, rfl, hO5, hB5⟩; obtain ⟨sA, sc, rfl, -, hsr⟩ := Kd.R_reads hO5; rw [lens_len] at hsr ⊢; have HSR := Aside0.mk hsr; have HB5 : Aside0 (Below w3.heap.size w3 w5) := ⟨below_tr' HB4.out hB5⟩; have HIR5 := Aside0.mk (Kd.C_below HIR.out hB5); have G5 := Aside0.mk (Later.heap HB5.out G3.out); obtain ⟨q0, q1, q2⟩ := pm_cells G5.out; clear hO5 hB5 hsr g0 g1 g2)
    | (go_at_call 19; (with_reducible refine at_cw w5 ?_); refine (ritems_calls BX X.length dX a0 b0 c0 X w5 (Kd.C_below R_X3.out HB5.out) D_X.out Y_X.out.1 (by have := Y_X.out.2; omega) HM.out).mono ?_; rintro e w6 ⟨vj, rfl, hO6, hB6⟩; obtain ⟨jA, jc, rfl, -, hjr⟩ := Kd.R_reads hO6; rw [itsOf_len] at hjr ⊢; have HJR := Aside0.mk hjr; have HIR6 := Aside0.mk (Kd.C_below HIR5.out hB6); have HB6 : Aside0 (Below w3.heap.size w3 w6) := ⟨below_tr' HB5.out hB6⟩; have HSR6 := Aside0.mk (Kd.C_below HSR.out hB6); clear hO6 hB6 hjr q0 q1 q2)
    | (go_at_call 18; (with_reducible refine at_cw w6 ?_); refine (sameItems_calls iA jA (al a0 c0 (pw b0) [] X).length (al a0 c0 (pw b0) [] X).length ic jc (itsOf (al a0 c0 (pw b0) [] X)) (itsOf (al a0 c0 (pw b0) [] X)) w6 HIR6.out HJR.out (by have := HCN.out; omega) (by have := HCN.out; omega)).mono ?_; rw [decide_eq_true rfl]; rintro e w7 ⟨rfl, hB7⟩; have HB7 : Aside0 (Below w3.heap.size w3 w7) := ⟨below_tr' HB6.out hB7⟩; have HSR7 := Aside0.mk (Kd.C_below HSR6.out hB7); clear hB7)
    | fail)
  obtain ⟨CH, hCH⟩ : ∃ CH, (al a0 c0 (pw b0) [] X) = CH := ⟨_, rfl⟩
  have HCE := Aside0.mk hCH
  rw [hCH] at HSZ HCN HTL HVE HE3 HSR7
  rw [hCH]
  clear hCH HIR HIR5 HIR6 HJR HSR HSR6
  go_loopw [12] (fun i wr => ∃ k : Nat, k ≤ CH.length ∧ i = .int .i64 k ∧ Below w7.heap.size w7 wr) (fun i _ => CH.length - (intOf i).toNat)
  case atStart => exact ⟨0, Nat.zero_le _, rfl, Below.refl _ _⟩
  case round =>
    obtain ⟨k, hk, rfl, hB⟩ := hrel
    have hcn := HCN.out
    have HB := Aside0.mk hB
    have HBR : Aside0 (Below w3.heap.size w3 wr) := ⟨below_tr' HB7.out hB⟩
    clear hB
    by_cases hlt : k < CH.length
    · obtain ⟨sd, rfl⟩ := rdN_some HSR7.out (by omega)
      obtain ⟨ed, rfl⟩ := rdS_some HVE.out (by omega)
      have hc1 := rdN_at (Kd.C_below HSR7.out HB.out) k hlt
      obtain ⟨a2, c2, hc2, -, -⟩ := chR_at HC3.out HVE.out k hlt
      rw [HE3.out] at hc2
      rw [lens_getD _ _ hlt] at hc1
      replace hc2 := pw_cell_below HBR.out hc2
      generalize (CH.getD k []).length = yl at *
      go_wp2_with fail
      go_quiet (fail)
      have HB2 : Aside0 (Below w7.heap.size w7 (wr.drewN nq)) := ⟨HB.out.trans ((pw_below_drewN (Below.refl wr.heap.size wr) nq).mono HB.out.size)⟩
      go_wp2
      go_roundw
      case rel => exact ⟨k + 1, by omega, by go_num, HB2.out⟩
      case measure => simp [intOf]; omega
    · obtain rfl : k = CH.length := by omega
      have GR := Aside0.mk (Later.heap HBR.out G3.out)
      obtain ⟨g0, g1, g2⟩ := pm_cells GR.out
      go_wp2_with (first
        | (go_at_call 14; (with_reducible refine at_cw wr ?_); refine (collect_calls a0 b0 c0 BX X.length dX X CH wr HTL.out (Kd.C_below R_X3.out HBR.out) (by have := HCN.out; omega)).mono ?_; rintro e w8 ⟨v, L8, rfl, hO, hT, hB⟩; obtain ⟨vA, vc, rfl, hvc, hvr⟩ := Kd.R_reads hO; have hl8 := congrArg List.length hT.1; rw [List.length_map] at hl8; rw [List.length_map, hl8] at hvr; rw [List.length_map, hl8]; have HVR := Aside0.mk hvr; have HT8 := Aside0.mk hT; have HB8 : Aside0 (Below w3.heap.size w3 w8) := ⟨below_tr' HBR.out hB⟩; clear hO hT hB hvr hvc hl8 g0 g1 g2)
        | (go_at_call 20; (with_reducible refine at_cw w8 ?_); refine (same_calls vA vE CH.length CH.length vc ve L8 L w8 HVR.out (Kd.C_below HVE.out HB8.out) HT8.out.chR (HC3.out.below HB8.out) (HT8.out.1.trans HE3.out.symm) (by have := HCN.out; omega)).mono ?_; rintro e w9 ⟨rfl, hB9⟩; have HB9 : Aside0 (Below w3.heap.size w3 w9) := ⟨below_tr' HB8.out hB9⟩; clear hB9)
        | (go_at_call 15; (with_reducible refine at_cw w9 ?_); refine (lives_calls w9).mono ?_; rintro e w10 ⟨rfl, hB10⟩; have HB10 : Aside0 (Below w3.heap.size w3 w10) := ⟨below_tr' HB9.out hB10⟩; clear hB10)
        | fail)
      go_ret
      exact ⟨rfl, L3.out.trans (HB10.out.mono L3.out.size)⟩
end Go.Proofs.YtdbgbbodkoppdaaDoor
