/- The law CutAgain: its walk. Conditions: what each argument reads. -/
import Derived.Test.YtdbgbbodkoppdaaCut10
namespace Go.Proofs.Ytdbgbbodkoppdaa
open Go.RowKit Go.Shelf Go.Proofs.YtdbgbbodkoppdaaW.PrintWords Go.Proofs.YtdbgbbodkoppdaaW.PrintMore
set_option linter.unusedVariables false
set_option linter.unusedSimpArgs false
theorem cutToS {w : World} {A : Option Addr} {n c : Nat} {xs : List S3} (h : RdS w A n xs) (hc : n ≤ c) (j : Nat) (hj : j ≤ n) :
    (∀ W : World, (Instr.slice 32 (.slice A n c) none (some (.int .i64 (j : Int))) none).run Try.prog W = .ok (.slice A j c) W) ∧ RdS w A j (xs.take j) := by
  obtain ⟨i0, hi, _, hsz, _⟩ := info_parts infoBS
  exact ⟨cut_to 32 22 .i64 Try.underlying32 hi A n c (j : Int) (by omega) (by omega) hc, Kd.C_of_reads ((Kd.reads_of_C (d := ((none, 0, 0) : S3)) h).take_ _ (by omega))⟩
theorem cutFromS {w : World} {A : Option Addr} {n c : Nat} {xs : List S3} (h : RdS w A n xs) (hc : n ≤ c) (j : Nat) (hj : j ≤ n) :
    (∀ W : World, (Instr.slice 32 (.slice A n c) (some (.int .i64 (j : Int))) none none).run Try.prog W = .ok (.slice (if c = j then A else A.map (·.add j)) (n - j) (c - j)) W) ∧ RdS w (if c = j then A else A.map (·.add j)) (n - j) (xs.drop j) := by
  obtain ⟨i0, hi, _, hsz, _⟩ := info_parts infoBS
  refine ⟨?_, Kd.C_of_reads ((Kd.reads_of_C (d := ((none, 0, 0) : S3)) h).drop_ _ (by omega) hc)⟩
  have := cut_from (P := Try.prog) 32 22 .i64 Try.underlying32 hi 1 hsz A n c (j : Int) (by omega) (by omega)
  simpa using this
theorem ChR.drewC {w : World} {L : List (S3 × List Int)} (h : ChR w L) : ChR w.drew L := h.below (Below.drew (Below.refl _ _))
theorem ChR.take {w : World} {L : List (S3 × List Int)} (h : ChR w L) (k : Nat) : ChR w (L.take k) := fun p hp => h p (List.mem_of_mem_take hp)
theorem ChR.drop {w : World} {L : List (S3 × List Int)} (h : ChR w L) (k : Nat) : ChR w (L.drop k) := fun p hp => h p (List.mem_of_mem_drop hp)
section
variable {mn mx p : Nat}
theorem wrL_take : ∀ (k : Nat) (b : List Int), k ≤ (wrL mn mx p [] b).1.length → wrL mn mx p [] ((wrL mn mx p [] b).1.take k).flatten = ((wrL mn mx p [] b).1.take k, [])
  | 0, b, _ => by simp [wrL]
  | k + 1, b, h => by
    obtain ⟨c, l, e⟩ : ∃ c l, (wrL mn mx p [] b).1 = c :: l := by
      rcases h1 : (wrL mn mx p [] b).1 with _ | ⟨c, l⟩
      · rw [h1] at h; simp at h
      · exact ⟨c, l, rfl⟩
    obtain ⟨t, h1, h2, h3, h4, b2, h5, h6, h7⟩ := wrL_whole b [] c l e
    rw [List.nil_append] at h1
    subst h1
    rw [e] at h ⊢
    have ih := wrL_take k b2 (by rw [h6]; simp at h; omega)
    rw [h6] at ih
    rw [List.take_succ_cons, List.flatten_cons, wrL_append, h4]
    simp only []
    rw [ih]
    rfl
theorem al_pre (b : List Int) (k : Nat) (hk : k + 1 ≤ (al mn mx p [] b).length ∨ k = 0) : (al mn mx p [] b).take k = (wrL mn mx p [] b).1.take k ∧ k ≤ (wrL mn mx p [] b).1.length := by
  have hle : k ≤ (wrL mn mx p [] b).1.length := by
    rcases hk with h | h
    · unfold al at h
      rw [List.length_append] at h
      split at h <;> simp at h <;> omega
    · omega
  refine ⟨?_, hle⟩
  unfold al
  rw [List.take_append_of_le_length hle]
/-- Behind a cut the same chunks. -/
theorem al_again (b t : List Int) (k : Nat) (hk : k + 1 ≤ (al mn mx p [] b).length ∨ k = 0) : al mn mx p [] (((al mn mx p [] b).take k).flatten ++ t) = (al mn mx p [] b).take k ++ al mn mx p [] t := by
  obtain ⟨h1, h2⟩ := al_pre b k hk
  rw [h1]
  conv => lhs; unfold al
  rw [wrL_append, wrL_take k b h2]
  simp only []
  rw [List.append_assoc]
  rfl
end
set_option maxRecDepth 20000 in
set_option maxHeartbeats 3200000 in
theorem cutAgain_walk (A1 : Option Addr) (n1 c1 : Nat) (xa : List Int) (A2 : Option Addr) (n2 c2 : Nat) (xc : List Int) (pa pb pc : Int) (w : World) (h1 : RdB w A1 n1 xa) (hc1 : n1 ≤ c1) (hb1 : Bytes xa) (h2 : RdB w A2 n2 xc) (hc2 : n2 ≤ c2) (hb2 : Bytes xc) (ha0 : -9223372036854775808 ≤ pa) (ha1 : pa ≤ 9223372036854775807) (hb0 : -9223372036854775808 ≤ pb) (hb1' : pb ≤ 9223372036854775807) (hc0 : -9223372036854775808 ≤ pc) (hc1' : pc ≤ 9223372036854775807) :
    Calls Try.prog 5 #[.slice A1 n1 c1, .slice A2 n2 c2, .agg #[.int .i64 pa, .int .i64 pb, .int .i64 pc]] w fun e w' => e = .returned (.bool true) ∧ Below w.heap.size w w' := by
  have H1 := Aside0.mk h1
  have H2 := Aside0.mk h2
  have HBY1 := Aside0.mk hb1
  have HBY2 := Aside0.mk hb2
  have hgc := fun (w : World) => good_calls pa pb pc w ha0 ha1 hb0 hb1' hc0 hc1'
  obtain ⟨a0, b0, c0, ea, eb, ec, m1, m2, m3, m4, hm⟩ := good_nat pa pb pc
  simp only [ea, eb, ec] at hgc
  have HGC := Aside0.mk hgc
  have HM := Aside0.mk hm
  clear h1 h2 hb1 hb2 hgc hm ea eb ec ha0 ha1 hb0 hb1' hc0 hc1'
  go_enter Try.func5, Try.ntmps5
  go_wp2_with (first
    | (go_at_call 8; refine (HGC.out _).mono ?_; rintro e w1 ⟨rfl, hB⟩; have L1 : Aside0 (Below w.heap.size w w1) := ⟨Below.trans (below_alloc (Below.refl _ w) _) (hB.mono (by simp))⟩; clear hB)
    | (go_at_call 7; (with_reducible refine at_cw (World.alloc w1 (.cells #[.int .i64 (a0 : Int), .int .i64 (b0 : Int), .int .i64 (c0 : Int)] 24)) ?_); refine (few_new A2 n2 c2 xc 80 _ (Kd.C_alloc (Kd.C_below H2.out L1.out) _) hc2 HBY2.out (by omega) (by omega)).mono ?_; rintro e w2 ⟨BT, dT, T, rfl, -, hby, -, hd_T, hyl, R_T, hB⟩; have L2 : Aside0 (Below w.heap.size w w2) := ⟨L1.out.trans (Below.mono (Below.trans (below_alloc (Below.refl _ w1) _) (hB.mono (by simp))) L1.out.size)⟩; have G2 := Aside0.mk (Later.heap hB (blk_new w1 (.cells #[.int .i64 (a0 : Int), .int .i64 (b0 : Int), .int .i64 (c0 : Int)] 24))); have Y_T : Aside0 (Bytes T ∧ T.length ≤ 80) := ⟨hby, hyl⟩; have D_T := Aside0.mk hd_T; clear hB hby hd_T hyl)
    | (go_at_call 7; (with_reducible refine at_cw w2 ?_); refine (few_new A1 n1 c1 xa 60 _ (Kd.C_below H1.out L2.out) hc1 HBY1.out (by omega) (by omega)).mono ?_; rintro e w3 ⟨BH, dH, Hd, rfl, -, hby, -, hd_H, hyl, R_H, hB⟩; have L3 : Aside0 (Below w.heap.size w w3) := ⟨L2.out.trans (hB.mono L2.out.size)⟩; have G3 := Aside0.mk (Later.heap hB G2.out); have R_T3 := Aside0.mk (Kd.C_below R_T.out hB); have Y_H : Aside0 (Bytes Hd ∧ Hd.length ≤ 60) := ⟨hby, hyl⟩; have D_H := Aside0.mk hd_H; obtain ⟨g0, g1, g2⟩ := pm_cells G3.out; clear hB hby hd_H hyl)
    | (go_at_call 16; (with_reducible refine at_cw w3 ?_); refine (collect_calls a0 b0 c0 BH Hd.length dH Hd (al a0 c0 (pw b0) [] Hd) _ (tells_ok a0 b0 c0 BH _ dH Hd Y_H.out.1 HM.out (by have := Y_H.out.2; omega)) R_H.out (by have := al_count (a := a0) (c := c0) (p := pw b0) (xs := Hd); have := Y_H.out.2; omega)).mono ?_; rintro e w4 ⟨v, L, rfl, hO, hT, hB⟩; obtain ⟨vA, vc, rfl, hvc, hvr⟩ := Kd.R_reads hO; have HL4 : Aside0 (ChR w4 L ∧ L.map (·.2) = al a0 c0 (pw b0) [] Hd ∧ L.length = (al a0 c0 (pw b0) [] Hd).length) := ⟨hT.chR, hT.1, by rw [← hT.1, List.length_map]⟩; have HV4 : Aside0 (RdS w4 vA (L.map (·.1)).length (L.map (·.1))) := ⟨hvr⟩; have G4 := Aside0.mk (Later.heap hB G3.out); have L4 : Aside0 (Below w.heap.size w w4) := ⟨L3.out.trans (hB.mono L3.out.size)⟩; have R_T4 : Aside0 (RdB w4 BT T.length T) := ⟨Kd.C_below R_T3.out hB⟩; have R_H4 : Aside0 (RdB w4 BH Hd.length Hd) := ⟨Kd.C_below R_H.out hB⟩; clear hO hT hB hvr g0 g1 g2))
  have HFL := Aside0.mk (al_flat (mn := a0) (mx := c0) (p := pw b0) Hd)
  have HAG := Aside0.mk (fun k => al_again (mn := a0) (mx := c0) (p := pw b0) Hd T k)
  have HS := Aside0.mk (al_sizes (p := pw b0) (xs := Hd) m1 (by omega : a0 ≤ c0))
  have HCB : Aside0 ((al a0 c0 (pw b0) [] Hd).length ≤ 61) := ⟨by have := al_count (a := a0) (c := c0) (p := pw b0) (xs := Hd); have := Y_H.out.2; omega⟩
  obtain ⟨CH, hCH⟩ : ∃ CH, al a0 c0 (pw b0) [] Hd = CH := ⟨_, rfl⟩
  rw [hCH] at HS HFL HL4 HAG HCB
  have HLM : Aside0 ((L.map (·.1)).length = CH.length) := ⟨by rw [List.length_map]; exact HL4.out.2.2⟩
  rw [HLM.out] at HV4 hvc
  have HVC := Aside0.mk hvc
  rw [HL4.out.2.2]
  have HFB : Aside0 (∀ k, (CH.take k).flatten.length ≤ 60 ∧ Hd.take (CH.take k).flatten.length = (CH.take k).flatten) := ⟨fun k => by
    have h1 : Hd = (CH.take k).flatten ++ (CH.drop k).flatten := by rw [← List.flatten_append, List.take_append_drop, HFL.out]
    refine ⟨?_, by conv => lhs; rw [h1]
                   exact List.take_left⟩
    have h2 := congrArg List.length h1
    rw [List.length_append] at h2
    have := Y_H.out.2
    omega⟩
  clear hCH R_T R_H L1 L2 G2 G3 R_T3 hvc
  generalize w1.heap.size = gB at *
  go_loopw [11, 12] (fun wh i wr => ∃ k : Nat, (k + 1 ≤ CH.length ∨ k = 0) ∧ wh = .int .i64 ((CH.take k).flatten.length : Nat) ∧ i = .int .i64 k ∧ w4 = wr) (fun _ i _ => CH.length - (intOf i).toNat)
  case atStart => exact ⟨0, .inr rfl, by simp, by simp⟩
  case round =>
    obtain ⟨k, hk, rfl, rfl, rfl⟩ := hrel
    have hF := (HFB.out k).1
    have hcb := HCB.out
    by_cases hlt : k + 1 < CH.length
    · have hltI : (k : Int) + 1 < (CH.length : Int) := by omega
      obtain ⟨ad, rfl⟩ := rdS_some HV4.out (by omega)
      obtain ⟨Y, hY⟩ : ∃ Y, CH.getD k [] = Y := ⟨_, rfl⟩
      obtain ⟨ay, cy, hq1, -, -⟩ := chR_at HL4.out.1 HV4.out k (by omega)
      rw [HL4.out.2.1, hY] at hq1
      have HTK : Aside0 ((CH.take (k + 1)).flatten = (CH.take k).flatten ++ Y) := ⟨by rw [← hY]; exact take_flat (by omega)⟩
      obtain ⟨y1, y2, -⟩ := HS.out k (by omega)
      rw [hY] at y1 y2
      clear hY
      generalize hM : (CH.take k).flatten.length = M at *
      have HMM := Aside0.mk hM
      clear hM
      go_wp2
      go_roundw
      case rel => exact ⟨k + 1, .inl (by omega), by rw [HTK.out, List.length_append, HMM.out]; go_num, by go_num, trivial⟩
      case measure => simp [intOf]; omega
    · have hltI : ¬ (k : Int) + 1 < (CH.length : Int) := by omega
      obtain ⟨P, hP⟩ : ∃ P, (CH.take k).flatten = P := ⟨_, rfl⟩
      have hTP := (HFB.out k).2
      have HAGk := Aside0.mk (HAG.out k hk)
      rw [hP] at hF hTP HAGk
      rw [hP]
      have HPB : Aside0 (Bytes P) := ⟨by rw [← hTP]; exact Y_H.out.1.take _⟩
      obtain ⟨hcut, hrP⟩ := cutTo R_H4.out D_H.out (P.length : Int) (by omega) (by have := congrArg List.length hTP; rw [List.length_take] at this; omega)
      rw [Int.toNat_natCast] at hcut hrP
      rw [hTP] at hrP
      have HRP := Aside0.mk hrP
      have hPd : Aside0 (P.length ≤ dH) := ⟨by have := congrArg List.length hTP; rw [List.length_take] at this; have := D_H.out; omega⟩
      have hkm : k ≤ CH.length := by omega
      have hmax : max ((CH.length : Int) - 1) 0 = (k : Int) := by omega
      clear hP hTP hrP
      go_wp2_with (first
        | (go_at_call 7; (with_reducible refine at_cw w4 ?_); refine (few_new BH P.length dH P 60 w4 HRP.out hPd.out HPB.out (by omega) (by omega)).mono ?_; rintro e w5 ⟨B5, d5, P5, rfl, E5, -, O5, -, -, -, hB⟩; obtain rfl : P = P5 := (by rw [E5.out]; exact (List.take_of_length_le (by simpa using hF)).symm); have R_T5 := Aside0.mk (Kd.C_below R_T4.out hB); have L5 : Aside0 (Below w4.heap.size w4 w5) := ⟨hB⟩; clear hB E5)
        | (at_builtin; refine appBs (w0 := w4) w4.heap.size rfl (.tmp 42) (.tmp 43) rfl (.slice B5 P.length d5) P T BT T.length dT rfl rfl O5.out R_T5.out L5.out L5.out.size (by have := Y_T.out.2; omega) ?_; intro v6 w6 hO6 hB6 _ _; obtain ⟨B6, d6, rfl, hd6, hr6⟩ := hO6.reads; rw [List.length_append] at hr6; have R6 := Aside0.mk hr6; have L6 := Aside0.mk hB6; have R_T6 : Aside0 (RdB w6 BT T.length T) := ⟨Kd.C_below R_T4.out hB6⟩; have G6 := Aside0.mk (Later.heap hB6 G4.out); obtain ⟨g0, g1, g2⟩ := pm_cells G6.out; clear hO6 hB6 hr6 hd6)
        | (go_at_call 16; (with_reducible refine at_cw w6 ?_); refine (collect_calls a0 b0 c0 B6 (P.length + T.length) d6 (P ++ T) (al a0 c0 (pw b0) [] (P ++ T)) _ (tells_ok a0 b0 c0 B6 _ d6 (P ++ T) (HPB.out.append Y_T.out.1) HM.out (by have := Y_T.out.2; omega)) R6.out (by have h9 := al_count (a := a0) (c := c0) (p := pw b0) (xs := P ++ T); have := Y_T.out.2; rw [List.length_append] at h9; omega)).mono ?_; rw [HAGk.out]; rintro e w7 ⟨v, L2, rfl, hO, hT, hB⟩; obtain ⟨vB, vd, rfl, hvd, hvr⟩ := Kd.R_reads hO; have HL7 : Aside0 (ChR w7 L2 ∧ L2.map (·.2) = CH.take k ++ al a0 c0 (pw b0) [] T) := ⟨hT.chR, hT.1⟩; have hl2 : L2.length = k + (al a0 c0 (pw b0) [] T).length := (by have := congrArg List.length hT.1; simpa [Nat.min_eq_left hkm] using this); have HV7 : Aside0 (RdS w7 vB L2.length (L2.map (·.1)) ∧ L2.length ≤ vd) := ⟨by rw [List.length_map] at hvr; exact hvr, by rw [List.length_map] at hvd; exact hvd⟩; have hl2I : ¬ ((L2.length : Int) < (k : Int)) := (by omega); have HL2 := Aside0.mk hl2; have L7 : Aside0 (Below w4.heap.size w4 w7) := ⟨L6.out.trans (hB.mono L6.out.size)⟩; have G7 := Aside0.mk (Later.heap hB G6.out); have R_T7 : Aside0 (RdB w7 BT T.length T) := ⟨Kd.C_below R_T6.out hB⟩; clear hO hT hB hvr hvd g0 g1 g2 hl2)
        | fail)
      have hl2 := HL2.out
      obtain ⟨hcB, hrB⟩ := cutToS HV7.out.1 HV7.out.2 k (by omega)
      obtain ⟨hcA, hrA⟩ := cutToS (Kd.C_below HV4.out L7.out) HVC.out k hkm
      obtain ⟨D, dD, hcF, hrF⟩ : ∃ D dD, (∀ W : World, (Instr.slice 32 (.slice vB L2.length vd) (some (.int .i64 (k : Int))) none none).run Try.prog W = .ok (.slice D (L2.length - k) dD) W) ∧ RdS w7 D (L2.length - k) ((L2.map (·.1)).drop k) := by
        have h := cutFromS HV7.out.1 HV7.out.2 k (by omega)
        exact ⟨_, _, h.1, h.2⟩
      rw [← List.map_take] at hrA hrB
      rw [← List.map_drop] at hrF
      have HRA := Aside0.mk hrA
      have HRB := Aside0.mk hrB
      have HRF := Aside0.mk hrF
      have E1 : Aside0 ((L2.take k).map (·.2) = (L.take k).map (·.2)) := ⟨by
        rw [List.map_take, List.map_take, HL7.out.2, HL4.out.2.1, List.take_append_of_le_length (by rw [List.length_take]; omega), List.take_take, Nat.min_self]⟩
      have E2 : Aside0 ((L2.drop k).map (·.2) = al a0 c0 (pw b0) [] T) := ⟨by
        rw [List.map_drop, HL7.out.2, List.drop_append_of_le_length (by rw [List.length_take]; omega), List.drop_eq_nil_of_le (by rw [List.length_take]; omega), List.nil_append]⟩
      have HCT : Aside0 ((al a0 c0 (pw b0) [] T).length ≤ 81) := ⟨by have := al_count (a := a0) (c := c0) (p := pw b0) (xs := T); have := Y_T.out.2; omega⟩
      have HKB : Aside0 (k ≤ 61 ∧ L2.length ≤ 200) := ⟨by have := HCT.out; omega⟩
      clear hrA hrB hrF hl2 hmax hcut
      refine seq_start [] (.take 0 (.take 1 (.take 2 (.take 3 (.take 4 (.take 5 (.run 6 (.take 7 (.take 8 (.take 9 (.take 10 (.take 11 (.take 12 (.run 13 (.run 14 (.take 15 (.take 16 (.run 17 (.take 18 (.take 19 .done)))))))))))))))))))) (by kernel_rfl) (by kernel_rfl) (fun _ _ d _ _ h => by cases d <;> exact h) ?_
      refine seq_take (v := ?_) (a' := ?_) rfl rfl (by rfl) (fun w' hw' => ?_) ?_ ?_
      rotate_left 2
      · go_simp
        with_reducible rfl
      · simp only [Act.put, List.setIfInBounds_toArray, List.set_cons_zero, List.set_cons_succ, Go.Proofs.YtdbgbbodkoppdaaW.PrintLast.i64_w, Go.Proofs.YtdbgbbodkoppdaaW.PrintLast.i32_w]
        rfl
      refine seq_take (v := ?_) (a' := ?_) rfl rfl (by rfl) (fun w' hw' => ?_) ?_ ?_
      rotate_left 2
      · go_simp
        with_reducible rfl
      · simp only [Act.put, List.setIfInBounds_toArray, List.set_cons_zero, List.set_cons_succ, Go.Proofs.YtdbgbbodkoppdaaW.PrintLast.i64_w, Go.Proofs.YtdbgbbodkoppdaaW.PrintLast.i32_w]
        rfl
      refine seq_take (v := ?_) (a' := ?_) rfl rfl (by rfl) (fun w' hw' => ?_) ?_ ?_
      rotate_left 2
      · go_simp
        with_reducible rfl
      · simp only [Act.put, List.setIfInBounds_toArray, List.set_cons_zero, List.set_cons_succ, Go.Proofs.YtdbgbbodkoppdaaW.PrintLast.i64_w, Go.Proofs.YtdbgbbodkoppdaaW.PrintLast.i32_w]
        rfl
      refine seq_take (v := ?_) (a' := ?_) rfl rfl (by rfl) (fun w' hw' => ?_) ?_ ?_
      rotate_left 2
      · go_simp
        with_reducible rfl
      · simp only [Act.put, List.setIfInBounds_toArray, List.set_cons_zero, List.set_cons_succ, Go.Proofs.YtdbgbbodkoppdaaW.PrintLast.i64_w, Go.Proofs.YtdbgbbodkoppdaaW.PrintLast.i32_w]
        rfl
      refine seq_take (v := ?_) (a' := ?_) rfl rfl (by rfl) (fun w' hw' => ?_) ?_ ?_
      rotate_left 2
      · go_simp
        with_reducible rfl
      · simp only [Act.put, List.setIfInBounds_toArray, List.set_cons_zero, List.set_cons_succ, Go.Proofs.YtdbgbbodkoppdaaW.PrintLast.i64_w, Go.Proofs.YtdbgbbodkoppdaaW.PrintLast.i32_w]
        rfl
      refine seq_take (v := ?_) (a' := ?_) rfl rfl (by rfl) (fun w' hw' => ?_) ?_ ?_
      rotate_left 2
      · go_simp
        with_reducible rfl
      · simp only [Act.put, List.setIfInBounds_toArray, List.set_cons_zero, List.set_cons_succ, Go.Proofs.YtdbgbbodkoppdaaW.PrintLast.i64_w, Go.Proofs.YtdbgbbodkoppdaaW.PrintLast.i32_w]
        rfl
      refine seq_run ?_
      refine do_call rfl rfl (by rfl) rfl Try.func13 (by kernel_rfl) rfl #[.slice vB k vd, .slice vA k vc] (by simp only [List.map_toArray, List.map_cons, List.map_nil]; rfl) ?_
      with_reducible refine (same_calls vB vA k k vd vc (L2.take k) (L.take k) w7.drew (Kd.C_drew HRB.out) (Kd.C_drew HRA.out) (HL7.out.1.take k).drewC ((HL4.out.1.below L7.out).take k).drewC E1.out (by have := HKB.out; omega)).mono ?_
      rintro e w8 ⟨rfl, hB8⟩
      refine ⟨_, ?_, rfl, ?_, fun _ => hB8, ?_⟩
      rotate_left
      · simp only [Act.put, List.setIfInBounds_toArray, List.set_cons_zero, List.set_cons_succ, Go.Proofs.YtdbgbbodkoppdaaW.PrintLast.i64_w, Go.Proofs.YtdbgbbodkoppdaaW.PrintLast.i32_w]
        rfl
      have L8 : Aside0 (Below w7.heap.size w7 w8) := ⟨(Below.drew (Below.refl w7.heap.size w7)).trans hB8⟩
      have G8 := Aside0.mk (Later.heap L8.out G7.out)
      refine seq_take (v := ?_) (a' := ?_) rfl rfl (by rfl) (fun w' hw' => ?_) ?_ ?_
      rotate_left 2
      · go_simp
        with_reducible rfl
      · simp only [Act.put, List.setIfInBounds_toArray, List.set_cons_zero, List.set_cons_succ, Go.Proofs.YtdbgbbodkoppdaaW.PrintLast.i64_w, Go.Proofs.YtdbgbbodkoppdaaW.PrintLast.i32_w]
        rfl
      refine seq_take (v := ?_) (a' := ?_) rfl rfl (by rfl) (fun w' hw' => ?_) ?_ ?_
      rotate_left 2
      · go_simp
        with_reducible rfl
      · simp only [Act.put, List.setIfInBounds_toArray, List.set_cons_zero, List.set_cons_succ, Go.Proofs.YtdbgbbodkoppdaaW.PrintLast.i64_w, Go.Proofs.YtdbgbbodkoppdaaW.PrintLast.i32_w]
        rfl
      refine seq_take (v := ?_) (a' := ?_) rfl rfl (by rfl) (fun w' hw' => ?_) ?_ ?_
      rotate_left 2
      · go_simp
        with_reducible rfl
      · simp only [Act.put, List.setIfInBounds_toArray, List.set_cons_zero, List.set_cons_succ, Go.Proofs.YtdbgbbodkoppdaaW.PrintLast.i64_w, Go.Proofs.YtdbgbbodkoppdaaW.PrintLast.i32_w]
        rfl
      refine seq_take (v := ?_) (a' := ?_) rfl rfl (by rfl) (fun w' hw' => ?_) ?_ ?_
      rotate_left 2
      · go_simp
        with_reducible rfl
      · simp only [Act.put, List.setIfInBounds_toArray, List.set_cons_zero, List.set_cons_succ, Go.Proofs.YtdbgbbodkoppdaaW.PrintLast.i64_w, Go.Proofs.YtdbgbbodkoppdaaW.PrintLast.i32_w]
        rfl
      refine seq_take (v := ?_) (a' := ?_) rfl rfl (by rfl) (fun w' hw' => ?_) ?_ ?_
      rotate_left 2
      · go_simp
        with_reducible rfl
      · simp only [Act.put, List.setIfInBounds_toArray, List.set_cons_zero, List.set_cons_succ, Go.Proofs.YtdbgbbodkoppdaaW.PrintLast.i64_w, Go.Proofs.YtdbgbbodkoppdaaW.PrintLast.i32_w]
        rfl
      refine seq_take (v := ?_) (a' := ?_) rfl rfl (by rfl) (fun w' hw' => ?_) ?_ ?_
      rotate_left 2
      · obtain ⟨g0, g1, g2⟩ := pm_cells (Later.heap hw' G8.out); go_simp
        with_reducible rfl
      · simp only [Act.put, List.setIfInBounds_toArray, List.set_cons_zero, List.set_cons_succ, Go.Proofs.YtdbgbbodkoppdaaW.PrintLast.i64_w, Go.Proofs.YtdbgbbodkoppdaaW.PrintLast.i32_w]
        rfl
      refine seq_run ?_
      refine do_call rfl rfl (by rfl) rfl Try.func16 (by kernel_rfl) rfl #[.slice BT T.length dT, .agg #[.int .i64 (a0 : Int), .int .i64 (b0 : Int), .int .i64 (c0 : Int)]] (by simp only [List.map_toArray, List.map_cons, List.map_nil]; rfl) ?_
      with_reducible refine (collect_calls a0 b0 c0 BT T.length dT T (al a0 c0 (pw b0) [] T) w8 (tells_ok a0 b0 c0 BT _ dT T Y_T.out.1 HM.out (by have := Y_T.out.2; omega)) (Kd.C_below R_T7.out L8.out) (by have := HCT.out; omega)).mono ?_
      rintro e w9 ⟨v, L3, rfl, hO, hT, hB9⟩
      refine ⟨_, ?_, rfl, ?_, fun _ => hB9, ?_⟩
      rotate_left
      · simp only [Act.put, List.setIfInBounds_toArray, List.set_cons_zero, List.set_cons_succ, Go.Proofs.YtdbgbbodkoppdaaW.PrintLast.i64_w, Go.Proofs.YtdbgbbodkoppdaaW.PrintLast.i32_w]
        rfl
      obtain ⟨vE, ve, rfl, hve, hvr⟩ := Kd.R_reads hO
      have hl3 : L3.length = (al a0 c0 (pw b0) [] T).length := by rw [← hT.1, List.length_map]
      rw [List.length_map] at hvr
      have HVE := Aside0.mk hvr
      have HT3 := Aside0.mk hT
      have HT3E := Aside0.mk hT.1
      have L9 : Aside0 (Below w7.heap.size w7 w9) := ⟨L8.out.trans (Below.mono hB9 L8.out.size)⟩
      have HL3 : Aside0 (L3.length = L2.length - k) := ⟨by have := HL2.out; omega⟩
      rw [List.length_map]
      clear hO hT hB9 hvr hve hl3
      refine seq_run ?_
      refine do_call rfl rfl (by rfl) rfl Try.func13 (by kernel_rfl) rfl #[.slice D (L2.length - k) dD, .slice vE L3.length ve] (by simp only [List.map_toArray, List.map_cons, List.map_nil]; rfl) ?_
      with_reducible refine (same_calls D vE (L2.length - k) L3.length dD ve (L2.drop k) L3 w9 (Kd.C_below HRF.out L9.out) HVE.out ((HL7.out.1.below L9.out).drop k) HT3.out.chR (by rw [E2.out]; exact HT3E.out.symm) (by have := HKB.out; omega)).mono ?_
      rintro e w10 ⟨rfl, hB10⟩
      refine ⟨_, ?_, rfl, ?_, fun _ => hB10, ?_⟩
      rotate_left
      · simp only [Act.put, List.setIfInBounds_toArray, List.set_cons_zero, List.set_cons_succ, Go.Proofs.YtdbgbbodkoppdaaW.PrintLast.i64_w, Go.Proofs.YtdbgbbodkoppdaaW.PrintLast.i32_w]
        rfl
      have L10 : Aside0 (Below w7.heap.size w7 w10) := ⟨L9.out.trans (Below.mono hB10 L9.out.size)⟩
      clear hB10
      refine seq_take (v := ?_) (a' := ?_) rfl rfl (by rfl) (fun w' hw' => ?_) ?_ ?_
      rotate_left 2
      · go_simp
        with_reducible rfl
      · simp only [Act.put, List.setIfInBounds_toArray, List.set_cons_zero, List.set_cons_succ, Go.Proofs.YtdbgbbodkoppdaaW.PrintLast.i64_w, Go.Proofs.YtdbgbbodkoppdaaW.PrintLast.i32_w]
        rfl
      refine seq_take (v := ?_) (a' := ?_) rfl rfl (by rfl) (fun w' hw' => ?_) ?_ ?_
      rotate_left 2
      · go_simp
        with_reducible rfl
      · simp only [Act.put, List.setIfInBounds_toArray, List.set_cons_zero, List.set_cons_succ, Go.Proofs.YtdbgbbodkoppdaaW.PrintLast.i64_w, Go.Proofs.YtdbgbbodkoppdaaW.PrintLast.i32_w]
        rfl
      refine seq_run ?_
      refine do_call rfl rfl (by rfl) rfl Try.func15 (by kernel_rfl) rfl #[] (by simp only [List.map_toArray, List.map_nil]) ?_
      with_reducible refine (lives_calls w10).mono ?_
      rintro e w11 ⟨rfl, hB11⟩
      refine ⟨_, ?_, rfl, ?_, fun _ => hB11, ?_⟩
      rotate_left
      · simp only [Act.put, List.setIfInBounds_toArray, List.set_cons_zero, List.set_cons_succ, Go.Proofs.YtdbgbbodkoppdaaW.PrintLast.i64_w, Go.Proofs.YtdbgbbodkoppdaaW.PrintLast.i32_w]
        rfl
      have L11 : Aside0 (Below w7.heap.size w7 w11) := ⟨L10.out.trans (Below.mono hB11 L10.out.size)⟩
      clear hB11
      refine seq_take (v := ?_) (a' := ?_) rfl rfl (by rfl) (fun w' hw' => ?_) ?_ ?_
      rotate_left 2
      · go_simp
        with_reducible rfl
      · simp only [Act.put, List.setIfInBounds_toArray, List.set_cons_zero, List.set_cons_succ, Go.Proofs.YtdbgbbodkoppdaaW.PrintLast.i64_w, Go.Proofs.YtdbgbbodkoppdaaW.PrintLast.i32_w]
        rfl
      refine seq_take (v := ?_) (a' := ?_) rfl rfl (by rfl) (fun w' hw' => ?_) ?_ ?_
      rotate_left 2
      · go_simp
        with_reducible rfl
      · simp only [Act.put, List.setIfInBounds_toArray, List.set_cons_zero, List.set_cons_succ, Go.Proofs.YtdbgbbodkoppdaaW.PrintLast.i64_w, Go.Proofs.YtdbgbbodkoppdaaW.PrintLast.i32_w]
        rfl
      refine seq_end ?_
      go_wp2
      go_ret
      have h7 := below_tr L4.out L7.out L4.out.size
      exact ⟨rfl, below_tr h7 L11.out h7.size⟩
end Go.Proofs.Ytdbgbbodkoppdaa
