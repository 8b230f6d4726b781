/- The law CutBounds: its walk. Conditions: what each argument reads. -/
import Derived.Test.YtdbgbbodkoppdaaOpenP
namespace Go.Proofs.Ytdbgbbodkoppdaa
open Go.RowKit Go.Shelf Go.Proofs.YtdbgbbodkoppdaaW.PrintWords Go.Proofs.YtdbgbbodkoppdaaW.PrintMore
set_option linter.unusedVariables false
set_option linter.unusedSimpArgs false
/-- Numbers that Good makes. -/
theorem good_nat (a b c : Int) : ∃ a0 b0 c0 : Nat, gA a = a0 ∧ gB a b = b0 ∧ gC a b c = c0 ∧ 1 ≤ a0 ∧ a0 ≤ b0 ∧ b0 ≤ c0 ∧ c0 ≤ 70 ∧ mayB a0 b0 c0 = true := by
  obtain ⟨h1, h2, h3, h4, h5, h6⟩ := good_range a b c
  obtain ⟨a0, ha⟩ := Int.eq_ofNat_of_zero_le (show (0 : Int) ≤ gA a by omega)
  obtain ⟨b0, hb⟩ := Int.eq_ofNat_of_zero_le (show (0 : Int) ≤ gB a b by omega)
  obtain ⟨c0, hc⟩ := Int.eq_ofNat_of_zero_le (show (0 : Int) ≤ gC a b c by omega)
  refine ⟨a0, b0, c0, ha, hb, hc, by omega, by omega, by omega, by omega, ?_⟩
  unfold mayB
  simp
  omega
theorem al_count {a c p : Nat} {xs : List Int} : (al a c p [] xs).length ≤ xs.length + 1 := by
  unfold al
  rw [List.length_append]
  have := wrL_count a c p xs []
  split <;> simp <;> omega
/-- Each chunk's size. -/
theorem al_sizes {a c p : Nat} {xs : List Int} (h1 : 1 ≤ a) (h2 : a ≤ c) : ∀ k, k < (al a c p [] xs).length → 1 ≤ ((al a c p [] xs).getD k []).length ∧ ((al a c p [] xs).getD k []).length ≤ c ∧ (k + 1 < (al a c p [] xs).length → a ≤ ((al a c p [] xs).getD k []).length) := by
  obtain ⟨hs, hr⟩ := wrL_sizes (p := p) h2 xs [] (by simp; omega)
  intro k hk
  unfold al at hk ⊢
  rw [List.getD_eq_getElem?_getD]
  by_cases hl : k < (wrL a c p [] xs).1.length
  · rw [List.getElem?_append_left hl, List.getElem?_eq_getElem hl]
    have := hs _ (List.getElem_mem hl)
    simp only [Option.getD_some]
    omega
  · rw [List.getElem?_append_right (by omega)]
    rw [List.length_append] at hk
    split at hk
    · simp at hk; omega
    · rename_i hne
      simp only [List.length_append, if_neg hne, List.length_singleton] at hk ⊢
      obtain rfl : k = (wrL a c p [] xs).1.length := by omega
      simp
      have := List.length_pos_iff.2 hne
      omega
theorem take_flat {CH : List (List Int)} {k : Nat} (h : k < CH.length) : (CH.take (k + 1)).flatten = (CH.take k).flatten ++ CH.getD k [] := by
  have e : CH.take (k + 1) = CH.take k ++ [CH.getD k []] := by
    rw [List.take_add_one, List.getD_eq_getElem?_getD, List.getElem?_eq_getElem h]; rfl
  rw [e, List.flatten_append]
  simp
set_option maxRecDepth 20000 in
set_option maxHeartbeats 1600000 in
theorem cutBounds_walk (A : Option Addr) (n cp : Nat) (xb : List Int) (pa pb pc : Int) (w : World) (h : RdB w A n xb) (hc : n ≤ cp) (hb : Bytes xb) (ha0 : -9223372036854775808 ≤ pa) (ha1 : pa ≤ 9223372036854775807) (hb0 : -9223372036854775808 ≤ pb) (hb1 : pb ≤ 9223372036854775807) (hc0 : -9223372036854775808 ≤ pc) (hc1 : pc ≤ 9223372036854775807) :
    Calls Try.prog 4 #[.slice A n cp, .agg #[.int .i64 pa, .int .i64 pb, .int .i64 pc]] w fun e w' => e = .returned (.bool true) ∧ Below w.heap.size w w' := by
  have H := Aside0.mk h
  have HBY := Aside0.mk hb
  have hgc := fun (w : World) => good_calls pa pb pc w ha0 ha1 hb0 hb1 hc0 hc1
  obtain ⟨a0, b0, c0, ea, eb, ec, m1, m2, m3, m4, hm⟩ := good_nat pa pb pc
  simp only [ea, eb, ec] at hgc
  have HGC := Aside0.mk hgc
  have HM := Aside0.mk hm
  clear h hb hgc hm ea eb ec ha0 ha1 hb0 hb1 hc0 hc1
  go_enter Try.func4, Try.ntmps4
  go_wp2_with (first
    | (go_at_call 7; refine (few_new A n cp xb 200 _ (Kd.C_alloc H.out _) hc HBY.out (by omega) (by omega)).mono ?_; rintro e w1 ⟨BX, dX, X, rfl, E_X, hby, O_X, hd_X, hyl, R_X, hB⟩; have L1 : Aside0 (Below w.heap.size w w1) := ⟨Below.trans (below_alloc (Below.refl _ w) _) (hB.mono (by simp))⟩; have HBX := Aside0.mk (Later.heap hB (blk_new w (.cells #[.int .i64 pa, .int .i64 pb, .int .i64 pc] 24))); obtain ⟨q0, q1, q2⟩ := pm_cells HBX.out; have Y_X : Aside0 (Bytes X ∧ X.length ≤ 200) := ⟨hby, hyl⟩; have D_X := Aside0.mk hd_X; clear hB hby hd_X hyl)
    | (go_at_call 8; refine (HGC.out _).mono ?_; rintro e w2 ⟨rfl, hB⟩; have L2 := Aside0.mk hB; clear hB)
    | (go_at_call 16; refine (collect_calls a0 b0 c0 BX X.length dX X (al a0 c0 (pw b0) [] X) _ (tells_ok a0 b0 c0 BX _ dX X Y_X.out.1 HM.out (by have := Y_X.out.2; omega)) (Kd.C_alloc (Kd.C_below R_X.out L2.out) _) (by have := al_count (a := a0) (c := c0) (p := pw b0) (xs := X); have := Y_X.out.2; omega)).mono ?_; rintro e w4 ⟨v, L, rfl, hO, hT, hB⟩; obtain ⟨vA, vc, rfl, hvc, hvr⟩ := Kd.R_reads hO; have HL4 : Aside0 (ChR w4 L ∧ L.map (·.2) = al a0 c0 (pw b0) [] X ∧ L.length = (al a0 c0 (pw b0) [] X).length) := ⟨hT.chR, hT.1, by rw [← hT.1, List.length_map]⟩; have HV4 : Aside0 (RdS w4 vA (L.map (·.1)).length (L.map (·.1))) := ⟨hvr⟩; have HG4 := Aside0.mk (Later.heap hB (blk_new w2 (.cells #[.int .i64 (a0 : Int), .int .i64 (b0 : Int), .int .i64 (c0 : Int)] 24))); have L4 : Aside0 (Below w.heap.size w w4) := ⟨L1.out.trans ((L2.out.trans (Below.mono (Below.trans (below_alloc (Below.refl _ w2) _) (hB.mono (by simp))) L2.out.size)).mono L1.out.size)⟩; have R4 : Aside0 (RdB w4 BX X.length X) := ⟨Kd.C_below (Kd.C_alloc (Kd.C_below R_X.out L2.out) _) hB⟩; clear hO hT hB hvr))
  have HS := Aside0.mk (al_sizes (p := pw b0) (xs := X) m1 (by omega : a0 ≤ c0))
  have HFL := Aside0.mk (al_flat (mn := a0) (mx := c0) (p := pw b0) X)
  obtain ⟨CH, hCH⟩ : ∃ CH, al a0 c0 (pw b0) [] X = CH := ⟨_, rfl⟩
  rw [hCH] at HS HFL HL4
  have HLM : Aside0 ((L.map (·.1)).length = CH.length) := ⟨by rw [List.length_map]; exact HL4.out.2.2⟩
  rw [HLM.out] at HV4 hvc
  rw [HL4.out.2.2]
  have HCB : Aside0 (CH.length ≤ 201) := ⟨by rw [← hCH]; have := al_count (a := a0) (c := c0) (p := pw b0) (xs := X); have := Y_X.out.2; omega⟩
  have HFB : Aside0 (∀ k, (CH.take k).flatten.length ≤ 200) := ⟨fun k => by
    have h1 := congrArg List.length HFL.out
    rw [← List.take_append_drop k CH, List.flatten_append, List.length_append] at h1
    have := Y_X.out.2
    omega⟩
  obtain ⟨g0, g1, g2⟩ := pm_cells HG4.out
  clear hCH E_X O_X R_X HBX L1 L2 g1 q0 q1 q2 hvc
  generalize w2.heap.size = gB at *
  go_loopw [8, 9] (fun vo i wr => ∃ k : Nat, k ≤ CH.length ∧ i = .int .i64 k ∧ OwB wr w4.heap.size vo (CH.take k).flatten ∧ Below w4.heap.size w4 wr) (fun _ i _ => CH.length - (intOf i).toNat)
  case atStart => exact ⟨0, Nat.zero_le _, rfl, Kd.R_nil _ _ _ _ _, Below.refl _ _⟩
  case round =>
    clear g0 g2
    obtain ⟨k, hk, rfl, hO, hB⟩ := hrel
    have HO := Aside0.mk hO
    have HB := Aside0.mk hB
    clear hO hB
    by_cases hlt : k < CH.length
    · obtain ⟨ad, rfl⟩ := rdS_some HV4.out (by omega)
      obtain ⟨Y, hY⟩ : ∃ Y, CH.getD k [] = Y := ⟨_, rfl⟩
      obtain ⟨ay, cy, hc1, hr1, -⟩ := chR_at HL4.out.1 HV4.out k hlt
      rw [HL4.out.2.1, hY] at hc1 hr1
      have HTK : Aside0 ((CH.take (k + 1)).flatten = (CH.take k).flatten ++ Y) := ⟨by rw [← hY]; exact take_flat hlt⟩
      obtain ⟨y1, y2, y3⟩ := HS.out k hlt
      rw [hY] at y1 y2 y3
      have HC4 := Aside0.mk hc1
      replace hc1 := pw_cell_below HB.out hc1
      have HR1 := Aside0.mk (Kd.C_below hr1 HB.out)
      have HF := HFB.out k
      clear hr1 hY
      go_wp2_with (first
        | (at_builtin; refine appBs (w0 := wr) w4.heap.size rfl (.tmp 23) (.tmp 27) rfl u8 (CH.take k).flatten Y ay Y.length cy rfl rfl HO.out HR1.out (Below.refl _ _) HB.out.size (by omega) ?_; intro v5 w5 hO5 hB5 _ _; have HO5 := Aside0.mk hO5; have HB5 : Aside0 (Below w4.heap.size w4 w5) := ⟨HB.out.trans (hB5)⟩; clear hO5 hB5)
        | fail)
      have hc5 := pw_cell_below HB5.out HC4.out
      obtain ⟨g0, g1, g2⟩ := pm_cells (Later.heap HB5.out HG4.out)
      have hI1 : ¬ (c0 : Int) < (Y.length : Int) := by omega
      have hI2 : ((Y.length : Int) == 0) = false := by rw [beq_eq_false_iff_ne]; omega
      have hwk : IntKind.i64.wrap ((k : Int) + 1) = (k : Int) + 1 := by
        have := HCB.out
        rw [IntKind.wrap_i64]; omega
      clear hc1
      by_cases hk1 : k + 1 < CH.length
      · have hI3 : ¬ (Y.length : Int) < (a0 : Int) := by have := y3 hk1; omega
        have hI4 : (k : Int) + 1 < (CH.length : Int) := by omega
        clear y3
        go_quiet (fail)
        clear hI1 hI2 hI3 hI4 g0 g1 g2 hc5
        have HO6 : Aside0 (OwB (w5.drewN nq) w4.heap.size v5 (CH.take (k + 1)).flatten) := ⟨by rw [HTK.out]; exact OwB.below HO5.out (pw_below_drewN (Below.refl w5.heap.size w5) nq)⟩
        have HB6 : Aside0 (Below w4.heap.size w4 (w5.drewN nq)) := ⟨HB5.out.trans ((pw_below_drewN (Below.refl w5.heap.size w5) nq).mono HB5.out.size)⟩
        generalize w5.drewN nq = w6 at *
        go_wp2
        clear hwk
        have hcb := HCB.out
        go_roundw
        case rel => first | exact ⟨k + 1, by omega, rfl, HO6.out, HB6.out⟩ | trace_state
        case measure => simp [intOf]; omega
      · have hI4 : ¬ (k : Int) + 1 < (CH.length : Int) := by omega
        clear y3
        go_quiet (fail)
        clear hI1 hI2 hI4 g0 g1 g2 hc5
        have HO6 : Aside0 (OwB (w5.drewN nq) w4.heap.size v5 (CH.take (k + 1)).flatten) := ⟨by rw [HTK.out]; exact OwB.below HO5.out (pw_below_drewN (Below.refl w5.heap.size w5) nq)⟩
        have HB6 : Aside0 (Below w4.heap.size w4 (w5.drewN nq)) := ⟨HB5.out.trans ((pw_below_drewN (Below.refl w5.heap.size w5) nq).mono HB5.out.size)⟩
        generalize w5.drewN nq = w6 at *
        go_wp2
        clear hwk
        have hcb := HCB.out
        go_roundw
        case rel => first | exact ⟨k + 1, by omega, rfl, HO6.out, HB6.out⟩ | trace_state
        case measure => simp [intOf]; omega
    · obtain rfl : k = CH.length := by omega
      have HO9 := HO.out
      rw [List.take_length, HFL.out] at HO9
      obtain ⟨oa, oc, rfl, -, hor⟩ := HO9.reads
      have hs1 := conv_str hor oc
      have hs2 := conv_str (Kd.C_below R4.out HB.out) dX
      clear HO9 hor
      go_wp2_with (go_at_call 15; refine (lives_calls _).mono ?_; rintro e w7 ⟨rfl, hB7⟩; have HB7 := Aside0.mk hB7; clear hB7)
      (try simp only [Exit.inBlock, Exit.then])
      have hB := below_tr L4.out HB.out L4.out.size
      exact bodyPost_ret (results_tmp rfl _ _ _) rfl ⟨rfl, below_tr hB HB7.out hB.size⟩
end Go.Proofs.Ytdbgbbodkoppdaa
