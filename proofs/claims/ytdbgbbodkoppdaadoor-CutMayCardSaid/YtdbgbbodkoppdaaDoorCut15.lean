/- The law CutMay: its walk. Conditions: what each argument reads, and what sha's table of roots holds. -/
import Derived.Test.YtdbgbbodkoppdaaDoorCutR
import Derived.Test.YtdbgbbodkoppdaaDoorOpenP
import Derived.Deep.CutBlock
namespace Go.Proofs.YtdbgbbodkoppdaaDoor
open Go.RowKit Go.Shelf Go.Proofs.YtdbgbbodkoppdaaDoorW.PrintWords Go.Proofs.YtdbgbbodkoppdaaDoorW.PrintMore
set_option linter.unusedVariables false
set_option linter.unusedSimpArgs false
theorem mask_bad (a b c : Int) (w : World) (h : mayB a b c = false) : Calls Tryd.prog 13 #[.agg #[.int .i64 a, .int .i64 b, .int .i64 c]] w fun e w' => e = .returned (.int .u32 0) ∧ Below w.heap.size w w' := by
  have HM := Aside0.mk h
  clear h
  go_enter Tryd.func13, Tryd.ntmps13
  go_wp2_with (go_at_call 12; refine (may_calls a b c _).mono ?_; rw [HM.out]; rintro e w1 ⟨rfl, hB⟩; have HB1 := Aside0.mk hB; clear hB)
  (try simp only [Exit.inBlock, Exit.then])
  exact bodyPost_ret (results_tmp rfl _ _ _) rfl ⟨rfl, Below.trans (below_alloc (Below.refl _ w) _) (HB1.out.mono (by simp))⟩
def P3 (a b c : Int) : List Value := [.int .i64 a, .int .i64 b, .int .i64 c]
theorem p3_size (a b c : Int) : (Tryd.prog.info? 23).map (·.size) = some (P3 a b c).length := by kernel_rfl
theorem infoP : (Tryd.prog.info? 23).map (fun i => (i.zero, i.size, i.bytes)) = some (some (.agg #[.int .i64 0, .int .i64 0, .int .i64 0]), 3, 24) := by kernel_rfl
theorem mayB_nat {a b c : Int} (h : mayB a b c = true) : ∃ a0 b0 c0 : Nat, a = a0 ∧ b = b0 ∧ c = c0 ∧ 1 ≤ a0 ∧ a0 ≤ b0 ∧ b0 ≤ c0 ∧ c0 ≤ 4096 := by
  unfold mayB at h
  simp at h
  obtain ⟨a0, rfl⟩ := Int.eq_ofNat_of_zero_le (show (0 : Int) ≤ a by omega)
  obtain ⟨b0, rfl⟩ := Int.eq_ofNat_of_zero_le (show (0 : Int) ≤ b by omega)
  obtain ⟨c0, rfl⟩ := Int.eq_ofNat_of_zero_le (show (0 : Int) ≤ c by omega)
  exact ⟨a0, b0, c0, rfl, rfl, rfl, by omega, by omega, by omega, by omega⟩
/-- One of three. -/
theorem three_at {w : World} {g T : Nat} {fr : Nat × Nat} {a b c a' b' c' a'' b'' c'' : Int} (h : w.heap[g]? = some (.cells [P3 a b c, P3 a' b' c', P3 a'' b'' c''].flatten.toArray T fr)) (k : Nat) (hk : k < 3) :
    ∃ x y z : Int, w.rangeAt g (k * 3) (P3 x y z) := by
  have hv : ∀ v ∈ [P3 a b c, P3 a' b' c', P3 a'' b'' c''], v.length = 3 := by simp [P3]
  match k, hk with
  | 0, _ => exact ⟨a, b, c, rows_range h hv rfl⟩
  | 1, _ => exact ⟨a', b', c', rows_range h hv rfl⟩
  | 2, _ => exact ⟨a'', b'', c'', rows_range h hv rfl⟩
theorem abc_by : Bytes [97, 98, 99] := by intro x hx; simp at hx; omega
theorem abc_count {a c p : Nat} : (al a c p [] [97, 98, 99]).length ≤ 4 := al_count
set_option maxRecDepth 20000 in
set_option maxHeartbeats 6400000 in
theorem cutMay_walk (pa pb pc wh nn : Int) (w : World) (ha0 : -9223372036854775808 ≤ pa) (ha1 : pa ≤ 9223372036854775807) (hb0 : -9223372036854775808 ≤ pb) (hb1 : pb ≤ 9223372036854775807) (hc0 : -9223372036854775808 ≤ pc) (hc1 : pc ≤ 9223372036854775807) (hw0 : -9223372036854775808 ≤ wh) (hw1 : wh ≤ 9223372036854775807) (hK : Roots w) :
    Calls Tryd.prog 3 #[.agg #[.int .i64 pa, .int .i64 pb, .int .i64 pc], .int .i64 wh, .int .i64 nn] w fun e w' => e = .returned (.bool true) ∧ Below w.heap.size w w' := by
  have kc := fun (w : World) (C : Array Value) (n c : Nat) => Lib.run_convert_bytes_const (P := Tryd.prog) w 35 5 C n c Tryd.underlying35 Tryd.underlying5
  have HGC := Aside0.mk (fun (w : World) => good_calls pa pb pc w ha0 ha1 hb0 hb1 hc0 hc1)
  have HAC := Aside0.mk (fun (w : World) => around_calls wh 3 w hw0 hw1 (by omega) (by omega))
  obtain ⟨hr0, hr1⟩ := around_range wh 3 (by omega)
  have HK := Aside0.mk hK
  clear hK ha0 ha1 hb0 hb1 hc0 hc1 hw0 hw1
  generalize around wh 3 = kk at *
  generalize gA pa = ga at *
  generalize gB pa pb = gb at *
  generalize gC pa pb pc = gc at *
  go_enter Tryd.func3, Tryd.ntmps3
  go_upto_block 0 with (first
    | (go_at_call 5; refine (HGC.out _).mono ?_; rintro e w2 ⟨rfl, hB⟩; have HB2 := Aside0.mk (Below.trans (below_alloc (Below.refl _ w) (.cells #[.int .i64 pa, .int .i64 pb, .int .i64 pc] 23)) (hB.mono (by simp))); have HBX := Aside0.mk (Later.heap hB (blk_new w (.cells #[.int .i64 pa, .int .i64 pb, .int .i64 pc] 23))); clear hB)
    | (go_at_call 6; refine (HAC.out _).mono ?_; rintro e u0 ⟨rfl, rfl⟩))
  obtain ⟨w3, hw3⟩ : ∃ w3, w3 = (w2.alloc (.cells #[.int .i64 ga, .int .i64 gb, .int .i64 gc] 23)).alloc (.cells #[.int .i64 ga, .int .i64 gb, .int .i64 gc] 23) := ⟨_, rfl⟩
  have F1 : Aside0 (w3.heap[w2.heap.size]? = some (.cells #[.int .i64 ga, .int .i64 gb, .int .i64 gc] 23 (0, 0))) := ⟨by rw [hw3]; exact heap_alloc2_old w2 _ _⟩
  have F2 : Aside0 (w3.heap[w2.heap.size + 1]? = some (.cells #[.int .i64 ga, .int .i64 gb, .int .i64 gc] 23 (0, 0))) := ⟨by rw [hw3]; exact heap_alloc2_new w2 _ _⟩
  have F3 : Aside0 (Below w2.heap.size w2 w3) := ⟨by rw [hw3]; exact ((Below.refl _ _).alloc (Nat.le_refl _) _).alloc (by simp) _⟩
  rw [← hw3]
  have hsz : w.heap.size < w2.heap.size := blk_lt HBX.out
  have hf2 : ∀ j, w3.frozen? ⟨w2.heap.size + 1, j, none⟩ = false := fun j => blk_frozen F2.out j
  obtain ⟨c0, c1, c2⟩ := pm_cells F2.out
  clear hw3
  go_cut [8] (fun p w' => p = .pointer (some ⟨w2.heap.size + 1, 0, none⟩) ∧ ∃ oa ob oc : Int, SetBlk w3 w' (w2.heap.size + 1) (.cells #[.int .i64 oa, .int .i64 ob, .int .i64 oc] 23 (0, 0)))
  case first =>
    by_cases h0 : kk = 0
    · subst h0
      go_wp2
      go_meet
      case rel => exact ⟨rfl, nn, gb, gc, setBlk_cell F2.out _⟩
    · have h0B : (kk == 0) = false := by simp [h0]
      by_cases h1 : kk = 1
      · subst h1
        go_wp2
        go_meet
        case rel => exact ⟨rfl, ga, nn, gc, setBlk_cell F2.out _⟩
      · have h1B : (kk == 1) = false := by simp [h1]
        go_wp2
        go_meet
        case rel => exact ⟨rfl, ga, gb, nn, setBlk_cell F2.out _⟩
  case rest =>
    obtain ⟨rfl, oa, ob, oc, hS⟩ := hcut
    clear c0 c1 c2 hf2
    have HS := Aside0.mk hS
    have B3 : Aside0 (Below w2.heap.size w2 wc) := ⟨F3.out.trans (hS.below (by omega))⟩
    obtain ⟨p0, p1, p2⟩ := pm_cells (Later.heap B3.out HBX.out)
    obtain ⟨q0, q1, q2⟩ := pm_cells (hS.blk (by omega) F1.out)
    obtain ⟨r0, r1, r2⟩ := pm_cells hS.at_
    obtain ⟨it, hi, hz, hs, _⟩ := info_parts infoP
    have hv3 : ∀ v ∈ [P3 pa pb pc, P3 ga gb gc, P3 oa ob oc], v.length = 3 := by simp [P3]
    clear hS
    go_wp2_with (first
      | ((with_reducible refine at_bs 26 ?_); refine rows_arm rfl _ _ rfl Tryd.underlying26 hi hz hs [P3 pa pb pc, P3 ga gb gc, P3 oa ob oc] hv3 (show 3 * 3 ≤ 2 ^ 24 by decide) (show 3 * 3 ≠ 0 by decide) rfl rfl ?_; rintro w5 ag HN5)
      | fail)
    clear p0 p1 p2 q0 q1 q2 r0 r1 r2
    have B5 : Aside0 (Below w.heap.size w w5) := ⟨HB2.out.trans ((B3.out.trans (HN5.below.mono B3.out.size)).mono HB2.out.size)⟩
    have HA5 := Aside0.mk HN5.at_
    obtain ⟨ad, had⟩ : ∃ ad : Addr, ad = ⟨ag, 0, none⟩ := ⟨_, rfl⟩
    have HAD := Aside0.mk had
    rw [← had]
    clear HN5 had hi hz hs hv3
    go_loopw [10, 11, 12, 13, 14, 15, 16, 17, 18, 19] (fun i _ _ _ _ _ _ _ _ _ wr => ∃ k : Nat, k ≤ 3 ∧ i = .int .i64 k ∧ Below w5.heap.size w5 wr) (fun i _ _ _ _ _ _ _ _ _ _ => 3 - (intOf i).toNat)
    case atStart => exact ⟨0, by omega, rfl, Below.refl _ _⟩
    case round =>
      obtain ⟨k, hk, rfl, hB⟩ := hrel
      have HB := Aside0.mk hB
      clear hB
      by_cases hlt : k < 3
      · obtain ⟨x, y, z, hxyz⟩ := three_at HA5.out k hlt
        have HC : Aside0 (∀ W, Below w5.heap.size w5 W → ∀ j u, (P3 x y z)[j]? = some u → W.cell? (ad.add (k * 3 + j)) = some u) := ⟨fun W hW j u hu => by
          rw [HAD.out, Addr.add_mid, Nat.zero_add]
          exact pw_cell_below hW (hxyz j u hu)⟩
        have HLD : Aside0 (∀ W, Below w5.heap.size w5 W → (Instr.loadAt 23 (.pointer (some (ad.add (k * 3))))).run Tryd.prog W = .ok (.agg #[.int .i64 x, .int .i64 y, .int .i64 z]) W) := ⟨fun W hW => ld_elem (HC.out W hW) 23 _ Tryd.underlying23 rfl (p3_size x y z)⟩
        clear hxyz
        have HKR : Aside0 (∀ W, Below w5.heap.size w5 W → Roots W) := ⟨fun W hW => (HK.out.below B5.out).below hW⟩
        by_cases hm : mayB x y z = true
        · obtain ⟨a0, b0, c0, rfl, rfl, rfl, m1, m2, m3, m4⟩ := mayB_nat hm
          have HM := Aside0.mk hm
          clear hm
          obtain ⟨P, hP⟩ : ∃ P, pw b0 = P := ⟨_, rfl⟩
          have HPW := Aside0.mk hP
          have hp1 : 1 ≤ P ∧ P ≤ 4096 := by have h1 := pw_le (n := b0) (by omega); have h2 := pw_pos b0; omega
          have HPM : Aside0 (((pw b0 - 1 : Nat) : Int) = (P : Int) - 1) := ⟨by rw [hP]; omega⟩
          have HL1 : Aside0 (∀ W, Below w5.heap.size w5 W → (Instr.loadAt 3 (.pointer (some ⟨(ad.add (k * 3)).block, (ad.add (k * 3)).off + 1, none⟩))).run Tryd.prog W = .ok (.int .i64 (b0 : Int)) W) := ⟨fun W hW => by
            have h := HC.out W hW 1 _ rfl
            rw [add_field _ _ _ (by omega)] at h
            go_simp⟩
          have hwr : ((P : Int) - 1) % 4294967296 = (P : Int) - 1 := by omega
          clear hP
          go_wp2_with (first
            | (go_at_call 7; (with_reducible refine at_cw wr ?_); refine (pmay_calls a0 b0 c0 wr).mono ?_; rw [HM.out]; rintro e x1 ⟨rfl, hB⟩; have HB1 := Aside0.mk (below_tr HB.out hB HB.out.size); clear hB)
            | (go_at_call 8; (with_reducible refine at_cw x1 ?_); refine (cnew_ok a0 b0 c0 x1 HM.out).mono ?_; rintro e x2 ⟨g, gr, rfl, -, hB⟩; have HB2 := Aside0.mk (below_tr HB1.out hB HB1.out.size); clear hB)
            | (go_at_call 9; refine (sizes_calls a0 b0 c0 (some ⟨x2.heap.size, 0, none⟩) 3 3 [97, 98, 99] (al a0 c0 (pw b0) [] [97, 98, 99]) _ HM.out (tells_ok a0 b0 c0 _ 3 3 [97, 98, 99] abc_by HM.out (by omega)) (rd_lit x2 _ _ _ _ rfl rfl (by simp)) (Nat.le_trans abc_count (by omega))).mono ?_; rintro e x3 ⟨v, rfl, hO, hB⟩; have HB3 := Aside0.mk (below_tr (below_alloc HB2.out _) hB (below_alloc HB2.out _).size); obtain ⟨vA, vc, rfl, -, -⟩ := Kd.R_reads hO; clear hO hB)
            | (go_at_call 10; (with_reducible refine at_cw x3 ?_); refine (items_calls a0 b0 c0 none 0 0 [] [] x3 HM.out (HKR.out _ HB3.out) (by have h := tells_ok a0 b0 c0 none 0 0 [] Bytes.nil HM.out (by omega); rwa [al_nil] at h) (Kd.C_nil _ _) (by simp) (fun c hc => by cases hc)).mono ?_; rintro e x4 ⟨v, rfl, hO, hB⟩; have HB4 := Aside0.mk (below_tr HB3.out hB HB3.out.size); obtain ⟨wA, wc4, rfl, -, -⟩ := Kd.R_reads hO; clear hO hB)
            | (go_at_call 11; (with_reducible refine at_cw x4 ?_); refine (power_calls b0 x4 (by omega) (by omega)).mono ?_; rw [HPW.out]; rintro e u0 ⟨rfl, rfl⟩)
            | (go_at_call 12; (with_reducible refine at_cw x4 ?_); refine (may_calls a0 b0 c0 x4).mono ?_; rw [HM.out]; rintro e x5 ⟨rfl, hB⟩; have HB5 := Aside0.mk (below_tr HB4.out hB HB4.out.size); clear hB)
            | (go_at_call 13; (with_reducible refine at_cw x5 ?_); refine (mask_calls a0 b0 c0 x5 HM.out).mono ?_; rw [HPM.out]; rintro e x6 ⟨rfl, hB⟩; have HB6 := Aside0.mk (below_tr HB5.out hB HB5.out.size); clear hB)
            | ((with_reducible refine at_ld 23 (.tmp 45) ?_); refine load_arm rfl 23 (.tmp 45) rfl rfl (HLD.out _ HB.out) ?_; simp only [Act.put, List.setIfInBounds_toArray, List.set_cons_zero, List.set_cons_succ])
            | ((with_reducible refine at_ld 23 (.tmp 51) ?_); refine load_arm rfl 23 (.tmp 51) rfl rfl (HLD.out _ HB1.out) ?_; simp only [Act.put, List.setIfInBounds_toArray, List.set_cons_zero, List.set_cons_succ])
            | ((with_reducible refine at_ld 23 (.tmp 61) ?_); refine load_arm rfl 23 (.tmp 61) rfl rfl (HLD.out _ (below_alloc HB2.out _)) ?_; simp only [Act.put, List.setIfInBounds_toArray, List.set_cons_zero, List.set_cons_succ])
            | ((with_reducible refine at_ld 23 (.tmp 69) ?_); refine load_arm rfl 23 (.tmp 69) rfl rfl (HLD.out _ HB3.out) ?_; simp only [Act.put, List.setIfInBounds_toArray, List.set_cons_zero, List.set_cons_succ])
            | ((with_reducible refine at_ld 3 (.tmp 79) ?_); refine load_arm rfl 3 (.tmp 79) rfl rfl (HL1.out _ HB4.out) ?_; simp only [Act.put, List.setIfInBounds_toArray, List.set_cons_zero, List.set_cons_succ])
            | ((with_reducible refine at_ld 23 (.tmp 86) ?_); refine load_arm rfl 23 (.tmp 86) rfl rfl (HLD.out _ HB4.out) ?_; simp only [Act.put, List.setIfInBounds_toArray, List.set_cons_zero, List.set_cons_succ])
            | ((with_reducible refine at_ldg 23 (.tmp 115) ?_); refine val_arm (by rfl) (load_run rfl rfl (HLD.out _ HB5.out)) ?_)
            | fail)
          go_roundw
          case rel => exact ⟨k + 1, by omega, by go_num, HB6.out⟩
          case measure => simp [intOf]; omega
        · have HM : Aside0 (mayB x y z = false) := ⟨by simpa using hm⟩
          clear hm
          go_wp2_with (first
            | (go_at_call 7; (with_reducible refine at_cw wr ?_); refine (pmay_calls x y z wr).mono ?_; rw [HM.out]; rintro e x1 ⟨rfl, hB⟩; have HB1 := Aside0.mk (below_tr HB.out hB HB.out.size); clear hB)
            | (go_at_call 8; (with_reducible refine at_cw x1 ?_); refine (cnew_bad x y z x1 HM.out).mono ?_; rintro e x2 ⟨rfl, hB⟩; have HB2 := Aside0.mk (below_tr HB1.out hB HB1.out.size); clear hB)
            | (go_at_call 9; refine (sizes_bad x y z _ _ _ _ HM.out).mono ?_; rintro e x3 ⟨rfl, hB⟩; have HB3 := Aside0.mk (below_tr (below_alloc HB2.out _) hB (below_alloc HB2.out _).size); clear hB)
            | (go_at_call 10; (with_reducible refine at_cw x3 ?_); refine (items_bad x y z _ _ _ x3 HM.out).mono ?_; rintro e x4 ⟨rfl, hB⟩; have HB4 := Aside0.mk (below_tr HB3.out hB HB3.out.size); clear hB)
            | (go_at_call 12; (with_reducible refine at_cw x4 ?_); refine (may_calls x y z x4).mono ?_; rw [HM.out]; rintro e x5 ⟨rfl, hB⟩; have HB5 := Aside0.mk (below_tr HB4.out hB HB4.out.size); clear hB)
            | (go_at_call 13; (with_reducible refine at_cw x5 ?_); refine (mask_bad x y z x5 HM.out).mono ?_; rintro e x6 ⟨rfl, hB⟩; have HB6 := Aside0.mk (below_tr HB5.out hB HB5.out.size); clear hB)
            | (go_at_call 14; refine (collect_calls x y z _ 3 3 [97, 98, 99] [] _ (tells_bad x y z _ 3 3 [97, 98, 99] HM.out) (rd_lit x6 _ _ _ _ rfl rfl (by simp)) (by simp)).mono ?_; rintro e x7 ⟨v, L, rfl, hO, hT, hB⟩; obtain rfl : L = [] := List.map_eq_nil_iff.1 hT.1; obtain ⟨vA, vc, rfl, -, -⟩ := Kd.R_reads hO; have HB7 := Aside0.mk (below_tr (below_alloc HB6.out _) hB (below_alloc HB6.out _).size); clear hO hT hB)
            | ((with_reducible refine at_ld 23 (.tmp 45) ?_); refine load_arm rfl 23 (.tmp 45) rfl rfl (HLD.out _ HB.out) ?_; simp only [Act.put, List.setIfInBounds_toArray, List.set_cons_zero, List.set_cons_succ])
            | ((with_reducible refine at_ld 23 (.tmp 51) ?_); refine load_arm rfl 23 (.tmp 51) rfl rfl (HLD.out _ HB1.out) ?_; simp only [Act.put, List.setIfInBounds_toArray, List.set_cons_zero, List.set_cons_succ])
            | ((with_reducible refine at_ld 23 (.tmp 61) ?_); refine load_arm rfl 23 (.tmp 61) rfl rfl (HLD.out _ (below_alloc HB2.out _)) ?_; simp only [Act.put, List.setIfInBounds_toArray, List.set_cons_zero, List.set_cons_succ])
            | ((with_reducible refine at_ld 23 (.tmp 69) ?_); refine load_arm rfl 23 (.tmp 69) rfl rfl (HLD.out _ HB3.out) ?_; simp only [Act.put, List.setIfInBounds_toArray, List.set_cons_zero, List.set_cons_succ])
            | ((with_reducible refine at_ld 23 (.tmp 86) ?_); refine load_arm rfl 23 (.tmp 86) rfl rfl (HLD.out _ HB4.out) ?_; simp only [Act.put, List.setIfInBounds_toArray, List.set_cons_zero, List.set_cons_succ])
            | ((with_reducible refine at_ldg 23 (.tmp 115) ?_); refine val_arm (by rfl) (load_run rfl rfl (HLD.out _ HB5.out)) ?_)
            | ((with_reducible refine at_ldg 23 (.tmp 128) ?_); refine val_arm (by rfl) (load_run rfl rfl (HLD.out _ (below_alloc HB6.out _))) ?_)
            | fail)
          go_roundw
          case rel => exact ⟨k + 1, by omega, by go_num, HB7.out⟩
          case measure => simp [intOf]; omega
      · obtain rfl : k = 3 := by omega
        go_wp2_with (first
          | (go_at_call 15; (with_reducible refine at_cw wr ?_); refine (lives_calls wr).mono ?_; rintro e w10 ⟨rfl, hB10⟩; have HB10 := Aside0.mk (below_tr HB.out hB10 HB.out.size); clear hB10)
          | fail)
        go_ret
        exact ⟨rfl, B5.out.trans (HB10.out.mono B5.out.size)⟩
end Go.Proofs.YtdbgbbodkoppdaaDoor
