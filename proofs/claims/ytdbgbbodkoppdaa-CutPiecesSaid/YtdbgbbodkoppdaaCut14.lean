/- The law CutPieces: its walk. Conditions: what each argument reads. -/
import Derived.Test.YtdbgbbodkoppdaaCut13
namespace Go.Proofs.Ytdbgbbodkoppdaa
open Go.RowKit Go.Shelf Go.Proofs.YtdbgbbodkoppdaaW.PrintWords Go.Proofs.YtdbgbbodkoppdaaW.PrintMore
set_option linter.unusedVariables false
set_option linter.unusedSimpArgs false
theorem cst_move {w w1 : World} {B0 g gr a b c B1 : Nat} {cur : List Int} {v vg : Value} {xs : List S3} (h : CSt B0 g gr a b c cur v w) (hO : OwT w B1 vg xs) (hG : w.grownBy w1 vg.ownBlock) : CSt B0 g gr a b c cur v w1 := by
  obtain ⟨cs, hrt⟩ := h.typed
  have hg := hG.block g (Array.getElem?_eq_some_iff.1 h.blk).1 (Kd.R_ne hO h.blk (by decide))
  have hr := hG.block gr (Array.getElem?_eq_some_iff.1 hrt).1 (Kd.R_ne hO hrt (by decide))
  exact ⟨hg.trans h.blk, h.roll.move hr, Kd.R_over h.own hO (fun q hq => by
    rcases List.mem_cons.1 hq with rfl | hq
    · decide
    · cases hq) hG, h.by_, h.hg, h.hr⟩
theorem chy_end {wq w5 : World} {B B0 g gr a b c : Nat} {cur ch : List Int} {v : Value} {p : S3} (hC : CSt B0 g gr a b c cur v wq) (hF : Fr wq w5 (fun k => k = g ∨ k = gr)) (h : ChY B p ch wq) : ChY B p ch w5 := h.qs (qs_end hC hF)
theorem fr_sw {wq w5 : World} {g gr : Nat} {v : Value} (hF : Fr wq w5 (fun k => k = g ∨ k = gr)) : Fr wq w5 (SW g gr v) := hF.mono (fun k hk => hk.elim .inl (fun h => .inr (.inl h)))
theorem ChY.chR {B : Nat} {w : World} {L : List (S3 × List Int)} (h : ∀ p ∈ L, ChY B p.1 p.2 w) : ChR w L := fun p hp => by
  obtain ⟨h1, h2, h3, h4, h5, _⟩ := h p hp
  exact ⟨h5, h1, h2, h3⟩
theorem ChY.grownT {w w1 : World} {B B1 : Nat} {p : S3} {ch : List Int} {vg : Value} {xs : List S3} (h : ChY B p ch w) (hO : OwT w B1 vg xs) (hG : w.grownBy w1 vg.ownBlock) : ChY B p ch w1 :=
  h.move fun q cells e hBq hl => hG.block q (Array.getElem?_eq_some_iff.1 hl).1 (Kd.R_ne hO hl (by decide))
theorem isRowN_read {w : World} {a : Option Addr} {len cap : Nat} {zs : List Int}
    (h : (a = none ∧ len = 0 ∧ cap = 0 ∧ zs = []) ∨ ∃ x, a = some x ∧ len ≤ cap ∧ cap ≤ maxLen ∧ zs.length = cap ∧ (∀ i, i < zs.length → w.cell? (x.add i) = some (.int .i64 (zs.getD i 0))) ∧ ∀ n ∈ zs, (Lit.int .i64 n).wf = true) :
    RdN w a len (zs.take len) ∧ len ≤ cap ∧ (∀ x ∈ zs.take len, -9223372036854775808 ≤ x ∧ x ≤ 9223372036854775807) := by
  rcases h with ⟨rfl, rfl, rfl, rfl⟩ | ⟨x, rfl, hl, hm, hz, hc, hw⟩
  · exact ⟨Kd.C_nil _ _, Nat.le_refl _, by simp⟩
  · refine ⟨Kd.C_of_reads (d := (0 : Int)) ⟨by rw [List.length_take]; omega, by simp only [maxLen] at hm; omega, fun _ => ⟨_, rfl, fun j hj => ?_⟩⟩, hl, ?_⟩
    · rw [hc j (by omega)]
      simp [List.getD_eq_getElem?_getD, List.getElem?_take, hj]
    · intro n hn
      exact wf_i64 (hw n (List.mem_of_mem_take hn))
set_option maxRecDepth 20000 in
set_option maxHeartbeats 6400000 in
theorem cutPieces_walk (A : Option Addr) (n cp : Nat) (xb : List Int) (pa pb pc : Int) (A3 : Option Addr) (n3 c3 : Nat) (zs : List Int) (w : World) (h : RdB w A n xb) (hc : n ≤ cp) (hb : Bytes xb) (ha0 : -9223372036854775808 ≤ pa) (ha1 : pa ≤ 9223372036854775807) (hb0 : -9223372036854775808 ≤ pb) (hb1 : pb ≤ 9223372036854775807) (hc0 : -9223372036854775808 ≤ pc) (hc1 : pc ≤ 9223372036854775807)
    (h3 : RdN w A3 n3 zs) (hz : ∀ x ∈ zs, -9223372036854775808 ≤ x ∧ x ≤ 9223372036854775807) :
    Calls Try.prog 3 #[.slice A n cp, .agg #[.int .i64 pa, .int .i64 pb, .int .i64 pc], .slice A3 n3 c3] w fun e w' => e = .returned (.bool true) ∧ Below w.heap.size w w' := by
  have H := Aside0.mk h
  have H3 := Aside0.mk h3
  have HZ : Aside0 (∀ j, -9223372036854775808 ≤ zs.getD j 0 ∧ zs.getD j 0 ≤ 9223372036854775807) := ⟨fun j => by
    rw [List.getD_eq_getElem?_getD]
    rcases hj : zs[j]? with _ | x
    · simp
    · exact hz x (List.mem_of_getElem? hj)⟩
  have hn3 := h3.2.1
  have HBY := Aside0.mk hb
  have hgc := fun (w : World) => good_calls pa pb pc w ha0 ha1 hb0 hb1 hc0 hc1
  obtain ⟨a0, b0, c0, ea, eb, ec, m1, m2, m3, m4, hm⟩ := good_nat pa pb pc
  simp only [ea, eb, ec] at hgc
  have HGC := Aside0.mk hgc
  have HM := Aside0.mk hm
  clear h hb hgc hm ea eb ec ha0 ha1 hb0 hb1 hc0 hc1 h3 hz
  go_enter Try.func3, Try.ntmps3
  go_wp2_with (first
    | (go_at_call 7; refine (few_new A n cp xb 150 _ (Kd.C_alloc H.out _) hc HBY.out (by omega) (by omega)).mono ?_; rintro e w1 ⟨BX, dX, X, rfl, -, hby, -, hd_X, hyl, R_X, hB⟩; have L1 : Aside0 (Below w.heap.size w w1) := ⟨Below.trans (below_alloc (Below.refl _ w) _) (hB.mono (by simp))⟩; have HBX := Aside0.mk (Later.heap hB (blk_new w (.cells #[.int .i64 pa, .int .i64 pb, .int .i64 pc] 24))); obtain ⟨q0, q1, q2⟩ := pm_cells HBX.out; have Y_X : Aside0 (Bytes X ∧ X.length ≤ 150) := ⟨hby, hyl⟩; have D_X := Aside0.mk hd_X; clear hB hby hd_X hyl)
    | (go_at_call 8; refine (HGC.out _).mono ?_; rintro e w2 ⟨rfl, hB⟩; have L2 : Aside0 (Below w.heap.size w w2) := ⟨L1.out.trans (hB.mono L1.out.size)⟩; have R_X2 := Aside0.mk (Kd.C_below R_X.out hB); clear hB q0 q1 q2)
    | (go_at_call 9; refine (cnew_ok a0 b0 c0 _ HM.out).mono ?_; rintro e w4 ⟨g, gr, rfl, hC4, hB4⟩; have HC4 := Aside0.mk hC4; have HB4 := Aside0.mk hB4; clear hC4 hB4)
    | fail)
  obtain ⟨wn, hwn⟩ : ∃ wn, wn = w2.alloc (.cells #[.int .i64 (a0 : Int), .int .i64 (b0 : Int), .int .i64 (c0 : Int)] 24) := ⟨_, rfl⟩
  rw [← hwn] at HB4 HC4
  have LN : Aside0 (Below w.heap.size w wn) := ⟨by rw [hwn]; exact below_alloc L2.out _⟩
  have R_Xn : Aside0 (RdB wn BX X.length X) := ⟨by rw [hwn]; exact Kd.C_alloc R_X2.out _⟩
  have GN : Aside0 (wn.heap[w2.heap.size]? = some (.cells #[.int .i64 (a0 : Int), .int .i64 (b0 : Int), .int .i64 (c0 : Int)] 24 (0, 0))) := ⟨by rw [hwn]; exact blk_new w2 _⟩
  have L4 : Aside0 (Below w.heap.size w w4) := ⟨LN.out.trans (HB4.out.mono LN.out.size)⟩
  obtain ⟨B0, hB0⟩ : ∃ B0, wn.heap.size = B0 := ⟨_, rfl⟩
  rw [hB0] at HB4 HC4
  have hsn : B0 ≤ w4.heap.size ∧ w.heap.size ≤ B0 := ⟨by rw [← hB0]; exact HB4.out.size, by rw [← hB0]; exact LN.out.size⟩
  have HBN := Aside0.mk hB0
  clear hwn hB0 L1 L2 R_X R_X2 HBX
  generalize w2.heap.size = gB at *
  go_loopw [11, 12, 13, 14, 15] (fun vg at_ i _ _ wr => ∃ (k j : Nat) (cur : List Int) (v : Value) (L : List (S3 × List Int)), k ≤ X.length ∧ j / 9 ≤ k ∧ at_ = .int .i64 k ∧ i = .int .i64 j ∧ PI w4 B0 g gr a0 b0 c0 X k cur v L wr ∧ OwT wr w4.heap.size vg (L.map (·.1))) (fun _ at_ i _ _ _ => (X.length - (intOf at_).toNat) * 9 + (8 - (intOf i).toNat % 9))
  case atStart => exact ⟨0, 0, [], _, [], Nat.zero_le _, by omega, rfl, rfl, PI.start HC4.out, Kd.R_nil _ _ _ _ _⟩
  case round =>
    obtain ⟨k, j, cur, v, L, hk, hj, rfl, rfl, hP, hG⟩ := hrel
    have HP := Aside0.mk hP
    have HG := Aside0.mk hG
    have hcur := hP.cur m1 (by omega)
    have HNR : Aside0 (Below B0 wn wr) := ⟨HB4.out.trans (hP.fr.below (fun q hq => by have := hP.cs.hg; have := hP.cs.hr; omega) hsn.1)⟩
    have HWR : Aside0 (Below w.heap.size w wr) := ⟨LN.out.trans (HNR.out.mono hsn.2)⟩
    have hxl := Y_X.out.2
    have hsr : w4.heap.size ≤ wr.heap.size := hP.fr.size
    clear hP hG
    by_cases hlt : k < X.length
    · have e9 : ((j : Int).tmod 9) = ((j % 9 : Nat) : Int) := by rw [Int.tmod_eq_emod_of_nonneg (by omega)]; rfl
      have hltI : (k : Int) < (X.length : Int) := by omega
      go_upto_if 40 with fail
      go_cut [14] from 32 to 68 (fun v1 w' => ∃ m : Nat, v1 = .int .i64 m ∧ m ≤ 31 ∧ wr = w')
      case first =>
        by_cases hz0 : 0 < n3
        · have hz0I : (0 : Int) < (n3 : Int) := by omega
          have hz0B : ((n3 : Int) == 0) = false := by rw [beq_eq_false_iff_ne]; omega
          obtain ⟨zd, rfl⟩ := rdN_some H3.out hz0
          have er : ((j : Int).tmod (n3 : Int)) = ((j % n3 : Nat) : Int) := by rw [Int.tmod_eq_emod_of_nonneg (by omega)]; rfl
          have hjr : j % n3 < n3 := Nat.mod_lt _ hz0
          have hzc := pw_cell_below HWR.out (rdN_at H3.out (j % n3) hjr)
          obtain ⟨hz1, hz2⟩ := HZ.out (j % n3)
          generalize zs.getD (j % n3) 0 = z at *
          generalize hjn : j % n3 = jn at *
          have hac := fun (w : World) => around_calls z 31 w hz1 hz2 (by omega) (by omega)
          obtain ⟨hr0, hr1⟩ := around_range z 31 (by omega)
          obtain ⟨m, hmm⟩ := Int.eq_ofNat_of_zero_le hr0
          rw [hmm] at hr1
          simp only [hmm] at hac
          have HAC := Aside0.mk hac
          have hm31 : m < 31 := by omega
          clear hac hr0 hr1 hmm hz1 hz2 hjn
          go_wp2_with (first
            | (go_at_call 10; (with_reducible refine at_cw wr ?_); refine (HAC.out wr).mono ?_; rintro e u0 ⟨rfl, rfl⟩)
            | fail)
          go_meet
          case rel => exact ⟨m, rfl, by omega, rfl⟩
        · have hz0I : ¬ (0 : Int) < (n3 : Int) := by omega
          go_wp2
          go_meet
          case rel => exact ⟨7, rfl, by omega, rfl⟩
      case rest =>
        obtain ⟨m, rfl, hm31, rfl⟩ := hcut
        go_upto_if 51 with fail
        go_cut [14] from 32 to 68 (fun v1 w' => ∃ m : Nat, v1 = .int .i64 m ∧ m ≤ 31 ∧ (j % 9 = 8 → 1 ≤ m) ∧ wr = w')
        case first =>
          by_cases h98 : j % 9 = 8
          · have h98B : (((j % 9 : Nat) : Int) == 8) = true := by rw [beq_iff_eq]; omega
            obtain ⟨mm, hmmE⟩ : ∃ mm, mm = max m 1 := ⟨_, rfl⟩
            have hmax : max (m : Int) 1 = (mm : Int) := by omega
            have hmmB : 1 ≤ mm ∧ mm ≤ 31 := by omega
            clear hmmE
            go_wp2
            go_meet
            case rel => exact ⟨mm, rfl, by omega, fun _ => by omega, rfl⟩
          · have h98B : (((j % 9 : Nat) : Int) == 8) = false := by rw [beq_eq_false_iff_ne]; omega
            go_wp2
            go_meet
            case rel => exact ⟨m, rfl, by omega, fun h => absurd h h98, rfl⟩
        case rest =>
          obtain ⟨m, rfl, hm31, hm9, rfl⟩ := hcut
          obtain ⟨k', hk'⟩ : ∃ k', k' = min (k + m) X.length := ⟨_, rfl⟩
          have hmin : min ((k : Int) + (m : Int)) (X.length : Int) = (k' : Int) := by omega
          have hkk : k ≤ k' ∧ k' ≤ X.length ∧ (j % 9 = 8 → k + 1 ≤ k') := by omega
          clear hk'
          obtain ⟨hcut, hrd⟩ := cutMid R_Xn.out D_X.out (k : Int) (k' : Int) (by omega) (by omega) (by omega)
          rw [Int.toNat_natCast, Int.toNat_natCast] at hcut hrd
          generalize (if dX = k then BX else BX.map (·.add k)) = Ap at hcut hrd
          have HRD := Aside0.mk hrd
          have HOUT : Aside0 (∀ ad : Addr, Ap = some ad → 0 < k' - k → ¬ SW g gr v ad.block) := ⟨fun ad he hp hs => by
            have h9 := HRD.out
            rw [he] at h9
            have h8 := rdB_lt h9 hp
            have h7 := HBN.out
            have h6 := HP.out.cs.hg
            have h5 := HP.out.cs.hr
            rcases hs with hs | hs | hs
            · omega
            · omega
            · have := HP.out.hv _ hs.symm; omega⟩
          clear hrd
          go_wp2_with (first
            | (go_at_call 10; (with_reducible refine at_cw wr ?_); refine (HAC.out wr).mono ?_; rintro e u0 ⟨rfl, rfl⟩)
            | (go_at_call 11; (with_reducible refine at_cw wr ?_); refine (write_calls B0 g gr a0 b0 c0 cur v Ap (k' - k) (dX - k) (midL X k k') wr HP.out.cs (Kd.C_below (HRD.out) (by rw [HBN.out]; exact HNR.out)) HOUT.out (Y_X.out.1.mid k k') (by omega) (by omega) (by omega) (by omega) (by omega)).mono ?_; rintro e w5 ⟨vo, v', rfl, hC5, hO5, hF5, hv5, -⟩; have hG5 := got_step HG.out HP.out.cs hF5; have hs5 := hF5.size; obtain ⟨A5, c5, cur', Ls, rfl, hrd5, hl5, hP5⟩ := HP.out.step hsn.1 m1 (by omega) Y_X.out.1 hkk.1 hkk.2.1 hxl hC5 hO5 hF5 hv5; have HP5 := Aside0.mk hP5; have HRD5 := Aside0.mk hrd5; have HG5 := Aside0.mk hG5; clear hC5 hO5 hF5 hv5 hG5 hrd5 hP5)
            | (at_builtin; refine appT (w0 := w5) w4.heap.size rfl (.tmp 60) (.tmp 66) rfl u11 (L.map (·.1)) (Ls.map (·.1)) A5 Ls.length c5 rfl rfl HG5.out HRD5.out (Below.refl _ _) (by omega) (by rw [List.length_map]; omega) ?_; intro v6 w6 hO6 hB6 hG6 _; have HP6 := Aside0.mk (HP5.out.grown HG5.out hG6); have HO6 : Aside0 (OwT w6 w4.heap.size v6 ((L ++ Ls).map (·.1))) := ⟨by rw [List.map_append]; exact hO6⟩; clear hO6 hB6 hG6)
            | fail)
          go_roundw
          case rel => exact ⟨k', j + 1, cur', v', L ++ Ls, hkk.2.1, by omega, rfl, by go_num, HP6.out, HO6.out⟩
          case measure => simp [intOf]; omega
    · have hkX : k = X.length := by omega
      subst hkX
      have HPE : Aside0 (wrL a0 c0 (pw b0) [] X = (L.map (·.2), cur)) := ⟨by have := HP.out.eq; rwa [List.take_length] at this⟩
      obtain ⟨vA, vC, rfl, hvC, hvR⟩ := HP.out.cs.own.reads
      have hltI : ¬ ((X.length : Int) < (X.length : Int)) := by omega
      clear hlt
      go_upto_if 73 with (go_at_call 12; (with_reducible refine at_cw wr ?_); refine (end_calls B0 g gr a0 b0 c0 cur _ wr HP.out.cs).mono ?_; rintro e w5 ⟨rfl, hC5, hO5, hF5⟩; have HC5 := Aside0.mk hC5; have HO5 := Aside0.mk hO5; have HF5 := Aside0.mk hF5; clear hC5 hO5 hF5)
      have HG5 := Aside0.mk (got_step HG.out HP.out.cs (fr_sw HF5.out))
      have HCH5 : Aside0 (∀ p ∈ L, ChY B0 p.1 p.2 w5) := ⟨fun p hp => chy_end HP.out.cs HF5.out (HP.out.ch p hp).1⟩
      have HN5 : Aside0 (Below B0 wn w5) := ⟨HNR.out.trans (HF5.out.below (fun q hq => by have := HP.out.cs.hg; have := HP.out.cs.hr; omega) (by omega))⟩
      have hs5 := HF5.out.size
      have hLl : L.length ≤ 150 := by have := hcur.2; omega
      go_cut [11] (fun vg2 w' => ∃ L2 : List (S3 × List Int), OwT w' w4.heap.size vg2 (L2.map (·.1)) ∧ (∀ p ∈ L2, ChY B0 p.1 p.2 w') ∧ L2.map (·.2) = al a0 c0 (pw b0) [] X ∧ CSt B0 g gr a0 b0 c0 [] (.slice none 0 0) w' ∧ Below B0 wn w')
      case first =>
        by_cases hcl : 0 < cur.length
        · have hclI : (0 : Int) < (cur.length : Int) := by omega
          go_wp2_with (at_builtin; refine appT1 (w0 := w5) w4.heap.size rfl (.tmp 74) (.tmp 76) rfl u11 (L.map (·.1)) (vA, cur.length, vC) rfl rfl HG5.out (Below.refl _ _) (by omega) (by rw [List.length_map]; omega) ?_; intro v6 w6 hO6 hB6 hG6 _; have HO6 := Aside0.mk hO6; have HB6 := Aside0.mk hB6; have HG6 := Aside0.mk hG6; clear hO6 hB6 hG6)
          go_meet
          case rel =>
            refine ⟨L ++ [((vA, cur.length, vC), cur)], by rw [List.map_append]; exact HO6.out, fun p hp => ?_, ?_, cst_move HC5.out HG5.out HG6.out, HN5.out.trans (HB6.out.mono (by have := HBN.out; omega))⟩
            · refine ChY.grownT ?_ HG5.out HG6.out
              rcases List.mem_append.1 hp with hp | hp
              · exact HCH5.out p hp
              · rw [List.mem_singleton.1 hp]
                exact OwB.chY HO5.out (List.length_pos_iff.1 hcl) HP.out.cs.by_
            · unfold al
              rw [HPE.out, if_neg (List.length_pos_iff.1 hcl), List.map_append]
              rfl
        · have hclI : ¬ (0 : Int) < (cur.length : Int) := by omega
          go_wp2
          go_meet
          case rel =>
            have hcn : cur = [] := List.eq_nil_of_length_eq_zero (by omega)
            refine ⟨L, HG5.out, HCH5.out, ?_, HC5.out, HN5.out⟩
            unfold al
            rw [HPE.out, if_pos hcn, List.append_nil]
      case rest =>
        obtain ⟨L2, hO, hCh, hE, hC, hB⟩ := hcut
        obtain ⟨oA, oC, rfl, hoc, hor⟩ := Kd.R_reads hO
        rw [List.length_map] at hor ⊢
        have HOR := Aside0.mk hor
        have HCH := Aside0.mk (ChY.chR hCh)
        have HE := Aside0.mk hE
        have HCC := Aside0.mk hC
        have HBB := Aside0.mk hB
        have hB2 : Below wn.heap.size wn wc := by rw [HBN.out]; exact hB
        have GC := Aside0.mk (Later.heap hB2 GN.out)
        have RC : Aside0 (RdB wc BX X.length X) := ⟨Kd.C_below R_Xn.out hB2⟩
        have hl2 : L2.length ≤ 151 := by have h1 := congrArg List.length hE; rw [List.length_map] at h1; have := al_count (a := a0) (c := c0) (p := pw b0) (xs := X); omega
        obtain ⟨g0, g1, g2⟩ := pm_cells GC.out
        have hwl : w.heap.size ≤ wc.heap.size := by have := hB.size; have := LN.out.size; omega
        have HWC : Aside0 (Below w.heap.size w wc) := ⟨LN.out.trans (hB.mono hsn.2)⟩
        clear hO hCh hE hC hB hB2 hor hoc
        go_wp2_with (first
          | (go_at_call 14; (with_reducible refine at_cw wc ?_); refine (pchunks_calls BX X.length dX a0 b0 c0 X wc RC.out D_X.out Y_X.out.1 (by omega) HM.out).mono ?_; rintro e w7 ⟨vo, L7, rfl, hO7, hC7, hE7, hB7⟩; obtain ⟨vE, ve, rfl, hve, hvr7⟩ := Kd.R_reads hO7; rw [List.length_map] at hvr7 ⊢; have HVE := Aside0.mk hvr7; have HC7 := Aside0.mk hC7; have HE7 := Aside0.mk hE7; have HB7 := Aside0.mk hB7; clear hO7 hB7 hvr7 hve hC7 hE7 g0 g1 g2)
          | (go_at_call 13; (with_reducible refine at_cw w7 ?_); refine (same_calls oA vE L2.length L7.length oC ve L2 L7 w7 (Kd.C_below HOR.out HB7.out) HVE.out (HCH.out.below HB7.out) HC7.out (HE.out.trans HE7.out.symm) (by omega)).mono ?_; rintro e w8 ⟨rfl, hB8⟩; have HB8 : Aside0 (Below wc.heap.size wc w8) := ⟨HB7.out.trans (hB8.mono HB7.out.size)⟩; have HC8 := Aside0.mk (HCC.out.below HB8.out); clear hB8)
          | (go_at_call 12; (with_reducible refine at_cw w8 ?_); refine (end_calls B0 g gr a0 b0 c0 [] _ w8 HC8.out).mono ?_; rintro e w9 ⟨rfl, hC9, hO9, hF9⟩; have HB9 : Aside0 (Below w.heap.size w w9) := ⟨(HWC.out.trans (HB8.out.mono hwl)).trans (hF9.below (fun q hq => by have := HC8.out.hg; have := HC8.out.hr; omega) (by have := HB8.out.size; omega))⟩; clear hC9 hO9 hF9)
          | (go_at_call 15; (with_reducible refine at_cw w9 ?_); refine (lives_calls w9).mono ?_; rintro e w10 ⟨rfl, hB10⟩; have HB10 := Aside0.mk (HB9.out.trans (hB10.mono HB9.out.size)); clear hB10)
          | fail)
        go_ret
        exact ⟨rfl, HB10.out⟩
end Go.Proofs.Ytdbgbbodkoppdaa
