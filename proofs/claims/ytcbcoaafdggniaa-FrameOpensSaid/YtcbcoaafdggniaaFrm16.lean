/- The law FrameOpens: its walk. Conditions: what each argument reads. -/
import Derived.Test.YtcbcoaafdggniaaFrm13
import Derived.Test.YtcbcoaafdggniaaFrm12
namespace Go.Proofs.Ytcbcoaafdggniaa
open Go.RowKit Go.Shelf Go.Proofs.YtcbcoaafdggniaaW.PrintWords Go.Proofs.YtcbcoaafdggniaaW.PrintMore
set_option linter.unusedVariables false
set_option linter.unusedSimpArgs false
/-- Bytes that are given (of any address). -/
structure Gu (w : World) (B : Option Addr) (d : Nat) (X : List Int) : Prop where
  rd : RdB w B X.length X
  le : X.length ≤ d
  by_ : Bytes X
  len : X.length ≤ 400
theorem Gu.later {w w1 : World} {B : Option Addr} {d : Nat} {X : List Int} (h : Gu w B d X) (k : Later w w1) : Gu w1 B d X := ⟨Kd.C_below h.rd k, h.le, h.by_, h.len⟩
/-- The rows of the law. -/
def Rws (w : World) (ad : Addr) (R : Nat) : Prop := ∀ k, k < R → ∃ B d X, w.cell? (ad.add k) = some (.slice B X.length d) ∧ Gu w B d X
theorem Rws.later {w w1 : World} {ad : Addr} {R : Nat} (h : Rws w ad R) (k : Later w w1) : Rws w1 ad R := fun j hj => by
  obtain ⟨B, d, X, h1, h2⟩ := h j hj
  exact ⟨B, d, X, pw_cell_below k h1, h2.later k⟩
theorem ms2 {w : World} {g : Nat} {a b : Int} (h : w.heap[g]? = some (.cells #[.int .i64 a, .int .i64 b] 3 (0, 0))) : ∀ j, j < 2 → ∃ z : Int, w.cell? ⟨g, j, none⟩ = some (.int .i64 z) := fun j hj => by
  rcases j with _ | j
  · exact ⟨a, by rw [blk_cell h]; rfl⟩
  · obtain rfl : j = 0 := by omega
    exact ⟨b, by rw [blk_cell h]; rfl⟩
theorem lenV_some {f : List Int} {n : Nat} (h : lenL f = some n) : lenV f = .tuple #[.int .i64 (n : Int), .int .i64 0] := by unfold lenV; rw [h]
theorem lenI_some {f : List Int} {n : Nat} (h : lenL f = some n) : lenI f = (n : Int) := by unfold lenI; rw [h]
set_option maxRecDepth 20000 in
set_option maxHeartbeats 3200000 in
theorem frameOpens_walk (A1 A2 : Option Addr) (n1 c1 n2 c2 : Nat) (xb xl : List Int) (at_ c most : Int) (w : World) (h1 : RdB w A1 n1 xb) (hc1 : n1 ≤ c1) (hb1 : Bytes xb) (h2 : RdN w A2 n2 xl)
    (ha0 : -9223372036854775808 ≤ at_) (ha1 : at_ ≤ 9223372036854775807) (hcc : 0 ≤ c ∧ c < 256) (hm0 : -9223372036854775808 ≤ most) (hm1 : most ≤ 9223372036854775807) :
    Calls Try.prog 4 #[.slice A1 n1 c1, .slice A2 n2 c2, .int .i64 at_, .int .u8 c, .int .i64 most] w fun e w' => e = .returned (.bool true) ∧ Below w.heap.size w w' := by
  have H1 := Aside0.mk h1
  have H2 := Aside0.mk h2
  have HC := Aside0.mk hcc
  have hac := fun (w : World) => around_calls most 321 w hm0 hm1 (by omega) (by omega)
  generalize around most 321 = am at *
  have HAC := Aside0.mk hac
  clear h1 h2 hcc hac
  go_enter Try.func4, Try.ntmps4
  go_wp2_with (first
    | (go_at_call 9; (with_reducible refine at_cw w ?_); refine (made_calls A2 n2 c2 xl w H2.out).mono ?_; rintro e w1 ⟨BM, dM, M, rfl, hby, O_M, hdM, hlM, R_M, hB⟩; have L1 : Aside0 (Later w w1) := ⟨hB⟩; have Y_M := Aside0.mk hby; clear hB hby)
    | (go_at_call 13; (with_reducible refine at_cw w1 ?_); refine (rseal_calls BM M.length dM M w1 R_M.out Y_M.out hdM (by omega)).mono ?_; rintro e w2 ⟨v, rfl, hO, hB⟩; obtain ⟨BP, dP, rfl, hdP, hrP⟩ := hO.reads; have L2 : Aside0 (Later w1 w2) := ⟨hB⟩; have Y_P := Aside0.mk (seal_bytes Y_M.out); obtain ⟨hPl, hPm⟩ : (sealL M).length ≤ 369 ∧ 10 ≤ (sealL M).length := (by have := seal_len M; have := sealB_le M; omega); generalize sealL M = P at *; have R_P := Aside0.mk hrP; clear hB hO hrP O_M R_M Y_M hdM hlM; obtain ⟨k0, k1⟩ := around_range at_ (P.length : Int) (by omega); have hak := around_calls at_ (P.length : Int) w2 ha0 ha1 (by omega) (by omega); generalize around at_ (P.length : Int) = kI at *; obtain ⟨k, rfl⟩ := Int.eq_ofNat_of_zero_le k0; have HAK := Aside0.mk hak; clear hak)
    | (go_at_call 16; (with_reducible refine at_cw w2 ?_); refine (HAK.out).mono ?_; rintro e u0 ⟨rfl, rfl⟩)
    | (go_at_call 8; (with_reducible refine at_cw w2 ?_); refine (few_new BP P.length dP P 400 w2 R_P.out hdP Y_P.out (by omega) (by omega)).mono ?_; rintro e w3 ⟨BO, dO, O, rfl, E_O, hby, O_O, hdO, hyl, R_O, hB⟩; obtain rfl : O = P := (by rw [E_O.out]; exact List.take_of_length_le (by simp; omega)); obtain ⟨go, cO, hv, hgo1, hgo2⟩ := OwB.place O_O.out (by omega); obtain ⟨rfl, _, rfl⟩ : BO = some ⟨go, 0, none⟩ ∧ True ∧ dO = cO := (by simpa using hv); obtain ⟨hcell, hfz⟩ := OwB.cell (xs := O) O_O.out (k : Int) (by omega) (by omega); rw [Int.toNat_natCast] at hcell hfz; have O_S := Aside0.mk (O_O.out.store (k : Int) c); have HB3 : Aside0 (Below w2.heap.size w2 (w3.setCell ⟨go, k, none⟩ (.int .u8 c))) := ⟨hB.setCell (p := ⟨go, k, none⟩) hgo1 _⟩; clear hB hby hyl R_O E_O hv)
    | (go_at_call 8; (with_reducible refine at_cw (w3.setCell ⟨go, k, none⟩ (.int .u8 c)) ?_); refine (few_new BP O.length dP O 400 _ (Kd.C_below R_P.out HB3.out) hdP Y_P.out (by omega) (by omega)).mono ?_; rintro e w4 ⟨BN, dN, N, rfl, E_N, hbyN, O_N, hdN, hnl, R_N, hB⟩; obtain rfl : N = O := (by rw [E_N.out]; exact List.take_of_length_le (by simp; omega)); have HB4 := Aside0.mk hB; clear hB E_N R_N hbyN hnl)
    | (at_builtin; refine appB (w0 := w3.setCell ⟨go, k, none⟩ (.int .u8 c)) (w3.setCell ⟨go, k, none⟩ (.int .u8 c)).heap.size rfl (.tmp 40) (.tmp 42) rfl (.slice BN N.length dN) N c rfl rfl O_N.out HB4.out HB4.out.size (by omega) ?_; intro v5 w5 hO5 hB5 _ _; have O_5 := Aside0.mk hO5; have HB5 := Aside0.mk hB5; clear hO5 hB5))
  obtain ⟨BQ, dQ, rfl, hdQ, hrQ⟩ := O_5.out.reads
  have HBP : Aside0 (Below w2.heap.size w2 w5) := ⟨below_tr HB3.out HB5.out HB3.out.size⟩
  have LW5 : Aside0 (Below w.heap.size w w5) := ⟨Later.trans L1.out (Later.trans L2.out HBP.out)⟩
  have hrS := (OwB.parts (OwB.below O_S.out HB5.out)).2
  rw [Int.toNat_natCast] at hrS
  have hls : (N.set k c).length = N.length := List.length_set
  have hlq : (N ++ [c]).length = N.length + 1 := by simp
  have HSg : Aside0 (Gu w5 (some ⟨go, 0, none⟩) dO (N.set k c)) := ⟨⟨by rw [hls]; exact hrS, by rw [hls]; exact hdO, Y_P.out.set k HC.out.1 HC.out.2, by omega⟩⟩
  have HQg : Aside0 (Gu w5 BQ dQ (N ++ [c])) := ⟨⟨hrQ, hdQ, Y_P.out.append (Bytes.one HC.out.1 HC.out.2), by omega⟩⟩
  have HPg : Aside0 (Gu w5 BP dP N) := ⟨⟨Kd.C_below R_P.out HBP.out, hdP, Y_P.out, by omega⟩⟩
  obtain ⟨hcut, hrT⟩ := cutTo HPg.out.rd hdP (k : Int) (by omega) (by omega)
  rw [Int.toNat_natCast] at hrT
  have hlt2 : (N.take k).length = k := by rw [List.length_take]; omega
  have HTg : Aside0 (Gu w5 BP dP (N.take k)) := ⟨⟨by rw [hlt2]; exact hrT, by omega, Y_P.out.take k, by omega⟩⟩
  have HX5 := Aside0.mk (Kd.C_drew (Kd.C_below H1.out LW5.out))
  rw [hlq]
  have HLQ := Aside0.mk hlq
  have HLS := Aside0.mk hls
  have HLT := Aside0.mk hlt2
  clear hrS hrQ hrT O_5 O_S O_N O_O HB3 HB4 HB5 HBP R_P Y_P L1 L2 H1 H2 hls hlq hlt2 hcell hfz HAK hgo1 hgo2
  refine seq_start [] (.take 0 (.take 2 (.take 3 (.take 4 (.take 5 (.take 6 (.take 7 (.run 1 (.run 8 (.take 9 .done)))))))))) (by kernel_rfl) (by kernel_rfl) (fun _ _ d _ _ h => by cases d <;> exact h) ?_
  refine seq_take (v := ?_) (a' := ?_) rfl rfl (by rfl) (fun w' hw' => ?_) ?_ ?_
  rotate_left 2
  · go_simp
    with_reducible rfl
  · simp only [Act.put, List.setIfInBounds_toArray, List.set_cons_zero, List.set_cons_succ, Go.Proofs.YtcbcoaafdggniaaW.PrintLast.i64_w, Go.Proofs.YtcbcoaafdggniaaW.PrintLast.i32_w]
    rfl
  refine seq_take (v := ?_) (a' := ?_) rfl rfl (by rfl) (fun w' hw' => ?_) ?_ ?_
  rotate_left 2
  · go_simp
    with_reducible rfl
  · simp only [Act.put, List.setIfInBounds_toArray, List.set_cons_zero, List.set_cons_succ, Go.Proofs.YtcbcoaafdggniaaW.PrintLast.i64_w, Go.Proofs.YtcbcoaafdggniaaW.PrintLast.i32_w]
    rfl
  refine seq_take (v := ?_) (a' := ?_) rfl rfl (by rfl) (fun w' hw' => ?_) ?_ ?_
  rotate_left 2
  · go_simp
    with_reducible rfl
  · simp only [Act.put, List.setIfInBounds_toArray, List.set_cons_zero, List.set_cons_succ, Go.Proofs.YtcbcoaafdggniaaW.PrintLast.i64_w, Go.Proofs.YtcbcoaafdggniaaW.PrintLast.i32_w]
    rfl
  refine seq_take (v := ?_) (a' := ?_) rfl rfl (by rfl) (fun w' hw' => ?_) ?_ ?_
  rotate_left 2
  · go_simp
    with_reducible rfl
  · simp only [Act.put, List.setIfInBounds_toArray, List.set_cons_zero, List.set_cons_succ, Go.Proofs.YtcbcoaafdggniaaW.PrintLast.i64_w, Go.Proofs.YtcbcoaafdggniaaW.PrintLast.i32_w]
    rfl
  refine seq_take (v := ?_) (a' := ?_) rfl rfl (by rfl) (fun w' hw' => ?_) ?_ ?_
  rotate_left 2
  · go_simp
    with_reducible rfl
  · simp only [Act.put, List.setIfInBounds_toArray, List.set_cons_zero, List.set_cons_succ, Go.Proofs.YtcbcoaafdggniaaW.PrintLast.i64_w, Go.Proofs.YtcbcoaafdggniaaW.PrintLast.i32_w]
    rfl
  refine seq_take (v := ?_) (a' := ?_) rfl rfl (by rfl) (fun w' hw' => ?_) ?_ ?_
  rotate_left 2
  · go_simp
    with_reducible rfl
  · simp only [Act.put, List.setIfInBounds_toArray, List.set_cons_zero, List.set_cons_succ, Go.Proofs.YtcbcoaafdggniaaW.PrintLast.i64_w, Go.Proofs.YtcbcoaafdggniaaW.PrintLast.i32_w]
    rfl
  refine seq_take (v := ?_) (a' := ?_) rfl rfl (by rfl) (fun w' hw' => ?_) ?_ ?_
  rotate_left 2
  · go_simp
    with_reducible rfl
  · simp only [Act.put, List.setIfInBounds_toArray, List.set_cons_zero, List.set_cons_succ, Go.Proofs.YtcbcoaafdggniaaW.PrintLast.i64_w, Go.Proofs.YtcbcoaafdggniaaW.PrintLast.i32_w]
    rfl
  refine seq_run ?_
  refine do_call rfl rfl (by rfl) rfl Try.func8 (by kernel_rfl) rfl #[.slice A1 n1 c1, .int .i64 60] (by simp only [List.map_toArray, List.map_cons, List.map_nil]; rfl) ?_
  with_reducible refine (few_new A1 n1 c1 xb 60 _ HX5.out hc1 hb1 (by omega) (by omega)).mono ?_
  rintro e w6 ⟨BX, dX, X, rfl, EX, bX, OX, hdX, lX, RX, hB6⟩
  refine ⟨_, ?_, rfl, ?_, fun _ => hB6, ?_⟩
  rotate_left
  · simp only [Act.put, List.setIfInBounds_toArray, List.set_cons_zero, List.set_cons_succ, Go.Proofs.YtcbcoaafdggniaaW.PrintLast.i64_w, Go.Proofs.YtcbcoaafdggniaaW.PrintLast.i32_w]
    rfl
  have HB6 : Aside0 (Later w5.drew w6) := ⟨hB6⟩
  have HXg : Aside0 (Gu w6 BX dX X) := ⟨⟨RX.out, hdX, bX, by simp only [Int.reduceToNat] at lX; omega⟩⟩
  clear EX OX RX HX5 hB6 bX
  refine seq_run ?_
  refine do_val (v := ?_) (a' := ?_) (w1 := ?_) rfl rfl (by rfl) ?_ ?_ ?_
  rotate_left 3
  · go_simp
    constructor <;> rfl
  · simp only [Act.put, List.setIfInBounds_toArray, List.set_cons_zero, List.set_cons_succ, Go.Proofs.YtcbcoaafdggniaaW.PrintLast.i64_w, Go.Proofs.YtcbcoaafdggniaaW.PrintLast.i32_w]
    rfl
  refine ⟨fun _ => below_alloc (Below.refl _ _) _, ?_⟩
  refine seq_take (v := ?_) (a' := ?_) rfl rfl (by rfl) (fun w' hw' => ?_) ?_ ?_
  rotate_left 2
  · go_simp
    with_reducible rfl
  · simp only [Act.put, List.setIfInBounds_toArray, List.set_cons_zero, List.set_cons_succ, Go.Proofs.YtcbcoaafdggniaaW.PrintLast.i64_w, Go.Proofs.YtcbcoaafdggniaaW.PrintLast.i32_w]
    rfl
  refine seq_end ?_
  obtain ⟨wr0, hwr0⟩ : ∃ w', w' = w6.alloc (.cells #[.slice BX X.length dX, .slice BP N.length dP, .slice (some ⟨go, 0, none⟩) N.length dO, .slice BP k dP, .slice BQ (N.length + 1) dQ] 22) := ⟨_, rfl⟩

  obtain ⟨ad, had⟩ : ∃ ad : Addr, ad = ⟨w6.heap.size, 0, none⟩ := ⟨_, rfl⟩
  have L6a : Later w6 wr0 := by rw [hwr0]; exact below_alloc (Below.refl _ _) _
  have L5a : Later w5 wr0 := Later.trans (Later.trans (Below.drew (Later.refl w5)) HB6.out) L6a
  have hrows : Rws wr0 ad 5 := fun j hj => by
    have hb3 := blk_new w6 (.cells #[.slice BX X.length dX, .slice BP N.length dP, .slice (some ⟨go, 0, none⟩) N.length dO, .slice BP k dP, .slice BQ (N.length + 1) dQ] 22)
    rw [← hwr0] at hb3
    rcases j with _ | _ | _ | _ | _ | j
    · exact ⟨BX, dX, X, by rw [had, add_plain, blk_cell hb3]; rfl, HXg.out.later L6a⟩
    · exact ⟨BP, dP, N, by rw [had, add_plain, blk_cell hb3]; rfl, HPg.out.later L5a⟩
    · exact ⟨_, dO, N.set k c, by rw [had, add_plain, blk_cell hb3, HLS.out]; rfl, HSg.out.later L5a⟩
    · exact ⟨BP, dP, N.take k, by rw [had, add_plain, blk_cell hb3, HLT.out]; rfl, HTg.out.later L5a⟩
    · exact ⟨BQ, dQ, N ++ [c], by rw [had, add_plain, blk_cell hb3, HLQ.out]; rfl, HQg.out.later L5a⟩
    · omega
  rw [← had, ← hwr0]
  clear had hwr0
  go_wp2_with (go_at_call 16; refine (HAC.out _).mono ?_; rintro e u0 ⟨rfl, rfl⟩)
  obtain ⟨w9, hw9⟩ : ∃ w', w' = wr0.alloc (.cells #[.int .i64 most, .int .i64 am] 3) := ⟨_, rfl⟩
  have HR : Aside0 (Rws w9 ad 5) := ⟨by rw [hw9]; exact hrows.later (below_alloc (Below.refl _ _) _)⟩
  have hms9 := blk_new wr0 (.cells #[.int .i64 most, .int .i64 am] 3)
  rw [← hw9] at hms9
  obtain ⟨gm, hgm⟩ : ∃ gm, gm = wr0.heap.size := ⟨_, rfl⟩
  rw [← hgm] at hms9
  have HMS : Aside0 (∀ j, j < 2 → ∃ z : Int, w9.cell? ⟨gm, j, none⟩ = some (.int .i64 z)) := ⟨ms2 hms9⟩
  have hLW : Below w.heap.size w w9 := by
    rw [hw9]
    exact Below.trans LW5.out ((Later.trans L5a (below_alloc (Below.refl _ _) _)).mono LW5.out.size)
  rw [← hgm, ← hw9]
  clear hgm hw9 hrows hms9 L6a L5a HB6 HXg HPg HSg HTg HQg LW5 HLS HLT HLQ hcut hdP hdO hdN hdQ hdX
  have LW := Aside0.mk hLW
  clear hLW
  go_loopw [17, 18, 19, 20, 21, 22, 23, 24, 25] (fun k _ _ _ _ _ _ _ _ wr => ∃ i : Nat, i ≤ 5 ∧ k = .int .i64 i ∧ Below w9.heap.size w9 wr) (fun k _ _ _ _ _ _ _ _ _ => 5 - (intOf k).toNat)
  case atStart => exact ⟨0, by omega, rfl, Below.refl _ _⟩
  case round =>
    obtain ⟨i, hi, rfl, hB⟩ := hrel
    have HB := Aside0.mk hB
    clear hB
    by_cases hi2 : i < 5
    · have hi2I : (i : Int) < 5 := by omega
      obtain ⟨B, d, Y, hcell0, hg⟩ := HR.out i hi2
      have HCELL := Aside0.mk hcell0
      have HG := Aside0.mk hg
      have hYl := hg.len
      clear hcell0 hg
      go_wp2
      obtain ⟨wa, rfl⟩ : ∃ wa, wa = wr := ⟨_, rfl⟩
      go_loopw [18, 19, 20, 21, 22] (fun k _ _ _ _ wq => ∃ j : Nat, j ≤ 2 ∧ k = .int .i64 j ∧ Below w9.heap.size w9 wq) (fun k _ _ _ _ _ => 2 - (intOf k).toNat)
      case atStart => exact ⟨0, by omega, rfl, HB.out⟩
      case round =>
        obtain ⟨j, hj, rfl, hB⟩ := hrel
        have HQ := Aside0.mk hB
        clear hB
        by_cases hj3 : j < 2
        · have hj3I : (j : Int) < 2 := by omega
          obtain ⟨z, hz⟩ := HMS.out j hj3
          have hcell := pw_cell_below HQ.out HCELL.out
          have hzc := pw_cell_below HQ.out hz
          have HG1 := Aside0.mk (HG.out.later HQ.out)
          clear hz
          have HCD := Aside0.mk ((World.cell?_drew wr _).trans hcell)
          have HZD := Aside0.mk ((World.cell?_drew wr _).trans hzc)
          have HGD := Aside0.mk (HG1.out.later (Below.drew (Later.refl wr)))
          clear hcell hzc
          go_wp2_with fail
          refine seq_start [] (.take 0 (.take 1 (.take 2 (.take 3 (.take 4 (.take 5 (.take 6 (.take 7 (.run 8 (.take 9 (.take 10 (.take 11 (.take 12 (.take 13 .done)))))))))))))) (by kernel_rfl) (by kernel_rfl) (fun _ _ d _ _ h => by cases d <;> exact h) ?_
          refine seq_take (v := ?_) (a' := ?_) rfl rfl (by rfl) (fun w' hw' => ?_) ?_ ?_
          rotate_left 2
          · go_simp
            with_reducible rfl
          · simp only [Act.put, List.setIfInBounds_toArray, List.set_cons_zero, List.set_cons_succ, Go.Proofs.YtcbcoaafdggniaaW.PrintLast.i64_w, Go.Proofs.YtcbcoaafdggniaaW.PrintLast.i32_w]
            rfl
          refine seq_take (v := ?_) (a' := ?_) rfl rfl (by rfl) (fun w' hw' => ?_) ?_ ?_
          rotate_left 2
          · go_simp
            with_reducible rfl
          · simp only [Act.put, List.setIfInBounds_toArray, List.set_cons_zero, List.set_cons_succ, Go.Proofs.YtcbcoaafdggniaaW.PrintLast.i64_w, Go.Proofs.YtcbcoaafdggniaaW.PrintLast.i32_w]
            rfl
          refine seq_take (v := ?_) (a' := ?_) rfl rfl (by rfl) (fun w' hw' => ?_) ?_ ?_
          rotate_left 2
          · go_simp
            with_reducible rfl
          · simp only [Act.put, List.setIfInBounds_toArray, List.set_cons_zero, List.set_cons_succ, Go.Proofs.YtcbcoaafdggniaaW.PrintLast.i64_w, Go.Proofs.YtcbcoaafdggniaaW.PrintLast.i32_w]
            rfl
          refine seq_take (v := ?_) (a' := ?_) rfl rfl (by rfl) (fun w' hw' => ?_) ?_ ?_
          rotate_left 2
          · have hq := pw_cell_below hw' HCD.out; go_simp
            with_reducible rfl
          · simp only [Act.put, List.setIfInBounds_toArray, List.set_cons_zero, List.set_cons_succ, Go.Proofs.YtcbcoaafdggniaaW.PrintLast.i64_w, Go.Proofs.YtcbcoaafdggniaaW.PrintLast.i32_w]
            rfl
          refine seq_take (v := ?_) (a' := ?_) rfl rfl (by rfl) (fun w' hw' => ?_) ?_ ?_
          rotate_left 2
          · go_simp
            with_reducible rfl
          · simp only [Act.put, List.setIfInBounds_toArray, List.set_cons_zero, List.set_cons_succ, Go.Proofs.YtcbcoaafdggniaaW.PrintLast.i64_w, Go.Proofs.YtcbcoaafdggniaaW.PrintLast.i32_w]
            rfl
          refine seq_take (v := ?_) (a' := ?_) rfl rfl (by rfl) (fun w' hw' => ?_) ?_ ?_
          rotate_left 2
          · go_simp
            with_reducible rfl
          · simp only [Act.put, List.setIfInBounds_toArray, List.set_cons_zero, List.set_cons_succ, Go.Proofs.YtcbcoaafdggniaaW.PrintLast.i64_w, Go.Proofs.YtcbcoaafdggniaaW.PrintLast.i32_w]
            rfl
          refine seq_take (v := ?_) (a' := ?_) rfl rfl (by rfl) (fun w' hw' => ?_) ?_ ?_
          rotate_left 2
          · go_simp
            with_reducible rfl
          · simp only [Act.put, List.setIfInBounds_toArray, List.set_cons_zero, List.set_cons_succ, Go.Proofs.YtcbcoaafdggniaaW.PrintLast.i64_w, Go.Proofs.YtcbcoaafdggniaaW.PrintLast.i32_w]
            rfl
          refine seq_take (v := ?_) (a' := ?_) rfl rfl (by rfl) (fun w' hw' => ?_) ?_ ?_
          rotate_left 2
          · have hq := pw_cell_below hw' HZD.out; go_simp
            with_reducible rfl
          · simp only [Act.put, List.setIfInBounds_toArray, List.set_cons_zero, List.set_cons_succ, Go.Proofs.YtcbcoaafdggniaaW.PrintLast.i64_w, Go.Proofs.YtcbcoaafdggniaaW.PrintLast.i32_w]
            rfl
          refine seq_run ?_
          refine do_call rfl rfl (by rfl) rfl Try.func11 (by kernel_rfl) rfl #[.slice B Y.length d, .int .i64 z] (by simp only [List.map_toArray, List.map_cons, List.map_nil]; rfl) ?_
          with_reducible refine (open_calls B Y.length d Y z wr.drew HGD.out.rd HGD.out.by_ HGD.out.le (by omega)).mono ?_
          rintro e w5 ⟨⟨vx, rfl, hOx, hbx⟩, hB5⟩
          refine ⟨_, ?_, rfl, ?_, fun _ => hB5, ?_⟩
          rotate_left
          · simp only [Act.put, List.setIfInBounds_toArray, List.set_cons_zero, List.set_cons_succ, Go.Proofs.YtcbcoaafdggniaaW.PrintLast.i64_w, Go.Proofs.YtcbcoaafdggniaaW.PrintLast.i32_w]
            rfl
          obtain ⟨AX, dX', rfl, hdX, hrX⟩ := hOx.reads
          have L5 : Aside0 (Later wr.drew w5) := ⟨hB5⟩
          have RX := Aside0.mk hrX
          clear hOx hbx hB5 hrX
          refine seq_take (v := ?_) (a' := ?_) rfl rfl (by rfl) (fun w' hw' => ?_) ?_ ?_
          rotate_left 2
          · go_simp
            with_reducible rfl
          · simp only [Act.put, List.setIfInBounds_toArray, List.set_cons_zero, List.set_cons_succ, Go.Proofs.YtcbcoaafdggniaaW.PrintLast.i64_w, Go.Proofs.YtcbcoaafdggniaaW.PrintLast.i32_w]
            rfl
          refine seq_take (v := ?_) (a' := ?_) rfl rfl (by rfl) (fun w' hw' => ?_) ?_ ?_
          rotate_left 2
          · go_simp
            with_reducible rfl
          · simp only [Act.put, List.setIfInBounds_toArray, List.set_cons_zero, List.set_cons_succ, Go.Proofs.YtcbcoaafdggniaaW.PrintLast.i64_w, Go.Proofs.YtcbcoaafdggniaaW.PrintLast.i32_w]
            rfl
          refine seq_take (v := ?_) (a' := ?_) rfl rfl (by rfl) (fun w' hw' => ?_) ?_ ?_
          rotate_left 2
          · go_simp
            with_reducible rfl
          · simp only [Act.put, List.setIfInBounds_toArray, List.set_cons_zero, List.set_cons_succ, Go.Proofs.YtcbcoaafdggniaaW.PrintLast.i64_w, Go.Proofs.YtcbcoaafdggniaaW.PrintLast.i32_w]
            rfl
          refine seq_take (v := ?_) (a' := ?_) rfl rfl (by rfl) (fun w' hw' => ?_) ?_ ?_
          rotate_left 2
          · go_simp
            with_reducible rfl
          · simp only [Act.put, List.setIfInBounds_toArray, List.set_cons_zero, List.set_cons_succ, Go.Proofs.YtcbcoaafdggniaaW.PrintLast.i64_w, Go.Proofs.YtcbcoaafdggniaaW.PrintLast.i32_w]
            rfl
          refine seq_take (v := ?_) (a' := ?_) rfl rfl (by rfl) (fun w' hw' => ?_) ?_ ?_
          rotate_left 2
          · go_simp
            with_reducible rfl
          · simp only [Act.put, List.setIfInBounds_toArray, List.set_cons_zero, List.set_cons_succ, Go.Proofs.YtcbcoaafdggniaaW.PrintLast.i64_w, Go.Proofs.YtcbcoaafdggniaaW.PrintLast.i32_w]
            rfl
          refine seq_end ?_
          obtain ⟨r, hr⟩ : ∃ r, openL z Y = r := ⟨_, rfl⟩
          rw [hr] at RX hdX
          rw [hr]
          have HRU : Aside0 (∀ W, Gu W B d Y → Calls Try.prog 17 #[.slice B Y.length d, .int .i64 z] W fun e w' => ROPost W r e w') := ⟨fun W h => by rw [← hr]; exact ropen_calls B Y.length d Y z W h.rd h.by_ h.le (by have := h.len; omega)⟩
          have HG5d := Aside0.mk ((HGD.out.later L5.out).later (Below.drew (Later.refl w5)))
          have HC5 := Aside0.mk ((World.cell?_drew w5 _).trans (pw_cell_below L5.out HCD.out))
          have HZ5 := Aside0.mk ((World.cell?_drew w5 _).trans (pw_cell_below L5.out HZD.out))
          have HQ5 : Aside0 (Below w9.heap.size w9 w5) := ⟨Later.trans (Later.trans HQ.out (Below.drew (Later.refl wr))) L5.out |> fun (h : Later w9 w5) => h⟩
          clear hr
          go_wp2_with fail
          refine seq_start [] (.take 0 (.take 1 (.take 2 (.take 3 (.take 4 (.take 5 (.take 6 (.take 7 (.run 8 (.take 9 (.take 10 (.take 11 (.take 12 (.take 13 .done)))))))))))))) (by kernel_rfl) (by kernel_rfl) (fun _ _ d _ _ h => by cases d <;> exact h) ?_
          refine seq_take (v := ?_) (a' := ?_) rfl rfl (by rfl) (fun w' hw' => ?_) ?_ ?_
          rotate_left 2
          · go_simp
            with_reducible rfl
          · simp only [Act.put, List.setIfInBounds_toArray, List.set_cons_zero, List.set_cons_succ, Go.Proofs.YtcbcoaafdggniaaW.PrintLast.i64_w, Go.Proofs.YtcbcoaafdggniaaW.PrintLast.i32_w]
            rfl
          refine seq_take (v := ?_) (a' := ?_) rfl rfl (by rfl) (fun w' hw' => ?_) ?_ ?_
          rotate_left 2
          · go_simp
            with_reducible rfl
          · simp only [Act.put, List.setIfInBounds_toArray, List.set_cons_zero, List.set_cons_succ, Go.Proofs.YtcbcoaafdggniaaW.PrintLast.i64_w, Go.Proofs.YtcbcoaafdggniaaW.PrintLast.i32_w]
            rfl
          refine seq_take (v := ?_) (a' := ?_) rfl rfl (by rfl) (fun w' hw' => ?_) ?_ ?_
          rotate_left 2
          · go_simp
            with_reducible rfl
          · simp only [Act.put, List.setIfInBounds_toArray, List.set_cons_zero, List.set_cons_succ, Go.Proofs.YtcbcoaafdggniaaW.PrintLast.i64_w, Go.Proofs.YtcbcoaafdggniaaW.PrintLast.i32_w]
            rfl
          refine seq_take (v := ?_) (a' := ?_) rfl rfl (by rfl) (fun w' hw' => ?_) ?_ ?_
          rotate_left 2
          · have hq := pw_cell_below hw' HC5.out; go_simp
            with_reducible rfl
          · simp only [Act.put, List.setIfInBounds_toArray, List.set_cons_zero, List.set_cons_succ, Go.Proofs.YtcbcoaafdggniaaW.PrintLast.i64_w, Go.Proofs.YtcbcoaafdggniaaW.PrintLast.i32_w]
            rfl
          refine seq_take (v := ?_) (a' := ?_) rfl rfl (by rfl) (fun w' hw' => ?_) ?_ ?_
          rotate_left 2
          · go_simp
            with_reducible rfl
          · simp only [Act.put, List.setIfInBounds_toArray, List.set_cons_zero, List.set_cons_succ, Go.Proofs.YtcbcoaafdggniaaW.PrintLast.i64_w, Go.Proofs.YtcbcoaafdggniaaW.PrintLast.i32_w]
            rfl
          refine seq_take (v := ?_) (a' := ?_) rfl rfl (by rfl) (fun w' hw' => ?_) ?_ ?_
          rotate_left 2
          · go_simp
            with_reducible rfl
          · simp only [Act.put, List.setIfInBounds_toArray, List.set_cons_zero, List.set_cons_succ, Go.Proofs.YtcbcoaafdggniaaW.PrintLast.i64_w, Go.Proofs.YtcbcoaafdggniaaW.PrintLast.i32_w]
            rfl
          refine seq_take (v := ?_) (a' := ?_) rfl rfl (by rfl) (fun w' hw' => ?_) ?_ ?_
          rotate_left 2
          · go_simp
            with_reducible rfl
          · simp only [Act.put, List.setIfInBounds_toArray, List.set_cons_zero, List.set_cons_succ, Go.Proofs.YtcbcoaafdggniaaW.PrintLast.i64_w, Go.Proofs.YtcbcoaafdggniaaW.PrintLast.i32_w]
            rfl
          refine seq_take (v := ?_) (a' := ?_) rfl rfl (by rfl) (fun w' hw' => ?_) ?_ ?_
          rotate_left 2
          · have hq := pw_cell_below hw' HZ5.out; go_simp
            with_reducible rfl
          · simp only [Act.put, List.setIfInBounds_toArray, List.set_cons_zero, List.set_cons_succ, Go.Proofs.YtcbcoaafdggniaaW.PrintLast.i64_w, Go.Proofs.YtcbcoaafdggniaaW.PrintLast.i32_w]
            rfl
          refine seq_run ?_
          refine do_call rfl rfl (by rfl) rfl Try.func17 (by kernel_rfl) rfl #[.slice B Y.length d, .int .i64 z] (by simp only [List.map_toArray, List.map_cons, List.map_nil]; rfl) ?_
          with_reducible refine (HRU.out _ HG5d.out).mono ?_
          rintro e w7 ⟨BY, dY, rfl, hdY, hrY, hbY, hB7⟩
          refine ⟨_, ?_, rfl, ?_, fun _ => hB7, ?_⟩
          rotate_left
          · simp only [Act.put, List.setIfInBounds_toArray, List.set_cons_zero, List.set_cons_succ, Go.Proofs.YtcbcoaafdggniaaW.PrintLast.i64_w, Go.Proofs.YtcbcoaafdggniaaW.PrintLast.i32_w]
            rfl
          have L7 : Aside0 (Later w5.drew w7) := ⟨hB7⟩
          have RY := Aside0.mk hrY
          clear hB7 hrY hbY
          refine seq_take (v := ?_) (a' := ?_) rfl rfl (by rfl) (fun w' hw' => ?_) ?_ ?_
          rotate_left 2
          · go_simp
            with_reducible rfl
          · simp only [Act.put, List.setIfInBounds_toArray, List.set_cons_zero, List.set_cons_succ, Go.Proofs.YtcbcoaafdggniaaW.PrintLast.i64_w, Go.Proofs.YtcbcoaafdggniaaW.PrintLast.i32_w]
            rfl
          refine seq_take (v := ?_) (a' := ?_) rfl rfl (by rfl) (fun w' hw' => ?_) ?_ ?_
          rotate_left 2
          · go_simp
            with_reducible rfl
          · simp only [Act.put, List.setIfInBounds_toArray, List.set_cons_zero, List.set_cons_succ, Go.Proofs.YtcbcoaafdggniaaW.PrintLast.i64_w, Go.Proofs.YtcbcoaafdggniaaW.PrintLast.i32_w]
            rfl
          refine seq_take (v := ?_) (a' := ?_) rfl rfl (by rfl) (fun w' hw' => ?_) ?_ ?_
          rotate_left 2
          · go_simp
            with_reducible rfl
          · simp only [Act.put, List.setIfInBounds_toArray, List.set_cons_zero, List.set_cons_succ, Go.Proofs.YtcbcoaafdggniaaW.PrintLast.i64_w, Go.Proofs.YtcbcoaafdggniaaW.PrintLast.i32_w]
            rfl
          refine seq_take (v := ?_) (a' := ?_) rfl rfl (by rfl) (fun w' hw' => ?_) ?_ ?_
          rotate_left 2
          · go_simp
            with_reducible rfl
          · simp only [Act.put, List.setIfInBounds_toArray, List.set_cons_zero, List.set_cons_succ, Go.Proofs.YtcbcoaafdggniaaW.PrintLast.i64_w, Go.Proofs.YtcbcoaafdggniaaW.PrintLast.i32_w]
            rfl
          refine seq_take (v := ?_) (a' := ?_) rfl rfl (by rfl) (fun w' hw' => ?_) ?_ ?_
          rotate_left 2
          · go_simp
            with_reducible rfl
          · simp only [Act.put, List.setIfInBounds_toArray, List.set_cons_zero, List.set_cons_succ, Go.Proofs.YtcbcoaafdggniaaW.PrintLast.i64_w, Go.Proofs.YtcbcoaafdggniaaW.PrintLast.i32_w]
            rfl
          refine seq_end ?_
          have hs1 := conv_str (Kd.C_below RX.out (Later.trans (Below.drew (Later.refl w5)) L7.out)) dX'
          have hs2 := conv_str RY.out dY
          go_wp2
          go_roundw
          case rel => exact ⟨j + 1, by omega, by go_num, Later.trans HQ5.out (Later.trans (Below.drew (Later.refl w5)) L7.out) |> fun (h : Later w9 w7) => h⟩
          case measure => simp [intOf]; omega
        · have hj3I : ¬ (j : Int) < 2 := by omega
          have hcell := pw_cell_below HQ.out HCELL.out
          have HG1 := Aside0.mk (HG.out.later HQ.out)
          rcases hcn : lenL Y with _ | kk
          · have HVN := Aside0.mk (lenV_none hcn)
            have HIN := Aside0.mk (lenI_none hcn)
            clear hcn
            go_wp2_with (first
              | (go_at_call 12; (with_reducible refine at_cw wr ?_); refine (length_calls B Y.length d Y wr HG1.out.rd HG1.out.by_ (by omega)).mono ?_; rw [HVN.out]; rintro e u0 ⟨rfl, rfl⟩)
              | (go_at_call 18; (with_reducible refine at_cw wr ?_); refine (rlength_calls B Y.length d Y wr HG1.out.rd HG1.out.by_ (by omega)).mono ?_; rw [HIN.out]; rintro e w5 ⟨rfl, hB⟩; have L5 : Aside0 (Later wr w5) := ⟨hB⟩; clear hB))
            go_roundw
            case rel => exact ⟨i + 1, by omega, by go_num, Later.trans HQ.out L5.out |> fun (h : Later w9 w5) => h⟩
            case measure => simp [intOf]; omega
          · have HVN := Aside0.mk (lenV_some hcn)
            have HIN := Aside0.mk (lenI_some hcn)
            clear hcn
            go_wp2_with (first
              | (go_at_call 12; (with_reducible refine at_cw wr ?_); refine (length_calls B Y.length d Y wr HG1.out.rd HG1.out.by_ (by omega)).mono ?_; rw [HVN.out]; rintro e u0 ⟨rfl, rfl⟩)
              | (go_at_call 18; (with_reducible refine at_cw wr ?_); refine (rlength_calls B Y.length d Y wr HG1.out.rd HG1.out.by_ (by omega)).mono ?_; rw [HIN.out]; rintro e w5 ⟨rfl, hB⟩; have L5 : Aside0 (Later wr w5) := ⟨hB⟩; clear hB))
            go_roundw
            case rel => exact ⟨i + 1, by omega, by go_num, Later.trans HQ.out L5.out |> fun (h : Later w9 w5) => h⟩
            case measure => simp [intOf]; omega
    · have hi2I : ¬ (i : Int) < 5 := by omega
      go_wp2_with (go_at_call 15; (with_reducible refine at_cw wr ?_); refine (lives_calls wr).mono ?_; rintro e w5 ⟨rfl, hB⟩; have L5 : Aside0 (Later wr w5) := ⟨hB⟩; clear hB)
      (try simp only [Exit.inBlock, Exit.then])
      refine bodyPost_ret (results_tmp rfl _ _ _) rfl ⟨rfl, ?_⟩
      exact LW.out.trans (Below.mono (Later.trans HB.out L5.out) LW.out.size)
end Go.Proofs.Ytcbcoaafdggniaa
