/- Contracts: lighterageref05.literal, lighterageref05.Pack. Conditions: each contract's own. -/
import Derived.Test.YtnkkjmbpopodlaaDoorLz7
import Derived.Test.YtnkkjmbpopodlaaDoorG8
namespace Go.Proofs.YtnkkjmbpopodlaaDoor
open Go.RowKit Go.Shelf Go.Proofs.YtnkkjmbpopodlaaDoorW.PrintWords Go.Proofs.YtnkkjmbpopodlaaDoorW.PrintMore
attribute [local go_sem] max2_int min2_int max_two min_two
set_option linter.unusedVariables false
set_option linter.unusedSimpArgs false
theorem lit_step {b : List Int} {j m : Nat} (hj : j < b.length) (hm : m = min (b.length - j) 128) (out : List Int) : out ++ litL (b.drop j) = out ++ [(m : Int) - 1] ++ midL b j (j + m) ++ litL (b.drop (j + 128)) := by
  have hl : (b.drop j).length = b.length - j := List.length_drop
  rw [litL_cons (by omega), hl, ← hm, List.drop_drop]
  have e1 : (b.drop j).take m = midL b j (j + m) := by
    unfold midL
    rw [List.drop_take, show j + m - j = m by omega]
  have e2 : b.drop (j + m) = b.drop (j + 128) := by
    by_cases h : m = 128
    · rw [h]
    · rw [List.drop_eq_nil_of_le (by omega), List.drop_eq_nil_of_le (by omega)]
  rw [e1, e2]
  simp
set_option maxRecDepth 20000 in
set_option maxHeartbeats 1600000 in
theorem rliteral_calls (A : Option Addr) (N c : Nat) (b : List Int) (w : World) (h : RdB w A N b) (hb : Bytes b) (hc : N ≤ c) (hN : N ≤ 1099511627776) :
    Calls Tryd.prog 64 #[.slice A N c] w fun e w' => ∃ v, e = .returned v ∧ MadeI w v (litL b) w' := by
  obtain rfl : b.length = N := h.1
  have HX := Aside0.mk h
  clear h
  have hll := litL_len _ b (Nat.le_refl _)
  go_enter Tryd.func64, Tryd.ntmps64
  go_wp2
  go_loopw [3, 4, 5] (fun v i _ wr => ∃ (j : Nat) (out : List Int), j ≤ b.length + 128 ∧ i = .int .i64 j ∧ out ++ litL (b.drop j) = litL b ∧ MadeI w v out wr) (fun _ i _ _ => b.length + 256 - (intOf i).toNat)
  case atStart => exact ⟨0, [], by omega, rfl, rfl, Kd.R_nil _ _ _ _ _, Bytes.nil, Below.refl _ _⟩
  case round =>
    obtain ⟨j, out, hj, rfl, he, hM⟩ := hrel
    obtain ⟨B, d0, rfl, hd0, hr0⟩ := hM.own.reads
    have HM := Aside0.mk hM
    have HE := Aside0.mk he
    have hol : out.length ≤ 2 * b.length := by have := congrArg List.length he; rw [List.length_append] at this; omega
    clear hM he hr0
    by_cases hlt : j < b.length
    · have hltI : (j : Int) < (b.length : Int) := by omega
      obtain ⟨m, hm⟩ : ∃ m, m = min (b.length - j) 128 := ⟨_, rfl⟩
      have HS := Aside0.mk (lit_step hlt hm out)
      have hm1 : 1 ≤ m ∧ m ≤ 128 ∧ j + m ≤ b.length := by omega
      have hmI : (if (b.length : Int) < (j : Int) + 128 then (b.length : Int) else (j : Int) + 128) = (j : Int) + (m : Int) := by split <;> omega
      obtain ⟨B3, c3, hmid, hr3⟩ : ∃ B3 c3, (∀ W : World, (Instr.slice 37 (.slice A b.length c) (some (.int .i64 (j : Int))) (some (.int .i64 ((j : Int) + (m : Int)))) none).run Tryd.prog W = .ok (.slice B3 m c3) W) ∧ RdB w B3 m (midL b j (j + m)) := by
        have := cutMid HX.out hc (j : Int) ((j : Int) + (m : Int)) (by omega) (by omega) (by omega)
        rw [show ((j : Int) + (m : Int)).toNat = j + m by omega, Int.toNat_natCast, show j + m - j = m by omega] at this
        exact ⟨_, _, this⟩
      have HR3 := Aside0.mk hr3
      clear hr3 hm
      go_wp2_with (first
        | ((with_reducible refine at_w (wr.alloc (.cells #[.int .u8 ((m : Int) - 1)] 5)) ?_); at_builtin; refine appB (w0 := w) w.heap.size rfl (.tmp 20) (.tmp 25) rfl _ _ _ rfl rfl HM.out.own HM.out.below HM.out.below.size (by omega) ?_; intro v5 w5 hO5 hB5 _ _; have HO5 := Aside0.mk hO5; have HB5 := Aside0.mk hB5; clear hO5 hB5)
        | (at_builtin; refine appB (w0 := w) w.heap.size rfl (.tmp 20) (.tmp 25) rfl _ _ _ rfl rfl HM.out.own HM.out.below HM.out.below.size (by omega) ?_; intro v5 w5 hO5 hB5 _ _; have HO5 := Aside0.mk hO5; have HB5 := Aside0.mk hB5; clear hO5 hB5)
        | (at_builtin; refine appBs (w0 := w) w.heap.size rfl (.tmp 27) (.tmp 28) rfl v5 (out ++ [(m : Int) - 1]) (midL b j (j + m)) B3 m c3 rfl rfl HO5.out (Kd.C_below HR3.out HB5.out) HB5.out HB5.out.size (by rw [List.length_append, List.length_singleton]; omega) ?_; intro v6 w6 hO6 hB6 _ _))
      go_roundw
      case rel =>
        refine ⟨j + 128, _, by omega, by go_num, ?_, hO6, (HM.out.by_.append (Bytes.one (by omega) (by omega))).append (hb.mid j (j + m)), hB6⟩
        rw [← HS.out]
        exact HE.out
      case measure => simp [intOf]; omega
    · have hltI : ¬ (j : Int) < (b.length : Int) := by omega
      go_wp2
      (try simp only [Exit.inBlock, Exit.then])
      refine bodyPost_ret (results_tmp rfl _ _ _) rfl ?_
      have he := HE.out
      rw [List.drop_eq_nil_of_le (by omega), litL_nil, List.append_nil] at he
      rw [← he]
      exact ⟨_, rfl, HM.out⟩
theorem grown_cell {W W1 : World} {r : Option Nat} (h : W.grownBy W1 r) {p : Addr} {v : Value} (hc : W.cell? p = some v) (hr : r ≠ some p.block) : W1.cell? p = some v :=
  ((Fr.refl W (fun k => r = some k)).grown h (fun i hi => .inl hi)).cell hc hr
theorem grown_ne {v v1 : Value} {n g : Nat} (h : v1.ownBlock = v.ownBlock ∨ ∃ q, v1.ownBlock = some q ∧ n ≤ q) (hv : v.ownBlock ≠ some g) (hg : g < n) : v1.ownBlock ≠ some g := fun e => by
  rcases h with e' | ⟨q, e', hq⟩
  · exact hv (e' ▸ e)
  · rw [e] at e'
    injection e' with e'
    omega
/-- What the loop keeps. -/
structure RPk (w : World) (b : List Int) (i fr : Nat) (v : Value) (out : List Int) (wr : World) : Prop where
  le : fr ≤ i
  iN : i ≤ b.length
  lo : out.length ≤ 4 * fr
  eq : packR b i (midL b fr i) out = packL b
  md : MadeI w v out wr
set_option maxRecDepth 20000 in
set_option maxHeartbeats 3200000 in
theorem rpack_calls (A : Option Addr) (N c : Nat) (b : List Int) (w : World) (h : RdB w A N b) (hb : Bytes b) (hc : N ≤ c) (hN : N ≤ 1099511627776) :
    Calls Tryd.prog 35 #[.slice A N c] w fun e w' => ∃ v, e = .returned v ∧ MadeI w v (packL b) w' := by
  obtain rfl : b.length = N := h.1
  have HX := Aside0.mk h
  clear h
  obtain ⟨C, hC, hz⟩ : ∃ C, Aside0 (C = (mcs (0, 0)).toArray) ∧ (Tryd.prog.info? 114).bind (fun i => i.zero.map (·.cells)) = some C := ⟨_, ⟨rfl⟩, zeroM⟩
  have HZ := Aside0.mk hz
  clear hz
  go_enter Tryd.func35, Tryd.ntmps35
  go_wp2
  go_loopw [3, 4, 5, 6] (fun v fr i _ wr => ∃ (j f : Nat) (out : List Int), i = .int .i64 j ∧ fr = .int .i64 f ∧ RPk w b j f v out wr) (fun _ _ i _ _ => b.length - (intOf i).toNat)
  case atStart => exact ⟨0, 0, [], rfl, rfl, Nat.le_refl _, Nat.zero_le _, by simp, by rw [midL_self]; rfl, Kd.R_nil _ _ _ _ _, Bytes.nil, Below.refl _ _⟩
  case round =>
    obtain ⟨j, f, out, rfl, rfl, hP⟩ := hrel
    obtain ⟨B, d0, rfl, hd0, hr0⟩ := hP.md.own.reads
    have HP := Aside0.mk hP
    have HM := Aside0.mk hP.md
    have hjN := hP.iN
    have hfj := hP.le
    have hlo := hP.lo
    clear hP hr0
    by_cases hlt : j < b.length
    · have hltI : (j : Int) < (b.length : Int) := by omega
      have hmi : lzMI b (j : Int) = lzM b j := by unfold lzMI; rw [if_pos (by omega), Int.toNat_natCast]
      obtain ⟨r, hr⟩ : ∃ r, lzM b j = r := ⟨_, rfl⟩
      have hok := lzM_ok (b := b) (i := j) hjN
      rw [hr] at hmi hok
      have HR := Aside0.mk hr
      have HMI := Aside0.mk hmi
      clear hr hmi
      by_cases hm0 : r.1 = 0
      · have HE : Aside0 (packR b (j + 1) (midL b f (j + 1)) out = packL b) := ⟨by
          rw [midL_snoc hfj hlt, ← packR_lit hlt (by rw [HR.out]; exact hm0)]
          exact HP.out.eq⟩
        clear hok
        go_wp2_with (first
          | (go_at_call 63; (with_reducible refine at_cw wr ?_); refine (rmatch_calls A b.length c b (j : Int) wr (Kd.C_below HX.out HM.out.below) (by omega)).mono ?_; rw [HMI.out]; rintro e w6 ⟨rfl, hB⟩; have L6 : Aside0 (Later wr w6) := ⟨hB⟩; clear hB)
          | ((with_reducible refine at_alr 114 ?_); refine alloc_arm rfl rfl 114 rfl HZ.out ?_)
          | ((with_reducible refine at_st 114 (.tmp 6) (.tmp 13) ?_); refine store_blk rfl 114 (.tmp 6) (.tmp 13) rfl rfl rfl (blk_new w6 _) (by rw [hC.out]; rfl) (sizeMcs r) (mcs_one r) ?_; rintro w7 HS7; have hc0 : w7.cell? ⟨w6.heap.size, 0, none⟩ = some (.int .i64 r.1) := (by rw [blk_cell HS7.at_]; rfl) ; have L7 : Aside0 (Later w6 w7) := ⟨(below_alloc (Below.refl _ w6) _).trans (HS7.below (Nat.le_refl _))⟩))
        go_roundw
        case rel => exact ⟨j + 1, f, out, by go_num, rfl, by omega, by omega, hlo, HE.out, HM.out.own.below (Later.trans L6.out L7.out), HM.out.by_, Later.trans HM.out.below (Later.trans L6.out L7.out) |> fun (h : Later w w7) => h⟩
        case measure => simp [intOf]; omega
      · have hm0I : ¬ r.1 = 0 := hm0
        rcases hok with e0 | ⟨n, d, rfl, hn4, hn131, hd1, hd1024, hdj, hjn, -⟩
        · exact absurd (by rw [e0]) hm0
        obtain ⟨B3, c3, hmid, hjc, hr3⟩ : ∃ B3 c3, (∀ W : World, (Instr.slice 37 (.slice A b.length c) (some (.int .i64 (f : Int))) (some (.int .i64 (j : Int))) none).run Tryd.prog W = .ok (.slice B3 (j - f) c3) W) ∧ j - f ≤ c3 ∧ RdB w B3 (j - f) (midL b f j) := by
          have := cutMid HX.out hc (f : Int) (j : Int) (by omega) (by omega) (by omega)
          rw [Int.toNat_natCast, Int.toNat_natCast] at this
          exact ⟨_, _, this.1, by omega, this.2⟩
        have HR3 := Aside0.mk hr3
        clear hr3
        have hml : (midL b f j).length = j - f := midL_len (by omega)
        have HLL := Aside0.mk (litL_len _ (midL b f j) (Nat.le_refl _))
        have HML := Aside0.mk hml
        have e1 : ((d : Int) - 1).tmod 256 = ((d : Int) - 1) % 256 := Int.tmod_eq_emod_of_nonneg (by omega)
        have e2 : ((d : Int) - 1).tdiv 256 = ((d : Int) - 1) / 256 := Int.tdiv_eq_ediv_of_nonneg (by omega)
        have HE : Aside0 (packR b (j + n) (midL b (j + n) (j + n)) (out ++ litL (midL b f j) ++ [124 + (n : Int), ((d : Int) - 1) % 256, ((d : Int) - 1) / 256]) = packL b) := ⟨by
          rw [midL_self]
          have := HP.out.eq
          rw [packR_tok hlt (by rw [HR.out]) (by omega), HR.out] at this
          exact this⟩
        clear hml
        go_wp2_with (first
          | (go_at_call 63; (with_reducible refine at_cw wr ?_); refine (rmatch_calls A b.length c b (j : Int) wr (Kd.C_below HX.out HM.out.below) (by omega)).mono ?_; rw [HMI.out]; rintro e w6 ⟨rfl, hB⟩; have L6 : Aside0 (Later wr w6) := ⟨hB⟩; clear hB)
          | ((with_reducible refine at_alr 114 ?_); refine alloc_arm rfl rfl 114 rfl HZ.out ?_)
          | ((with_reducible refine at_st 114 (.tmp 6) (.tmp 13) ?_); refine store_blk rfl 114 (.tmp 6) (.tmp 13) rfl rfl rfl (blk_new w6 _) (by rw [hC.out]; rfl) (sizeMcs ((n : Int), (d : Int))) (mcs_one ((n : Int), (d : Int))) ?_; rintro w7 HS7; have hc0 : w7.cell? ⟨w6.heap.size, 0, none⟩ = some (.int .i64 (n : Int)) := (by rw [blk_cell HS7.at_]; rfl) ; have hc1 : w7.cell? ⟨w6.heap.size, 1, none⟩ = some (.int .i64 (d : Int)) := (by rw [blk_cell HS7.at_]; rfl) ; have L7 : Aside0 (Later wr w7) := ⟨Later.trans L6.out ((below_alloc (Below.refl _ w6) _).trans (HS7.below (Nat.le_refl _)))⟩)
          | (go_at_call 64; (with_reducible refine at_cw w7 ?_); refine (rliteral_calls B3 (j - f) c3 (midL b f j) w7 (Kd.C_below HR3.out (Later.trans HM.out.below L7.out)) (hb.mid f j) hjc (by omega)).mono ?_; rintro e w8 ⟨v8, rfl, hM8⟩; obtain ⟨B8, d8, rfl, hd8, hr8⟩ := hM8.own.reads; have HR8 := Aside0.mk hr8; have HB8 := Aside0.mk hM8.by_; have L8 : Aside0 (Later w7 w8) := ⟨hM8.below⟩; have hc08 := pw_cell_below hM8.below hc0; have hc18 := pw_cell_below hM8.below hc1; have LW : Aside0 (Later w w8) := ⟨Later.trans HM.out.below (Later.trans L7.out L8.out)⟩; have HO8 : Aside0 (OwB w8 w.heap.size (.slice B out.length d0) out) := ⟨HM.out.own.below (Later.trans L7.out L8.out)⟩; clear hM8 hr8)
          | ((with_reducible refine at_w w8 ?_); at_builtin; refine appBs (w0 := w) w.heap.size rfl (.tmp 19) (.tmp 24) rfl (.slice B out.length d0) out (litL (midL b f j)) B8 _ d8 rfl rfl HO8.out HR8.out LW.out (Later.size LW.out) (by have h1 := HLL.out; have h2 := HML.out; omega) ?_; intro v9 w9 hO9 hB9 hG9 hL9; have HO9 := Aside0.mk hO9; have HB9 := Aside0.mk hB9; have HNB := Ne.symm (OwB.lt HM.out.own w6.heap.size (Later.size L6.out)); have hc09 := grown_cell hG9 hc08 HNB; have hc19 := grown_cell hG9 hc18 HNB; have HN9 := Aside0.mk (grown_ne hL9 HNB (cell_lt' hc08)); clear hO9 hB9 hG9 hL9 HNB)
          | (at_builtin; refine appBs (w0 := w) w.heap.size rfl (.tmp 26) (.tmp 41) rfl v9 (out ++ litL (midL b f j)) [124 + (n : Int), ((d : Int) - 1) % 256, ((d : Int) - 1) / 256] (some ⟨w9.heap.size, 0, none⟩) 3 3 rfl rfl (HO9.out.below (below_alloc (Later.refl _) _)) (rd_lit w9 _ _ _ _ rfl rfl (by simp)) (below_alloc HB9.out _) (by have := HB9.out.size; simp; omega) (by have h1 := HLL.out; have h2 := HML.out; rw [List.length_append]; omega) ?_; intro v10 w10 hO10 hB10 hG10 _; have hc010 := grown_cell hG10 (pw_cell_below (below_alloc (Later.refl _) _) hc09) HN9.out))
        go_roundw
        case rel =>
          refine ⟨j + n, j + n, _, by go_num, by go_num, Nat.le_refl _, hjn, ?_, HE.out, hO10, ?_, hB10⟩
          · have h1 := HLL.out
            have h2 := HML.out
            simp only [List.length_append, List.length_cons, List.length_nil]
            omega
          · refine (HM.out.by_.append HB8.out).append ?_
            intro x hx
            simp only [List.mem_cons, List.not_mem_nil, or_false] at hx
            rcases hx with rfl | rfl | rfl <;> omega
        case measure => simp [intOf]; omega
    · have hltI : ¬ (j : Int) < (b.length : Int) := by omega
      obtain rfl : j = b.length := by omega
      obtain ⟨B3, c3, hcut, hjc, hr3⟩ : ∃ B3 c3, (∀ W : World, (Instr.slice 37 (.slice A b.length c) (some (.int .i64 (f : Int))) none none).run Tryd.prog W = .ok (.slice B3 (b.length - f) c3) W) ∧ b.length - f ≤ c3 ∧ RdB w B3 (b.length - f) (b.drop f) := by
        have := cutFrom HX.out hc (f : Int) (by omega) (by omega)
        rw [Int.toNat_natCast] at this
        exact ⟨_, _, this.1, by omega, this.2⟩
      have HR3 := Aside0.mk hr3
      clear hr3
      have hml : (b.drop f).length = b.length - f := List.length_drop
      have HLL := Aside0.mk (litL_len _ (b.drop f) (Nat.le_refl _))
      have HML := Aside0.mk hml
      have HE : Aside0 (out ++ litL (b.drop f) = packL b) := ⟨by
        have := HP.out.eq
        rw [packR_end (Nat.le_refl _)] at this
        rw [← this]
        unfold midL
        rw [List.take_length]⟩
      clear hml
      go_wp2_with (first
        | (go_at_call 64; (with_reducible refine at_cw wr ?_); refine (rliteral_calls B3 (b.length - f) c3 (b.drop f) wr (Kd.C_below HR3.out HM.out.below) (hb.drop f) hjc (by omega)).mono ?_; rintro e w8 ⟨v8, rfl, hM8⟩; obtain ⟨B8, d8, rfl, hd8, hr8⟩ := hM8.own.reads; have HR8 := Aside0.mk hr8; have HB8 := Aside0.mk hM8.by_; have L8 : Aside0 (Later wr w8) := ⟨hM8.below⟩; have LW : Aside0 (Later w w8) := ⟨Later.trans HM.out.below L8.out⟩; have HO8 : Aside0 (OwB w8 w.heap.size (.slice B out.length d0) out) := ⟨HM.out.own.below L8.out⟩; clear hM8 hr8)
        | ((with_reducible refine at_w w8 ?_); at_builtin; refine appBs (w0 := w) w.heap.size rfl (.tmp 48) (.tmp 52) rfl (.slice B out.length d0) out (litL (b.drop f)) B8 _ d8 rfl rfl HO8.out HR8.out LW.out (Later.size LW.out) (by have h1 := HLL.out; have h2 := HML.out; omega) ?_; intro v9 w9 hO9 hB9 hG9 hL9))
      (try simp only [Exit.inBlock, Exit.then])
      refine bodyPost_ret (results_tmp rfl _ _ _) rfl ?_
      rw [← HE.out]
      exact ⟨_, rfl, hO9, HM.out.by_.append HB8.out, hB9⟩
end Go.Proofs.YtnkkjmbpopodlaaDoor
