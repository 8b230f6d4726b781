/- Contract: lighterageref05.Match. Conditions: its own. -/
import Derived.Test.YtnkkjmbpopodlaaDoorG7
namespace Go.Proofs.YtnkkjmbpopodlaaDoor
open Go.RowKit Go.Shelf Go.Proofs.YtnkkjmbpopodlaaDoorW.PrintWords Go.Proofs.YtnkkjmbpopodlaaDoorW.PrintMore
set_option linter.unusedVariables false
set_option linter.unusedSimpArgs false
theorem zeroM : (Tryd.prog.info? 114).bind (fun i => i.zero.map (·.cells)) = some #[.int .i64 0, .int .i64 0] := by kernel_rfl
theorem sizeM : (Tryd.prog.info? 114).map (·.size) = some 2 := by kernel_rfl
def mcs (r : Int × Int) : List Value := [.int .i64 r.1, .int .i64 r.2]
theorem mcs_one (r : Int × Int) : ∀ v ∈ mcs r, v.oneCell' = true := fun v hv => by
  simp [mcs] at hv
  rcases hv with rfl | rfl <;> rfl
theorem builtM (n d : Int) : Tryd.prog.built 114 [(0, .int .i64 n), (1, .int .i64 d)] = some (mcs (n, d)).toArray := by kernel_rfl
section
variable {P : Program} {ops : Array Oper} {rest : List Oper} {o : Oper} {a : Act} {Q : Exit → Act → World → Prop} {w : World}
theorem at_alr {d : Option Tmp} {ty0 : TypeId} {ps : String} {af : Array Edge} (ty : TypeId) (h : wpList P ops Q ({ dst := d, op := .alloc ty, type := ty0, pos := ps, after := af, guard := none } :: rest) a w) : wpList P ops Q ({ dst := d, op := .alloc ty, type := ty0, pos := ps, after := af, guard := none } :: rest) a w := h
theorem alloc_arm (hgd : o.guard = none) {N : Tmp} (hd : o.dst = some N) (t : TypeId) (ho : o.op = .alloc t) {C : Array Value} (hC : (P.info? t).bind (fun i => i.zero.map (·.cells)) = some C)
    (h : wpList P ops Q rest (a.put (some N) (.pointer (some ⟨w.heap.size, 0, none⟩))) (w.alloc (.cells C t))) : wpList P ops Q (o :: rest) a w := by
  refine wpList_plain hgd fun K hK => ?_
  unfold Oper.wp
  obtain ⟨i, hi, hz⟩ := Option.bind_eq_some_iff.1 hC
  obtain ⟨z, hz2, rfl⟩ := Option.map_eq_some_iff.1 hz
  have hr : (execOp a.eval o).run P w = .ok (.value (.pointer (some ⟨w.heap.size, 0, none⟩))) (w.alloc (.cells z.cells t)) := by
    unfold execOp
    simp only [ho, Sem.run_bind, alloc_run hi hz2, Result.andThen_ok, Sem.run_pure]
  rw [hr]
  refine hK _ _ ?_
  rw [hd]
  exact h
end
/-- The world with the two variables of Match: the result's at p, the best's at p + 1. -/
structure RMI (w : World) (r : Int × Int) (W : World) : Prop where
  res : ∃ cs, cs.size = 2 ∧ W.heap[w.heap.size]? = some (.cells cs 114 (0, 0))
  best : W.heap[w.heap.size + 1]? = some (.cells (mcs r).toArray 114 (0, 0))
  below : Below w.heap.size w W
theorem RMI.later {w A B : World} {r : Int × Int} (h : RMI w r A) (k : Below A.heap.size A B) : RMI w r B := by
  obtain ⟨cs, h1, h2⟩ := h.res
  exact ⟨⟨cs, h1, Later.heap k h2⟩, Later.heap k h.best, h.below.trans (k.mono h.below.size)⟩
def rres (b : List Int) (i j : Nat) : Int × Int := (List.range j).foldl (rstep b i) (0, 0)
theorem rres_succ (b : List Int) (i j : Nat) : rres b i (j + 1) = rstep b i (rres b i j) j := by unfold rres; rw [List.range_succ, List.foldl_append]; rfl
theorem sizeMcs (r : Int × Int) : (Tryd.prog.info? 114).map (·.size) = some (mcs r).length := sizeM
theorem ldM {W : World} {p : Nat} {r : Int × Int} (h : W.heap[p]? = some (.cells (mcs r).toArray 114 (0, 0))) : (Instr.loadAt 114 (.pointer (some ⟨p, 0, none⟩))).run Tryd.prog W = .ok (.agg (mcs r).toArray) W :=
  ld_row h 114 _ Tryd.underlying114 rfl (by rw [List.size_toArray]; exact sizeMcs r)
set_option maxRecDepth 20000 in
set_option maxHeartbeats 1600000 in
theorem rmatch_calls (A : Option Addr) (N c : Nat) (b : List Int) (i : Int) (w : World) (h : RdB w A N b) (hN : N ≤ 1099511627776) :
    Calls Tryd.prog 63 #[.slice A N c, .int .i64 i] w fun e w' => e = .returned (.agg (mcs (lzMI b i)).toArray) ∧ Below w.heap.size w w' := by
  obtain rfl : b.length = N := h.1
  have HX := Aside0.mk h
  clear h
  obtain ⟨C, hC, hz⟩ : ∃ C, Aside0 (C = (mcs (0, 0)).toArray) ∧ (Tryd.prog.info? 114).bind (fun i => i.zero.map (·.cells)) = some C := ⟨_, ⟨rfl⟩, zeroM⟩
  have HZ := Aside0.mk hz
  clear hz
  have HI : Aside0 (RMI w (0, 0) ((w.alloc (.cells C 114)).alloc (.cells C 114))) := ⟨⟨⟨C, by rw [hC.out]; rfl, by rw [Below.heap_alloc _ _ _ (by simp)]; exact blk_new w _⟩, by rw [← hC.out]; have := blk_new (w.alloc (.cells C 114)) (.cells C 114); simpa using this, ((Below.refl _ w).alloc (Nat.le_refl _) _).alloc (by simp) _⟩⟩
  by_cases hin : 0 ≤ i ∧ i < b.length
  · obtain ⟨i, rfl⟩ := Int.eq_ofNat_of_zero_le hin.1
    have e0 : lzMI b (i : Int) = rres b i (min i 1024) := by unfold lzMI; rw [if_pos hin, Int.toNat_natCast]; rfl
    rw [e0]
    have hi0 : ¬ (i : Int) < 0 := by omega
    have hi1 : ¬ (b.length : Int) ≤ (i : Int) := by omega
    go_enter Tryd.func63, Tryd.ntmps63
    go_wp2_with (first
      | ((with_reducible refine at_alr 114 ?_); refine alloc_arm rfl rfl 114 rfl HZ.out ?_))
    have hI0 := HI.out
    generalize (w.alloc (.cells C 114)).alloc (.cells C 114) = w0 at *
    go_loopw [6, 7] (fun d _ wr => ∃ j : Nat, j ≤ min i 1024 ∧ d = .int .i64 ((j : Int) + 1) ∧ RMI w (rres b i j) wr) (fun d _ _ => 1026 - (intOf d).toNat)
    case atStart => exact ⟨0, by omega, rfl, hI0⟩
    case round =>
      obtain ⟨j, hj, rfl, hR⟩ := hrel
      have HR := Aside0.mk hR
      clear hR hI0 HI
      by_cases hlt : j < min i 1024
      · have hj1 : (j : Int) + 1 ≤ (i : Int) := by omega
        have hj2 : (j : Int) + 1 ≤ 1024 := by omega
        obtain ⟨k, hk⟩ : ∃ k, k = i - (j + 1) := ⟨_, rfl⟩
        have HK := Aside0.mk hk
        have hki : (k : Int) = (i : Int) - ((j : Int) + 1) := by omega
        have hj3 : j < 1024 := by omega
        have hj4 : j < i := by omega
        have hkl : k < i := by omega
        go_wp2
        obtain ⟨w1, rfl⟩ : ∃ w1, w1 = wr := ⟨_, rfl⟩
        go_loopw [7] (fun v wq => ∃ n : Nat, n ≤ 131 ∧ i + n ≤ b.length + 1 ∧ v = .int .i64 n ∧ runF b i k (131 - n) n = runL b i k ∧ Below w1.heap.size w1 wq) (fun v _ => 132 - (intOf v).toNat)
        case atStart => exact ⟨0, by omega, by omega, rfl, rfl, Below.refl _ _⟩
        case round =>
          obtain ⟨n, hn, hinn, rfl, hrun, hB⟩ := hrel
          have HB := Aside0.mk hB
          have HRU := Aside0.mk hrun
          clear hB hrun
          have hw1 : IntKind.i64.wrap ((i : Int) + (n : Int)) = (i : Int) + (n : Int) := by rw [IntKind.wrap_i64]; omega
          have hw2 : IntKind.i64.wrap ((i : Int) + (n : Int) - ((j : Int) + 1)) = (i : Int) + (n : Int) - ((j : Int) + 1) := by rw [IntKind.wrap_i64]; omega
          by_cases h2 : i + n < b.length
          · have h2I : (i : Int) + (n : Int) < (b.length : Int) := by omega
            by_cases h1 : n < 131
            · have h1I : (n : Int) < 131 := by omega
              have h3I : (i : Int) + (n : Int) - ((j : Int) + 1) < (b.length : Int) := by omega
              have h5I : (0 : Int) ≤ (i : Int) + (n : Int) := by omega
              have h4I : (0 : Int) ≤ (i : Int) + (n : Int) - ((j : Int) + 1) := by omega
              obtain ⟨ad, ea⟩ : ∃ ad, A = some ad := by obtain ⟨ad, e, _⟩ := Kd.at_int HX.out 0 (by omega) (by omega); exact ⟨ad, e⟩
              subst ea
              have hL : Below w.heap.size w wr := HR.out.below.trans (HB.out.mono HR.out.below.size)
              have hc1 := rdB_at (Kd.C_below HX.out hL) (i + n) h2
              have hc2 := rdB_at (Kd.C_below HX.out hL) (k + n) (by omega)
              have e1 : ((i : Int) + (n : Int)).toNat = i + n := by omega
              have e2 : ((i : Int) + (n : Int) - ((j : Int) + 1)).toNat = k + n := by omega
              clear hL hk hki hj hlt hin hinn
              by_cases h3 : rd b ((i + n : Nat) : Int) = rd b ((k + n : Nat) : Int)
              · have HG2 := Aside0.mk (runF_step (b := b) (i := i) (k := k) ⟨h1, h2, h3⟩)
                rw [h3] at hc1
                clear h3
                generalize rd b ((k + n : Nat) : Int) = x at *
                go_wp2_with fail
                go_quiet (fail)
                go_wp2
                go_roundw
                case rel => exact ⟨n + 1, by omega, by omega, by go_num, by rw [← HG2.out]; exact HRU.out, HB.out.trans ((drewN_below wr nq).mono HB.out.size)⟩
                case measure => simp [intOf]; omega
              · have HG := Aside0.mk (runF_end hn (fun (h : goesOn b i k n) => h3 h.2.2))
                generalize rd b ((k + n : Nat) : Int) = x at *
                generalize rd b ((i + n : Nat) : Int) = y at *
                go_wp2_with fail
                go_quiet (fail)
                have hrn : runL b i k = n := by rw [← HRU.out, HG.out]
                have L : Later w1 (wr.drewN nq) := HB.out.trans ((drewN_below wr nq).mono HB.out.size)
                have HR2 := Aside0.mk (HR.out.later L)
                have hcB : (wr.drewN nq).cell? ⟨w.heap.size + 1, 0, none⟩ = some (.int .i64 (rres b i j).1) := by rw [blk_cell HR2.out.best]; rfl
                have HST : Aside0 (rres b i (j + 1) = if 3 < n ∧ (rres b i j).1 < (n : Int) then ((n : Int), (j : Int) + 1) else rres b i j) := ⟨by
                  rw [rres_succ]; unfold rstep; rw [← HK.out, hrn]⟩
                clear L
                generalize wr.drewN nq = wz at *
                by_cases hg1 : 3 < n
                · have hg1I : (3 : Int) < (n : Int) := by omega
                  by_cases hg2 : (rres b i j).1 < (n : Int)
                  · have hst := HST.out
                    rw [if_pos ⟨hg1, hg2⟩] at hst
                    have HST2 := Aside0.mk hst
                    clear hst HST
                    have hbt := builtM (n : Int) ((j : Int) + 1)
                    go_wp2_with (first
                      | ((with_reducible refine at_bd 114 ?_); refine build_arm rfl 114 _ rfl hbt ?_; simp only [Act.put, List.setIfInBounds_toArray, List.set_cons_zero, List.set_cons_succ])
                      | ((with_reducible refine at_st 114 (.tmp 5) (.tmp 65) ?_); refine store_blk rfl 114 (.tmp 5) (.tmp 65) rfl rfl rfl HR2.out.best rfl (sizeMcs ((n : Int), (j : Int) + 1)) (mcs_one _) ?_; rintro w3 HS3))
                    go_roundw
                    case rel =>
                      obtain ⟨cs, k1, k2⟩ := HR2.out.res
                      exact ⟨j + 1, by omega, by go_num, ⟨cs, k1, (HS3.else_ _ (by omega)).trans k2⟩, by rw [HST2.out]; exact HS3.at_, HR2.out.below.trans (HS3.below (by omega))⟩
                    case measure => simp [intOf]; omega
                  · have hst := HST.out
                    rw [if_neg (fun h => hg2 h.2)] at hst
                    have HST2 := Aside0.mk hst
                    clear hst HST
                    go_wp2
                    go_roundw
                    case rel => exact ⟨j + 1, by omega, by go_num, by rw [HST2.out]; exact HR2.out⟩
                    case measure => simp [intOf]; omega
                · have hg1I : ¬ (3 : Int) < (n : Int) := by omega
                  have hst := HST.out
                  rw [if_neg (fun h => hg1 h.1)] at hst
                  have HST2 := Aside0.mk hst
                  clear hst HST
                  go_wp2
                  go_roundw
                  case rel => exact ⟨j + 1, by omega, by go_num, by rw [HST2.out]; exact HR2.out⟩
                  case measure => simp [intOf]; omega
            · have HG := Aside0.mk (runF_end hn (fun (h : goesOn b i k n) => h1 h.1))
              have h1I : decide ((n : Int) < 131) = false := decide_eq_false (by omega)
              go_wp2_with fail
              go_quiet (fail)
              have hrn : runL b i k = n := by rw [← HRU.out, HG.out]
              have L : Later w1 (wr.drewN nq) := HB.out.trans ((drewN_below wr nq).mono HB.out.size)
              have HR2 := Aside0.mk (HR.out.later L)
              have hcB : (wr.drewN nq).cell? ⟨w.heap.size + 1, 0, none⟩ = some (.int .i64 (rres b i j).1) := by rw [blk_cell HR2.out.best]; rfl
              have HST : Aside0 (rres b i (j + 1) = if 3 < n ∧ (rres b i j).1 < (n : Int) then ((n : Int), (j : Int) + 1) else rres b i j) := ⟨by
                rw [rres_succ]; unfold rstep; rw [← HK.out, hrn]⟩
              clear L
              generalize wr.drewN nq = wz at *
              by_cases hg1 : 3 < n
              · have hg1I : (3 : Int) < (n : Int) := by omega
                by_cases hg2 : (rres b i j).1 < (n : Int)
                · have hst := HST.out
                  rw [if_pos ⟨hg1, hg2⟩] at hst
                  have HST2 := Aside0.mk hst
                  clear hst HST
                  have hbt := builtM (n : Int) ((j : Int) + 1)
                  go_wp2_with (first
                    | ((with_reducible refine at_bd 114 ?_); refine build_arm rfl 114 _ rfl hbt ?_; simp only [Act.put, List.setIfInBounds_toArray, List.set_cons_zero, List.set_cons_succ])
                    | ((with_reducible refine at_st 114 (.tmp 5) (.tmp 65) ?_); refine store_blk rfl 114 (.tmp 5) (.tmp 65) rfl rfl rfl HR2.out.best rfl (sizeMcs ((n : Int), (j : Int) + 1)) (mcs_one _) ?_; rintro w3 HS3))
                  go_roundw
                  case rel =>
                    obtain ⟨cs, k1, k2⟩ := HR2.out.res
                    exact ⟨j + 1, by omega, by go_num, ⟨cs, k1, (HS3.else_ _ (by omega)).trans k2⟩, by rw [HST2.out]; exact HS3.at_, HR2.out.below.trans (HS3.below (by omega))⟩
                  case measure => simp [intOf]; omega
                · have hst := HST.out
                  rw [if_neg (fun h => hg2 h.2)] at hst
                  have HST2 := Aside0.mk hst
                  clear hst HST
                  go_wp2
                  go_roundw
                  case rel => exact ⟨j + 1, by omega, by go_num, by rw [HST2.out]; exact HR2.out⟩
                  case measure => simp [intOf]; omega
              · have hg1I : ¬ (3 : Int) < (n : Int) := by omega
                have hst := HST.out
                rw [if_neg (fun h => hg1 h.1)] at hst
                have HST2 := Aside0.mk hst
                clear hst HST
                go_wp2
                go_roundw
                case rel => exact ⟨j + 1, by omega, by go_num, by rw [HST2.out]; exact HR2.out⟩
                case measure => simp [intOf]; omega
          · have HG := Aside0.mk (runF_end hn (fun (h : goesOn b i k n) => h2 h.2.1))
            have h2I : decide ((i : Int) + (n : Int) < (b.length : Int)) = false := decide_eq_false (by omega)
            go_wp2_with fail
            go_quiet (fail)
            have hrn : runL b i k = n := by rw [← HRU.out, HG.out]
            have L : Later w1 (wr.drewN nq) := HB.out.trans ((drewN_below wr nq).mono HB.out.size)
            have HR2 := Aside0.mk (HR.out.later L)
            have hcB : (wr.drewN nq).cell? ⟨w.heap.size + 1, 0, none⟩ = some (.int .i64 (rres b i j).1) := by rw [blk_cell HR2.out.best]; rfl
            have HST : Aside0 (rres b i (j + 1) = if 3 < n ∧ (rres b i j).1 < (n : Int) then ((n : Int), (j : Int) + 1) else rres b i j) := ⟨by
              rw [rres_succ]; unfold rstep; rw [← HK.out, hrn]⟩
            clear L
            generalize wr.drewN nq = wz at *
            by_cases hg1 : 3 < n
            · have hg1I : (3 : Int) < (n : Int) := by omega
              by_cases hg2 : (rres b i j).1 < (n : Int)
              · have hst := HST.out
                rw [if_pos ⟨hg1, hg2⟩] at hst
                have HST2 := Aside0.mk hst
                clear hst HST
                have hbt := builtM (n : Int) ((j : Int) + 1)
                go_wp2_with (first
                  | ((with_reducible refine at_bd 114 ?_); refine build_arm rfl 114 _ rfl hbt ?_; simp only [Act.put, List.setIfInBounds_toArray, List.set_cons_zero, List.set_cons_succ])
                  | ((with_reducible refine at_st 114 (.tmp 5) (.tmp 65) ?_); refine store_blk rfl 114 (.tmp 5) (.tmp 65) rfl rfl rfl HR2.out.best rfl (sizeMcs ((n : Int), (j : Int) + 1)) (mcs_one _) ?_; rintro w3 HS3))
                go_roundw
                case rel =>
                  obtain ⟨cs, k1, k2⟩ := HR2.out.res
                  exact ⟨j + 1, by omega, by go_num, ⟨cs, k1, (HS3.else_ _ (by omega)).trans k2⟩, by rw [HST2.out]; exact HS3.at_, HR2.out.below.trans (HS3.below (by omega))⟩
                case measure => simp [intOf]; omega
              · have hst := HST.out
                rw [if_neg (fun h => hg2 h.2)] at hst
                have HST2 := Aside0.mk hst
                clear hst HST
                go_wp2
                go_roundw
                case rel => exact ⟨j + 1, by omega, by go_num, by rw [HST2.out]; exact HR2.out⟩
                case measure => simp [intOf]; omega
            · have hg1I : ¬ (3 : Int) < (n : Int) := by omega
              have hst := HST.out
              rw [if_neg (fun h => hg1 h.1)] at hst
              have HST2 := Aside0.mk hst
              clear hst HST
              go_wp2
              go_roundw
              case rel => exact ⟨j + 1, by omega, by go_num, by rw [HST2.out]; exact HR2.out⟩
              case measure => simp [intOf]; omega
      · obtain rfl : j = min i 1024 := by omega
        obtain ⟨cs, hcs, hres⟩ := HR.out.res
        have hcc : ¬ ((((min i 1024 : Nat) : Int) + 1 ≤ (i : Int)) ∧ (((min i 1024 : Nat) : Int) + 1 ≤ 1024)) := by omega
        by_cases hq1 : ((min i 1024 : Nat) : Int) + 1 ≤ (i : Int)
        · have hq2 : ¬ ((min i 1024 : Nat) : Int) + 1 ≤ 1024 := fun h => hcc ⟨hq1, h⟩
          go_wp2_with (first
            | ((with_reducible refine at_ld 114 (.tmp 5) ?_); refine load_arm rfl 114 (.tmp 5) rfl rfl (ldM HR.out.best) ?_; simp only [Act.put, List.setIfInBounds_toArray, List.set_cons_zero, List.set_cons_succ])
            | ((with_reducible refine at_st 114 (.tmp 4) (.tmp 66) ?_); refine store_blk rfl 114 (.tmp 4) (.tmp 66) rfl rfl rfl hres hcs (sizeMcs _) (mcs_one _) ?_; rintro w2 HS2))
          (try simp only [Exit.inBlock, Exit.then])
          refine bodyPost_ret (v := .agg (mcs _).toArray) (results_cell_row rfl _ _ w.heap.size _ _ _ _ rfl HS2.at_ Tryd.underlying114 rfl (by rw [List.size_toArray]; exact sizeMcs _)) rfl ⟨rfl, HR.out.below.trans (HS2.below (Nat.le_refl _))⟩
        · go_wp2_with (first
            | ((with_reducible refine at_ld 114 (.tmp 5) ?_); refine load_arm rfl 114 (.tmp 5) rfl rfl (ldM HR.out.best) ?_; simp only [Act.put, List.setIfInBounds_toArray, List.set_cons_zero, List.set_cons_succ])
            | ((with_reducible refine at_st 114 (.tmp 4) (.tmp 66) ?_); refine store_blk rfl 114 (.tmp 4) (.tmp 66) rfl rfl rfl hres hcs (sizeMcs _) (mcs_one _) ?_; rintro w2 HS2))
          (try simp only [Exit.inBlock, Exit.then])
          refine bodyPost_ret (v := .agg (mcs _).toArray) (results_cell_row rfl _ _ w.heap.size _ _ _ _ rfl HS2.at_ Tryd.underlying114 rfl (by rw [List.size_toArray]; exact sizeMcs _)) rfl ⟨rfl, HR.out.below.trans (HS2.below (Nat.le_refl _))⟩
  · have e0 : lzMI b i = (0, 0) := by unfold lzMI; rw [if_neg hin]
    rw [e0]
    obtain ⟨cs, hcs, hres⟩ := HI.out.res
    by_cases h0 : i < 0
    · go_enter Tryd.func63, Tryd.ntmps63
      go_wp2_with (first
        | ((with_reducible refine at_alr 114 ?_); refine alloc_arm rfl rfl 114 rfl HZ.out ?_)
        | ((with_reducible refine at_ld 114 (.tmp 5) ?_); refine load_arm rfl 114 (.tmp 5) rfl rfl (ldM HI.out.best) ?_; simp only [Act.put, List.setIfInBounds_toArray, List.set_cons_zero, List.set_cons_succ])
        | ((with_reducible refine at_st 114 (.tmp 4) (.tmp 16) ?_); refine store_blk rfl 114 (.tmp 4) (.tmp 16) rfl rfl rfl hres hcs (sizeMcs (0, 0)) (mcs_one (0, 0)) ?_; rintro w2 HS2))
      (try simp only [Exit.inBlock, Exit.then])
      refine bodyPost_ret (v := .agg (mcs (0, 0)).toArray) (results_cell_row rfl _ _ w.heap.size _ _ _ _ rfl HS2.at_ Tryd.underlying114 rfl (by rw [List.size_toArray]; exact sizeMcs _)) rfl ⟨rfl, HI.out.below.trans (HS2.below (Nat.le_refl _))⟩
    · have h1 : (b.length : Int) ≤ i := by omega
      go_enter Tryd.func63, Tryd.ntmps63
      go_wp2_with (first
        | ((with_reducible refine at_alr 114 ?_); refine alloc_arm rfl rfl 114 rfl HZ.out ?_)
        | ((with_reducible refine at_ld 114 (.tmp 5) ?_); refine load_arm rfl 114 (.tmp 5) rfl rfl (ldM HI.out.best) ?_; simp only [Act.put, List.setIfInBounds_toArray, List.set_cons_zero, List.set_cons_succ])
        | ((with_reducible refine at_st 114 (.tmp 4) (.tmp 16) ?_); refine store_blk rfl 114 (.tmp 4) (.tmp 16) rfl rfl rfl hres hcs (sizeMcs (0, 0)) (mcs_one (0, 0)) ?_; rintro w2 HS2))
      (try simp only [Exit.inBlock, Exit.then])
      refine bodyPost_ret (v := .agg (mcs (0, 0)).toArray) (results_cell_row rfl _ _ w.heap.size _ _ _ _ rfl HS2.at_ Tryd.underlying114 rfl (by rw [List.size_toArray]; exact sizeMcs _)) rfl ⟨rfl, HI.out.below.trans (HS2.below (Nat.le_refl _))⟩
end Go.Proofs.YtnkkjmbpopodlaaDoor
