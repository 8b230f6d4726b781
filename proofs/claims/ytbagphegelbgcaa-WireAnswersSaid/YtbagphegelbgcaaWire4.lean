/- Contract of wire.Answer. Conditions: its own. -/
import Derived.Test.YtbagphegelbgcaaWire3
import Derived.Test.YtbagphegelbgcaaBag
namespace Go.Proofs.Ytbagphegelbgcaa
open Go.RowKit Go.Proofs.YtbagphegelbgcaaW.PrintWords Go.Proofs.YtbagphegelbgcaaW.PrintMore
set_option linter.unusedVariables false
set_option linter.unusedSimpArgs false

/-- What is said to an Ask: its kind, number, name, body, and the error. -/
def ansOk (k s : Int) (n : Nat) (has : Bool) (L : Nat) : Bool := decide (k = 1) && (mayB k s n && (if has then mayB 2 s L else mayB 3 s 0))
def AnsPost (k s : Int) (nm : List Int) (n : Nat) (has : Bool) (m : Nat) (body : List Int) (w : World) (e : Ending) (w' : World) : Prop :=
  ∃ (k2 s2 : Int) (nm2 : List Int) (A2 : Option Addr) (n2 c2 : Nat) (ys : List Int), nm2.length = 32 ∧ e = .returned (.tuple #[.agg (Mc k2 s2 nm2 (.slice A2 n2 c2)).toArray, .int .i64 (if ansOk k s n has m then 0 else 1)]) ∧ RdB w' A2 n2 ys ∧
    Aside0 ((k2, s2, nm2, ys) = if ansOk k s n has m then (if has then (2, s, nm, body) else (3, s, nm, [])) else (0, 0, Z32, [])) ∧ Below w.heap.size w w'
set_option maxHeartbeats 1600000 in
theorem answer_calls (k s : Int) (nm : List Int) (A B : Option Addr) (n c m d : Nat) (body : List Int) (has : Bool) (C : Array Value) (w : World) (hC : C = (Mc k s nm (.slice A n c)).toArray) (hn : nm.length = 32) (hm : n ≤ 140737488355328) (hb : RdB w B m body) (hm2 : m ≤ 140737488355328) :
    Calls Try.prog 20 #[.agg C, .slice B m d, .bool has] w fun e w' => AnsPost k s nm n has m body w e w' := by
  obtain ⟨itw, zw, hiw, hzw, hsw, hcw⟩ := w_info
  have Q0 : ∀ o, Bag w ((w.alloc (.cells C 36)).alloc (.cells o 36)) [(w.heap.size, .cells (Mc k s nm (.slice A n c)).toArray 36 (0, 0)), (w.heap.size + 1, .cells o 36 (0, 0))] := fun o => by
    have h := ((Bag.nil w).box C 36).box o 36
    rw [show (w.alloc (.cells C 36)).heap.size = w.heap.size + 1 by simp] at h
    rw [← hC]
    exact h
  have HQ0 := Aside0.mk Q0
  have HN := Aside0.mk hn
  have HB := Aside0.mk hb
  clear hC hn hb Q0 hiw hzw hsw hcw
  have HOK : Aside0 (ansOk k s n has m = (decide (k = 1) && (mayB k s n && (if has then mayB 2 s m else mayB 3 s 0)))) := ⟨rfl⟩
  cases has
  · by_cases hk : k = 1
    · rcases hm1 : mayB k s n with _ | _
      · have HM1 := Aside0.mk hm1
        have HE : Aside0 (ansOk k s n false m = false) := ⟨by rw [HOK.out]; simp [hm1]⟩
        clear hm1 HOK
        subst hk
        go_enter Try.func20, Try.ntmps20
        go_wp2_with (first
          | ((with_reducible refine at_ld 3 (.tmp 9) ?_); refine load_arm rfl 3 (.tmp 9) rfl rfl (ld_f1 ((HQ0.out _).at 0 rfl) HN.out) ?_; simp only [Act.put, List.setIfInBounds_toArray, List.set_cons_zero, List.set_cons_succ])
          | ((with_reducible refine at_ld 23 (.tmp 11) ?_); refine load_arm rfl 23 (.tmp 11) rfl rfl (ld_f2 ((HQ0.out _).at 0 rfl) HN.out) ?_; simp only [Act.put, List.setIfInBounds_toArray, List.set_cons_zero, List.set_cons_succ])
          | ((with_reducible refine at_bd 36 ?_); refine build_arm rfl 36 _ rfl (built_w3 3 s nm HN.out) ?_; simp only [Act.put, List.setIfInBounds_toArray, List.set_cons_zero, List.set_cons_succ])
          | ((with_reducible refine at_al 36 ?_); refine new_w rfl rfl rfl rfl (.tmp 13) rfl (of_decide_eq_true rfl) rfl HN.out rfl ?_; rintro w1 g1 N1; have Q1 := (HQ0.out _).new N1; clear N1)
          | ((with_reducible refine at_ld (w := w1) 3 (.tmp 19) ?_); have hq := Q1.at 0 rfl; refine load_arm rfl 3 (.tmp 19) rfl rfl (ld_f0 hq HN.out) ?_; clear hq; simp only [Act.put, List.setIfInBounds_toArray, List.set_cons_zero, List.set_cons_succ])
          | ((with_reducible refine at_ldg (w := w1) 36 (.tmp 3) ?_); have hq := Q1.at 0 rfl; refine val_arm (by rfl) (load_run rfl rfl (ld_w hq HN.out)) ?_; clear hq; simp only [Act.put, List.setIfInBounds_toArray, List.set_cons_zero, List.set_cons_succ])
          | (go_at_call 15; (with_reducible refine at_c w1 ?_); refine (wmay_calls 1 s nm A n c _ _ rfl HN.out hm).mono ?_; rw [HM1.out]; rintro e w5 ⟨rfl, hB5⟩; have Q5 := Q1.call hB5)
          | ((with_reducible refine at_bd 36 ?_); refine build_arm rfl 36 _ rfl built_wz ?_; simp only [Act.put, List.setIfInBounds_toArray, List.set_cons_zero, List.set_cons_succ])
          | ((with_reducible refine at_st 36 (.tmp 6) (.tmp 32) ?_); have hq := Q5.at 1 rfl; refine store_blk rfl 36 (.tmp 6) (.tmp 32) rfl rfl rfl hq (by rw [Mc_len Z32_len]; rfl) (size_w Z32_len) (Mc_one rfl) ?_; clear hq; rintro w7 HS))
        have Q7 := Q5.set 1 rfl HS
        (try simp only [Exit.inBlock, Exit.then])
        refine bodyPost_ret (v := .tuple #[.agg _, _]) (results_cell_tmp rfl _ _ (w.heap.size + 1) _ _ _ _ rfl HS.at_ Try.underlying36 rfl ?_) rfl (show AnsPost 1 s nm n false m body w _ _ from ⟨0, 0, Z32, none, 0, 0, [], Z32_len, by rw [HE.out]; rfl, Kd.C_nil _ _, ⟨by rw [HE.out]; rfl⟩, Q7.below⟩)
        · rw [size_w Z32_len, List.size_toArray]
      · have HM1 := Aside0.mk hm1
        rcases hm3 : mayB 3 s 0 with _ | _
        · have HM2 := Aside0.mk hm3
          have HE : Aside0 (ansOk k s n false m = false) := ⟨by rw [HOK.out, hm1, decide_eq_true hk]; simpa using hm3⟩
          clear hm1 hm3 HOK
          subst hk
          go_enter Try.func20, Try.ntmps20
          go_wp2_with (first
            | ((with_reducible refine at_ld 3 (.tmp 9) ?_); refine load_arm rfl 3 (.tmp 9) rfl rfl (ld_f1 ((HQ0.out _).at 0 rfl) HN.out) ?_; simp only [Act.put, List.setIfInBounds_toArray, List.set_cons_zero, List.set_cons_succ])
            | ((with_reducible refine at_ld 23 (.tmp 11) ?_); refine load_arm rfl 23 (.tmp 11) rfl rfl (ld_f2 ((HQ0.out _).at 0 rfl) HN.out) ?_; simp only [Act.put, List.setIfInBounds_toArray, List.set_cons_zero, List.set_cons_succ])
            | ((with_reducible refine at_bd 36 ?_); refine build_arm rfl 36 _ rfl (built_w3 3 s nm HN.out) ?_; simp only [Act.put, List.setIfInBounds_toArray, List.set_cons_zero, List.set_cons_succ])
            | ((with_reducible refine at_al 36 ?_); refine new_w rfl rfl rfl rfl (.tmp 13) rfl (of_decide_eq_true rfl) rfl HN.out rfl ?_; rintro w1 g1 N1; have Q1 := (HQ0.out _).new N1; clear N1)
            | ((with_reducible refine at_ld (w := w1) 3 (.tmp 19) ?_); have hq := Q1.at 0 rfl; refine load_arm rfl 3 (.tmp 19) rfl rfl (ld_f0 hq HN.out) ?_; clear hq; simp only [Act.put, List.setIfInBounds_toArray, List.set_cons_zero, List.set_cons_succ])
            | ((with_reducible refine at_ldg (w := w1) 36 (.tmp 3) ?_); have hq := Q1.at 0 rfl; refine val_arm (by rfl) (load_run rfl rfl (ld_w hq HN.out)) ?_; clear hq; simp only [Act.put, List.setIfInBounds_toArray, List.set_cons_zero, List.set_cons_succ])
            | (go_at_call 15; (with_reducible refine at_c w1 ?_); refine (wmay_calls 1 s nm A n c _ _ rfl HN.out hm).mono ?_; rw [HM1.out]; rintro e w5 ⟨rfl, hB5⟩; have Q5 := Q1.call hB5)
            | ((with_reducible refine at_ldg (w := w5) 36 (.tmp 8) ?_); have hq := Q5.at 2 rfl; refine val_arm (by rfl) (load_run rfl rfl (ld_w hq HN.out)) ?_; clear hq; simp only [Act.put, List.setIfInBounds_toArray, List.set_cons_zero, List.set_cons_succ])
            | (go_at_call 15; (with_reducible refine at_c w5 ?_); refine (wmay_calls 3 s nm none 0 0 _ _ rfl HN.out (by omega)).mono ?_; rw [HM2.out]; rintro e w6 ⟨rfl, hB6⟩; have Q6 := Q5.call hB6)
            | ((with_reducible refine at_bd 36 ?_); refine build_arm rfl 36 _ rfl built_wz ?_; simp only [Act.put, List.setIfInBounds_toArray, List.set_cons_zero, List.set_cons_succ])
            | ((with_reducible refine at_st 36 (.tmp 6) (.tmp 32) ?_); have hq := Q6.at 1 rfl; refine store_blk rfl 36 (.tmp 6) (.tmp 32) rfl rfl rfl hq (by rw [Mc_len Z32_len]; rfl) (size_w Z32_len) (Mc_one rfl) ?_; clear hq; rintro w7 HS))
          have Q7 := Q6.set 1 rfl HS
          (try simp only [Exit.inBlock, Exit.then])
          refine bodyPost_ret (v := .tuple #[.agg _, _]) (results_cell_tmp rfl _ _ (w.heap.size + 1) _ _ _ _ rfl HS.at_ Try.underlying36 rfl ?_) rfl (show AnsPost 1 s nm n false m body w _ _ from ⟨0, 0, Z32, none, 0, 0, [], Z32_len, by rw [HE.out]; rfl, Kd.C_nil _ _, ⟨by rw [HE.out]; rfl⟩, Q7.below⟩)
          · rw [size_w Z32_len, List.size_toArray]
        · have HM2 := Aside0.mk hm3
          have HE : Aside0 (ansOk k s n false m = true) := ⟨by rw [HOK.out, hm1, decide_eq_true hk]; simpa using hm3⟩
          clear hm1 hm3 HOK
          subst hk
          go_enter Try.func20, Try.ntmps20
          go_wp2_with (first
            | ((with_reducible refine at_ld 3 (.tmp 9) ?_); refine load_arm rfl 3 (.tmp 9) rfl rfl (ld_f1 ((HQ0.out _).at 0 rfl) HN.out) ?_; simp only [Act.put, List.setIfInBounds_toArray, List.set_cons_zero, List.set_cons_succ])
            | ((with_reducible refine at_ld 23 (.tmp 11) ?_); refine load_arm rfl 23 (.tmp 11) rfl rfl (ld_f2 ((HQ0.out _).at 0 rfl) HN.out) ?_; simp only [Act.put, List.setIfInBounds_toArray, List.set_cons_zero, List.set_cons_succ])
            | ((with_reducible refine at_bd 36 ?_); refine build_arm rfl 36 _ rfl (built_w3 3 s nm HN.out) ?_; simp only [Act.put, List.setIfInBounds_toArray, List.set_cons_zero, List.set_cons_succ])
            | ((with_reducible refine at_al 36 ?_); refine new_w rfl rfl rfl rfl (.tmp 13) rfl (of_decide_eq_true rfl) rfl HN.out rfl ?_; rintro w1 g1 N1; have Q1 := (HQ0.out _).new N1; clear N1)
            | ((with_reducible refine at_ld (w := w1) 3 (.tmp 19) ?_); have hq := Q1.at 0 rfl; refine load_arm rfl 3 (.tmp 19) rfl rfl (ld_f0 hq HN.out) ?_; clear hq; simp only [Act.put, List.setIfInBounds_toArray, List.set_cons_zero, List.set_cons_succ])
            | ((with_reducible refine at_ldg (w := w1) 36 (.tmp 3) ?_); have hq := Q1.at 0 rfl; refine val_arm (by rfl) (load_run rfl rfl (ld_w hq HN.out)) ?_; clear hq; simp only [Act.put, List.setIfInBounds_toArray, List.set_cons_zero, List.set_cons_succ])
            | (go_at_call 15; (with_reducible refine at_c w1 ?_); refine (wmay_calls 1 s nm A n c _ _ rfl HN.out hm).mono ?_; rw [HM1.out]; rintro e w5 ⟨rfl, hB5⟩; have Q5 := Q1.call hB5)
            | ((with_reducible refine at_ldg (w := w5) 36 (.tmp 8) ?_); have hq := Q5.at 2 rfl; refine val_arm (by rfl) (load_run rfl rfl (ld_w hq HN.out)) ?_; clear hq; simp only [Act.put, List.setIfInBounds_toArray, List.set_cons_zero, List.set_cons_succ])
            | (go_at_call 15; (with_reducible refine at_c w5 ?_); refine (wmay_calls 3 s nm none 0 0 _ _ rfl HN.out (by omega)).mono ?_; rw [HM2.out]; rintro e w6 ⟨rfl, hB6⟩; have Q6 := Q5.call hB6)
            | ((with_reducible refine at_ld (w := w6) 36 (.tmp 8) ?_); have hq := Q6.at 2 rfl; refine load_arm rfl 36 (.tmp 8) rfl rfl (ld_w hq HN.out) ?_; clear hq; simp only [Act.put, List.setIfInBounds_toArray, List.set_cons_zero, List.set_cons_succ])
            | ((with_reducible refine at_st 36 (.tmp 6) (.tmp 33) ?_); have hq := Q6.at 1 rfl; refine store_blk rfl 36 (.tmp 6) (.tmp 33) rfl rfl rfl hq (by rw [Mc_len HN.out]; rfl) (size_w HN.out) (Mc_one rfl) ?_; clear hq; rintro w7 HS))
          have Q7 := Q6.set 1 rfl HS
          (try simp only [Exit.inBlock, Exit.then])
          refine bodyPost_ret (v := .tuple #[.agg _, _]) (results_cell_tmp rfl _ _ (w.heap.size + 1) _ _ _ _ rfl HS.at_ Try.underlying36 rfl ?_) rfl (show AnsPost 1 s nm n false m body w _ _ from ⟨3, s, nm, none, 0, 0, [], HN.out, by rw [HE.out]; rfl, Kd.C_nil _ _, ⟨by rw [HE.out]; rfl⟩, Q7.below⟩)
          · rw [size_w HN.out, List.size_toArray]
    · have ek : (k == 1) = false := by simpa using hk
      have HE : Aside0 (ansOk k s n false m = false) := ⟨by rw [HOK.out, decide_eq_false hk]; rfl⟩
      clear ek HOK
      go_enter Try.func20, Try.ntmps20
      go_wp2_with (first
        | ((with_reducible refine at_ld 3 (.tmp 9) ?_); refine load_arm rfl 3 (.tmp 9) rfl rfl (ld_f1 ((HQ0.out _).at 0 rfl) HN.out) ?_; simp only [Act.put, List.setIfInBounds_toArray, List.set_cons_zero, List.set_cons_succ])
        | ((with_reducible refine at_ld 23 (.tmp 11) ?_); refine load_arm rfl 23 (.tmp 11) rfl rfl (ld_f2 ((HQ0.out _).at 0 rfl) HN.out) ?_; simp only [Act.put, List.setIfInBounds_toArray, List.set_cons_zero, List.set_cons_succ])
        | ((with_reducible refine at_bd 36 ?_); refine build_arm rfl 36 _ rfl (built_w3 3 s nm HN.out) ?_; simp only [Act.put, List.setIfInBounds_toArray, List.set_cons_zero, List.set_cons_succ])
        | ((with_reducible refine at_al 36 ?_); refine new_w rfl rfl rfl rfl (.tmp 13) rfl (of_decide_eq_true rfl) rfl HN.out rfl ?_; rintro w1 g1 N1; have Q1 := (HQ0.out _).new N1; clear N1)
        | ((with_reducible refine at_ld (w := w1) 3 (.tmp 19) ?_); have hq := Q1.at 0 rfl; refine load_arm rfl 3 (.tmp 19) rfl rfl (ld_f0 hq HN.out) ?_; clear hq; simp only [Act.put, List.setIfInBounds_toArray, List.set_cons_zero, List.set_cons_succ])
        | ((with_reducible refine at_bd 36 ?_); refine build_arm rfl 36 _ rfl built_wz ?_; simp only [Act.put, List.setIfInBounds_toArray, List.set_cons_zero, List.set_cons_succ])
        | ((with_reducible refine at_st 36 (.tmp 6) (.tmp 32) ?_); have hq := Q1.at 1 rfl; refine store_blk rfl 36 (.tmp 6) (.tmp 32) rfl rfl rfl hq (by rw [Mc_len Z32_len]; rfl) (size_w Z32_len) (Mc_one rfl) ?_; clear hq; rintro w7 HS))
      have Q7 := Q1.set 1 rfl HS
      (try simp only [Exit.inBlock, Exit.then])
      refine bodyPost_ret (v := .tuple #[.agg _, _]) (results_cell_tmp rfl _ _ (w.heap.size + 1) _ _ _ _ rfl HS.at_ Try.underlying36 rfl ?_) rfl (show AnsPost k s nm n false m body w _ _ from ⟨0, 0, Z32, none, 0, 0, [], Z32_len, by rw [HE.out]; rfl, Kd.C_nil _ _, ⟨by rw [HE.out]; rfl⟩, Q7.below⟩)
      · rw [size_w Z32_len, List.size_toArray]
  · by_cases hk : k = 1
    · rcases hm1 : mayB k s n with _ | _
      · have HM1 := Aside0.mk hm1
        have HE : Aside0 (ansOk k s n true m = false) := ⟨by rw [HOK.out]; simp [hm1]⟩
        clear hm1 HOK
        subst hk
        go_enter Try.func20, Try.ntmps20
        go_wp2_with (first
          | ((with_reducible refine at_ld 3 (.tmp 9) ?_); refine load_arm rfl 3 (.tmp 9) rfl rfl (ld_f1 ((HQ0.out _).at 0 rfl) HN.out) ?_; simp only [Act.put, List.setIfInBounds_toArray, List.set_cons_zero, List.set_cons_succ])
          | ((with_reducible refine at_ld 23 (.tmp 11) ?_); refine load_arm rfl 23 (.tmp 11) rfl rfl (ld_f2 ((HQ0.out _).at 0 rfl) HN.out) ?_; simp only [Act.put, List.setIfInBounds_toArray, List.set_cons_zero, List.set_cons_succ])
          | ((with_reducible refine at_bd 36 ?_); refine build_arm rfl 36 _ rfl (built_w3 3 s nm HN.out) ?_; simp only [Act.put, List.setIfInBounds_toArray, List.set_cons_zero, List.set_cons_succ])
          | ((with_reducible refine at_al 36 ?_); refine new_w rfl rfl rfl rfl (.tmp 13) rfl (of_decide_eq_true rfl) rfl HN.out rfl ?_; rintro w1 g1 N1; have Q1 := (HQ0.out _).new N1; clear N1)
          | (go_at_call 29; refine (clone_calls B m d body _ (Kd.C_below HB.out Q1.below) hm2).mono ?_; rintro e w2 ⟨v2, rfl, hO2, hB2⟩; have Q2 := Q1.call hB2; obtain ⟨A2, c2, hv2, hc2, hr2⟩ := OwB.reads hO2; have hm0 := HB.out.1; rw [hm0] at hv2; clear hc2 hr2 hm0; subst hv2)
          | ((with_reducible refine at_st 3 (.tmp 17) (.const (.int .i64 2)) ?_); refine store_f0 rfl (.tmp 17) (.const (.int .i64 2)) rfl rfl rfl (Q2.at 2 rfl) HN.out ?_; rintro w3 S1; have Q3 := Q2.set 2 rfl S1)
          | ((with_reducible refine at_st 27 (.tmp 18) (.tmp 16) ?_); refine store_f3b rfl (.tmp 18) (.tmp 16) rfl rfl rfl (Q3.at 2 rfl) HN.out ?_; rintro w4 S2; have Q4 := Q3.set 2 rfl S2)
          | ((with_reducible refine at_ld (w := w4) 3 (.tmp 19) ?_); have hq := Q4.at 0 rfl; refine load_arm rfl 3 (.tmp 19) rfl rfl (ld_f0 hq HN.out) ?_; clear hq; simp only [Act.put, List.setIfInBounds_toArray, List.set_cons_zero, List.set_cons_succ])
          | ((with_reducible refine at_ldg (w := w4) 36 (.tmp 3) ?_); have hq := Q4.at 0 rfl; refine val_arm (by rfl) (load_run rfl rfl (ld_w hq HN.out)) ?_; clear hq; simp only [Act.put, List.setIfInBounds_toArray, List.set_cons_zero, List.set_cons_succ])
          | (go_at_call 15; (with_reducible refine at_c w4 ?_); refine (wmay_calls 1 s nm A n c _ _ rfl HN.out hm).mono ?_; rw [HM1.out]; rintro e w5 ⟨rfl, hB5⟩; have Q5 := Q4.call hB5)
          | ((with_reducible refine at_bd 36 ?_); refine build_arm rfl 36 _ rfl built_wz ?_; simp only [Act.put, List.setIfInBounds_toArray, List.set_cons_zero, List.set_cons_succ])
          | ((with_reducible refine at_st 36 (.tmp 6) (.tmp 32) ?_); have hq := Q5.at 1 rfl; refine store_blk rfl 36 (.tmp 6) (.tmp 32) rfl rfl rfl hq (by rw [Mc_len Z32_len]; rfl) (size_w Z32_len) (Mc_one rfl) ?_; clear hq; rintro w7 HS))
        have Q7 := Q5.set 1 rfl HS
        (try simp only [Exit.inBlock, Exit.then])
        refine bodyPost_ret (v := .tuple #[.agg _, _]) (results_cell_tmp rfl _ _ (w.heap.size + 1) _ _ _ _ rfl HS.at_ Try.underlying36 rfl ?_) rfl (show AnsPost 1 s nm n true m body w _ _ from ⟨0, 0, Z32, none, 0, 0, [], Z32_len, by rw [HE.out]; rfl, Kd.C_nil _ _, ⟨by rw [HE.out]; rfl⟩, Q7.below⟩)
        · rw [size_w Z32_len, List.size_toArray]
      · have HM1 := Aside0.mk hm1
        rcases hm3 : mayB 2 s m with _ | _
        · have HM2 := Aside0.mk hm3
          have HE : Aside0 (ansOk k s n true m = false) := ⟨by rw [HOK.out, hm1, decide_eq_true hk]; simpa using hm3⟩
          clear hm1 hm3 HOK
          subst hk
          go_enter Try.func20, Try.ntmps20
          go_wp2_with (first
            | ((with_reducible refine at_ld 3 (.tmp 9) ?_); refine load_arm rfl 3 (.tmp 9) rfl rfl (ld_f1 ((HQ0.out _).at 0 rfl) HN.out) ?_; simp only [Act.put, List.setIfInBounds_toArray, List.set_cons_zero, List.set_cons_succ])
            | ((with_reducible refine at_ld 23 (.tmp 11) ?_); refine load_arm rfl 23 (.tmp 11) rfl rfl (ld_f2 ((HQ0.out _).at 0 rfl) HN.out) ?_; simp only [Act.put, List.setIfInBounds_toArray, List.set_cons_zero, List.set_cons_succ])
            | ((with_reducible refine at_bd 36 ?_); refine build_arm rfl 36 _ rfl (built_w3 3 s nm HN.out) ?_; simp only [Act.put, List.setIfInBounds_toArray, List.set_cons_zero, List.set_cons_succ])
            | ((with_reducible refine at_al 36 ?_); refine new_w rfl rfl rfl rfl (.tmp 13) rfl (of_decide_eq_true rfl) rfl HN.out rfl ?_; rintro w1 g1 N1; have Q1 := (HQ0.out _).new N1; clear N1)
            | (go_at_call 29; refine (clone_calls B m d body _ (Kd.C_below HB.out Q1.below) hm2).mono ?_; rintro e w2 ⟨v2, rfl, hO2, hB2⟩; have Q2 := Q1.call hB2; obtain ⟨A2, c2, hv2, hc2, hr2⟩ := OwB.reads hO2; have hm0 := HB.out.1; rw [hm0] at hv2; clear hc2 hr2 hm0; subst hv2)
            | ((with_reducible refine at_st 3 (.tmp 17) (.const (.int .i64 2)) ?_); refine store_f0 rfl (.tmp 17) (.const (.int .i64 2)) rfl rfl rfl (Q2.at 2 rfl) HN.out ?_; rintro w3 S1; have Q3 := Q2.set 2 rfl S1)
            | ((with_reducible refine at_st 27 (.tmp 18) (.tmp 16) ?_); refine store_f3b rfl (.tmp 18) (.tmp 16) rfl rfl rfl (Q3.at 2 rfl) HN.out ?_; rintro w4 S2; have Q4 := Q3.set 2 rfl S2)
            | ((with_reducible refine at_ld (w := w4) 3 (.tmp 19) ?_); have hq := Q4.at 0 rfl; refine load_arm rfl 3 (.tmp 19) rfl rfl (ld_f0 hq HN.out) ?_; clear hq; simp only [Act.put, List.setIfInBounds_toArray, List.set_cons_zero, List.set_cons_succ])
            | ((with_reducible refine at_ldg (w := w4) 36 (.tmp 3) ?_); have hq := Q4.at 0 rfl; refine val_arm (by rfl) (load_run rfl rfl (ld_w hq HN.out)) ?_; clear hq; simp only [Act.put, List.setIfInBounds_toArray, List.set_cons_zero, List.set_cons_succ])
            | (go_at_call 15; (with_reducible refine at_c w4 ?_); refine (wmay_calls 1 s nm A n c _ _ rfl HN.out hm).mono ?_; rw [HM1.out]; rintro e w5 ⟨rfl, hB5⟩; have Q5 := Q4.call hB5)
            | ((with_reducible refine at_ldg (w := w5) 36 (.tmp 8) ?_); have hq := Q5.at 2 rfl; refine val_arm (by rfl) (load_run rfl rfl (ld_w hq HN.out)) ?_; clear hq; simp only [Act.put, List.setIfInBounds_toArray, List.set_cons_zero, List.set_cons_succ])
            | (go_at_call 15; (with_reducible refine at_c w5 ?_); refine (wmay_calls 2 s nm A2 m c2 _ _ rfl HN.out hm2).mono ?_; rw [HM2.out]; rintro e w6 ⟨rfl, hB6⟩; have Q6 := Q5.call hB6)
            | ((with_reducible refine at_bd 36 ?_); refine build_arm rfl 36 _ rfl built_wz ?_; simp only [Act.put, List.setIfInBounds_toArray, List.set_cons_zero, List.set_cons_succ])
            | ((with_reducible refine at_st 36 (.tmp 6) (.tmp 32) ?_); have hq := Q6.at 1 rfl; refine store_blk rfl 36 (.tmp 6) (.tmp 32) rfl rfl rfl hq (by rw [Mc_len Z32_len]; rfl) (size_w Z32_len) (Mc_one rfl) ?_; clear hq; rintro w7 HS))
          have Q7 := Q6.set 1 rfl HS
          (try simp only [Exit.inBlock, Exit.then])
          refine bodyPost_ret (v := .tuple #[.agg _, _]) (results_cell_tmp rfl _ _ (w.heap.size + 1) _ _ _ _ rfl HS.at_ Try.underlying36 rfl ?_) rfl (show AnsPost 1 s nm n true m body w _ _ from ⟨0, 0, Z32, none, 0, 0, [], Z32_len, by rw [HE.out]; rfl, Kd.C_nil _ _, ⟨by rw [HE.out]; rfl⟩, Q7.below⟩)
          · rw [size_w Z32_len, List.size_toArray]
        · have HM2 := Aside0.mk hm3
          have HE : Aside0 (ansOk k s n true m = true) := ⟨by rw [HOK.out, hm1, decide_eq_true hk]; simpa using hm3⟩
          clear hm1 hm3 HOK
          subst hk
          go_enter Try.func20, Try.ntmps20
          go_wp2_with (first
            | ((with_reducible refine at_ld 3 (.tmp 9) ?_); refine load_arm rfl 3 (.tmp 9) rfl rfl (ld_f1 ((HQ0.out _).at 0 rfl) HN.out) ?_; simp only [Act.put, List.setIfInBounds_toArray, List.set_cons_zero, List.set_cons_succ])
            | ((with_reducible refine at_ld 23 (.tmp 11) ?_); refine load_arm rfl 23 (.tmp 11) rfl rfl (ld_f2 ((HQ0.out _).at 0 rfl) HN.out) ?_; simp only [Act.put, List.setIfInBounds_toArray, List.set_cons_zero, List.set_cons_succ])
            | ((with_reducible refine at_bd 36 ?_); refine build_arm rfl 36 _ rfl (built_w3 3 s nm HN.out) ?_; simp only [Act.put, List.setIfInBounds_toArray, List.set_cons_zero, List.set_cons_succ])
            | ((with_reducible refine at_al 36 ?_); refine new_w rfl rfl rfl rfl (.tmp 13) rfl (of_decide_eq_true rfl) rfl HN.out rfl ?_; rintro w1 g1 N1; have Q1 := (HQ0.out _).new N1; clear N1)
            | (go_at_call 29; refine (clone_calls B m d body _ (Kd.C_below HB.out Q1.below) hm2).mono ?_; rintro e w2 ⟨v2, rfl, hO2, hB2⟩; have Q2 := Q1.call hB2; obtain ⟨A2, c2, hv2, hc2, hr2⟩ := OwB.reads hO2; have hm0 := HB.out.1; rw [hm0] at hv2; clear hc2 hr2 hm0; subst hv2)
            | ((with_reducible refine at_st 3 (.tmp 17) (.const (.int .i64 2)) ?_); refine store_f0 rfl (.tmp 17) (.const (.int .i64 2)) rfl rfl rfl (Q2.at 2 rfl) HN.out ?_; rintro w3 S1; have Q3 := Q2.set 2 rfl S1)
            | ((with_reducible refine at_st 27 (.tmp 18) (.tmp 16) ?_); refine store_f3b rfl (.tmp 18) (.tmp 16) rfl rfl rfl (Q3.at 2 rfl) HN.out ?_; rintro w4 S2; have Q4 := Q3.set 2 rfl S2)
            | ((with_reducible refine at_ld (w := w4) 3 (.tmp 19) ?_); have hq := Q4.at 0 rfl; refine load_arm rfl 3 (.tmp 19) rfl rfl (ld_f0 hq HN.out) ?_; clear hq; simp only [Act.put, List.setIfInBounds_toArray, List.set_cons_zero, List.set_cons_succ])
            | ((with_reducible refine at_ldg (w := w4) 36 (.tmp 3) ?_); have hq := Q4.at 0 rfl; refine val_arm (by rfl) (load_run rfl rfl (ld_w hq HN.out)) ?_; clear hq; simp only [Act.put, List.setIfInBounds_toArray, List.set_cons_zero, List.set_cons_succ])
            | (go_at_call 15; (with_reducible refine at_c w4 ?_); refine (wmay_calls 1 s nm A n c _ _ rfl HN.out hm).mono ?_; rw [HM1.out]; rintro e w5 ⟨rfl, hB5⟩; have Q5 := Q4.call hB5)
            | ((with_reducible refine at_ldg (w := w5) 36 (.tmp 8) ?_); have hq := Q5.at 2 rfl; refine val_arm (by rfl) (load_run rfl rfl (ld_w hq HN.out)) ?_; clear hq; simp only [Act.put, List.setIfInBounds_toArray, List.set_cons_zero, List.set_cons_succ])
            | (go_at_call 15; (with_reducible refine at_c w5 ?_); refine (wmay_calls 2 s nm A2 m c2 _ _ rfl HN.out hm2).mono ?_; rw [HM2.out]; rintro e w6 ⟨rfl, hB6⟩; have Q6 := Q5.call hB6)
            | ((with_reducible refine at_ld (w := w6) 36 (.tmp 8) ?_); have hq := Q6.at 2 rfl; refine load_arm rfl 36 (.tmp 8) rfl rfl (ld_w hq HN.out) ?_; clear hq; simp only [Act.put, List.setIfInBounds_toArray, List.set_cons_zero, List.set_cons_succ])
            | ((with_reducible refine at_st 36 (.tmp 6) (.tmp 33) ?_); have hq := Q6.at 1 rfl; refine store_blk rfl 36 (.tmp 6) (.tmp 33) rfl rfl rfl hq (by rw [Mc_len HN.out]; rfl) (size_w HN.out) (Mc_one rfl) ?_; clear hq; rintro w7 HS))
          have Q7 := Q6.set 1 rfl HS
          (try simp only [Exit.inBlock, Exit.then])
          refine bodyPost_ret (v := .tuple #[.agg _, _]) (results_cell_tmp rfl _ _ (w.heap.size + 1) _ _ _ _ rfl HS.at_ Try.underlying36 rfl ?_) rfl (show AnsPost 1 s nm n true m body w _ _ from ⟨2, s, nm, A2, m, c2, body, HN.out, by rw [HE.out]; rfl, ?_, ⟨by rw [HE.out]; rfl⟩, Q7.below⟩)
          · rw [size_w HN.out, List.size_toArray]
          · refine rd_far hO2 fun k hk1 hk2 => ?_
            have l1 := blk_lt (Q1.at 2 rfl)
            have l2 := blk_lt (Q1.at 1 rfl)
            have z1 := S1.size
            have z2 := S2.size
            have z5 := hB5.size
            rw [HS.else_ k (by omega), hB6.block k (by omega), hB5.block k (by omega), S2.else_ k (by omega), S1.else_ k (by omega)]
    · have ek : (k == 1) = false := by simpa using hk
      have HE : Aside0 (ansOk k s n true m = false) := ⟨by rw [HOK.out, decide_eq_false hk]; rfl⟩
      clear ek HOK
      go_enter Try.func20, Try.ntmps20
      go_wp2_with (first
        | ((with_reducible refine at_ld 3 (.tmp 9) ?_); refine load_arm rfl 3 (.tmp 9) rfl rfl (ld_f1 ((HQ0.out _).at 0 rfl) HN.out) ?_; simp only [Act.put, List.setIfInBounds_toArray, List.set_cons_zero, List.set_cons_succ])
        | ((with_reducible refine at_ld 23 (.tmp 11) ?_); refine load_arm rfl 23 (.tmp 11) rfl rfl (ld_f2 ((HQ0.out _).at 0 rfl) HN.out) ?_; simp only [Act.put, List.setIfInBounds_toArray, List.set_cons_zero, List.set_cons_succ])
        | ((with_reducible refine at_bd 36 ?_); refine build_arm rfl 36 _ rfl (built_w3 3 s nm HN.out) ?_; simp only [Act.put, List.setIfInBounds_toArray, List.set_cons_zero, List.set_cons_succ])
        | ((with_reducible refine at_al 36 ?_); refine new_w rfl rfl rfl rfl (.tmp 13) rfl (of_decide_eq_true rfl) rfl HN.out rfl ?_; rintro w1 g1 N1; have Q1 := (HQ0.out _).new N1; clear N1)
        | (go_at_call 29; refine (clone_calls B m d body _ (Kd.C_below HB.out Q1.below) hm2).mono ?_; rintro e w2 ⟨v2, rfl, hO2, hB2⟩; have Q2 := Q1.call hB2; obtain ⟨A2, c2, hv2, hc2, hr2⟩ := OwB.reads hO2; have hm0 := HB.out.1; rw [hm0] at hv2; clear hc2 hr2 hm0; subst hv2)
        | ((with_reducible refine at_st 3 (.tmp 17) (.const (.int .i64 2)) ?_); refine store_f0 rfl (.tmp 17) (.const (.int .i64 2)) rfl rfl rfl (Q2.at 2 rfl) HN.out ?_; rintro w3 S1; have Q3 := Q2.set 2 rfl S1)
        | ((with_reducible refine at_st 27 (.tmp 18) (.tmp 16) ?_); refine store_f3b rfl (.tmp 18) (.tmp 16) rfl rfl rfl (Q3.at 2 rfl) HN.out ?_; rintro w4 S2; have Q4 := Q3.set 2 rfl S2)
        | ((with_reducible refine at_ld (w := w4) 3 (.tmp 19) ?_); have hq := Q4.at 0 rfl; refine load_arm rfl 3 (.tmp 19) rfl rfl (ld_f0 hq HN.out) ?_; clear hq; simp only [Act.put, List.setIfInBounds_toArray, List.set_cons_zero, List.set_cons_succ])
        | ((with_reducible refine at_bd 36 ?_); refine build_arm rfl 36 _ rfl built_wz ?_; simp only [Act.put, List.setIfInBounds_toArray, List.set_cons_zero, List.set_cons_succ])
        | ((with_reducible refine at_st 36 (.tmp 6) (.tmp 32) ?_); have hq := Q4.at 1 rfl; refine store_blk rfl 36 (.tmp 6) (.tmp 32) rfl rfl rfl hq (by rw [Mc_len Z32_len]; rfl) (size_w Z32_len) (Mc_one rfl) ?_; clear hq; rintro w7 HS))
      have Q7 := Q4.set 1 rfl HS
      (try simp only [Exit.inBlock, Exit.then])
      refine bodyPost_ret (v := .tuple #[.agg _, _]) (results_cell_tmp rfl _ _ (w.heap.size + 1) _ _ _ _ rfl HS.at_ Try.underlying36 rfl ?_) rfl (show AnsPost k s nm n true m body w _ _ from ⟨0, 0, Z32, none, 0, 0, [], Z32_len, by rw [HE.out]; rfl, Kd.C_nil _ _, ⟨by rw [HE.out]; rfl⟩, Q7.below⟩)
      · rw [size_w Z32_len, List.size_toArray]
end Go.Proofs.Ytbagphegelbgcaa
