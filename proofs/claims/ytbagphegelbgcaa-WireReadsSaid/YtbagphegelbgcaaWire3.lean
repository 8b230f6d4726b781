/- Contracts: lives; lighterageref18.Read, wire.Read, Same, Answer. Conditions: each contract's own. -/
import Derived.Test.YtbagphegelbgcaaWire2
namespace Go.Proofs.Ytbagphegelbgcaa
open Go.RowKit Go.Proofs.YtbagphegelbgcaaW.PrintWords Go.Proofs.YtbagphegelbgcaaW.PrintMore
set_option linter.unusedVariables false
set_option linter.unusedSimpArgs false
theorem Z32_len : Z32.length = 32 := rfl
theorem Z32_bytes : Bytes Z32 := by
  intro x hx
  have := (List.mem_replicate.1 hx).2
  omega

/-- lives: the document's example. -/
theorem lives_calls (w : World) : Calls Try.prog 17 #[] w fun e w' => e = .returned (.bool true) ∧ Below w.heap.size w w' := by
  go_enter Try.func17, Try.ntmps17
  go_wp2_with (first
    | ((with_reducible refine at_bd 36 ?_); refine build_arm rfl 36 _ rfl (built_w01 1 7) ?_; simp only [Act.put, List.setIfInBounds_toArray, List.set_cons_zero, List.set_cons_succ])
    | (go_at_call 13; refine (write_calls 1 7 Z32 none 0 0 [] _ _ rfl Z32_len Z32_bytes (Kd.C_nil _ _) Bytes.nil (by omega)).mono ?_; rw [show mayB 1 7 0 = true from rfl]; rintro e w1 ⟨v1, rfl, hO1, hB1⟩; obtain ⟨xs, hx, hO2⟩ : ∃ xs, xs.length = 41 ∧ OwB w1 w.heap.size v1 xs := ⟨_, rfl, hO1⟩; clear hO1; obtain ⟨A, c, hv1, hc, hr⟩ := OwB.reads hO2; subst hv1; rw [hx] at *))
  go_ret
  exact ⟨rfl, hB1⟩

/-- wire.Same -/
theorem same_calls (k s k' s' : Int) (nm nm' : List Int) (A B : Option Addr) (n c m d : Nat) (xs ys : List Int) (C D : Array Value) (w : World) (hC : C = (Mc k s nm (.slice A n c)).toArray) (hD : D = (Mc k' s' nm' (.slice B m d)).toArray) (hn : nm.length = 32) (hn' : nm'.length = 32)
    (hx : RdB w A n xs) (hy : RdB w B m ys) (hbx : Bytes xs) (hby : Bytes ys) :
    Calls Try.prog 18 #[.agg C, .agg D] w fun e w' => e = .returned (.bool (decide (k = k' ∧ s = s' ∧ nm = nm' ∧ xs = ys))) ∧ Below w.heap.size w w' := by
  have F1 : Aside0 (((w.alloc (.cells C 36)).alloc (.cells D 36)).heap[w.heap.size]? = some (.cells (Mc k s nm (.slice A n c)).toArray 36 (0, 0))) := ⟨by rw [← hC]; exact heap_alloc2_old w _ _⟩
  have F2 : Aside0 (((w.alloc (.cells C 36)).alloc (.cells D 36)).heap[w.heap.size + 1]? = some (.cells (Mc k' s' nm' (.slice B m d)).toArray 36 (0, 0))) := ⟨by rw [← hD]; exact heap_alloc2_new w _ _⟩
  have HB : Aside0 (Below w.heap.size w ((w.alloc (.cells C 36)).alloc (.cells D 36))) := ⟨((Below.refl _ _).alloc (Nat.le_refl _) _).alloc (by simp) _⟩
  have HX := Aside0.mk hx
  have HY := Aside0.mk hy
  have HN := Aside0.mk (And.intro hn hn')
  clear hC hD hx hy hn hn'
  have hgd : Try.prog.eqGuardType Try.prog.depth 23 = false := by kernel_rfl
  have HDE : Aside0 (∀ W, (binOp .eql 23 (.agg (Nm nm).toArray) (.agg (Nm nm').toArray)).run Try.prog W = .ok (.bool (decide (nm = nm'))) W) := ⟨fun W => d_eql HN.out.1 HN.out.2⟩
  go_enter Try.func18, Try.ntmps18
  by_cases hk : k = k'
  · have ek : (k == k') = true := by rw [hk]; exact beq_self_eq_true _
    by_cases hs : s = s'
    · have es : (s == s') = true := by rw [hs]; exact beq_self_eq_true _
      by_cases hm : nm = nm'
      · have em : decide (nm = nm') = true := decide_eq_true hm
        have E : Aside0 (decide (k = k' ∧ s = s' ∧ nm = nm' ∧ xs = ys) = decide (xs = ys)) := ⟨by simp [hk, hs, hm]⟩
        clear hk hs hm
        go_wp2_with (first
          | ((with_reducible refine at_ld 3 (.tmp 5) ?_); refine load_arm rfl 3 (.tmp 5) rfl rfl (ld_f0 F1.out HN.out.1) ?_; simp only [Act.put, List.setIfInBounds_toArray, List.set_cons_zero, List.set_cons_succ]) | ((with_reducible refine at_ld 3 (.tmp 7) ?_); refine load_arm rfl 3 (.tmp 7) rfl rfl (ld_f0 F2.out HN.out.2) ?_; simp only [Act.put, List.setIfInBounds_toArray, List.set_cons_zero, List.set_cons_succ])
          | ((with_reducible refine at_ldg 3 (.tmp 11) ?_); refine val_arm (by rfl) (load_run rfl rfl (ld_f1 F1.out HN.out.1)) ?_) | ((with_reducible refine at_ldg 3 (.tmp 13) ?_); refine val_arm (by rfl) (load_run rfl rfl (ld_f1 F2.out HN.out.2)) ?_)
          | ((with_reducible refine at_ldg 23 (.tmp 18) ?_); refine val_arm (by rfl) (load_run rfl rfl (ld_f2 F1.out HN.out.1)) ?_) | ((with_reducible refine at_ldg 23 (.tmp 20) ?_); refine val_arm (by rfl) (load_run rfl rfl (ld_f2 F2.out HN.out.2)) ?_)
          | ((with_reducible refine at_bing .eql 23 ?_); refine val_arm (v := (.bool (decide (nm = nm')))) (by rfl) (bin_run .eql 23 (.tmp 19) (.tmp 21) 23 rfl (p := (.agg (Nm nm).toArray)) (q := (.agg (Nm nm').toArray)) rfl rfl (run_eqGuard_agg _ .eql _ _ _ _ _ hgd) (HDE.out _)) ?_)
          | ((with_reducible refine at_ldg 27 (.tmp 25) ?_); refine val_arm (by rfl) (load_run rfl rfl (ld_f3b F1.out HN.out.1)) ?_) | ((with_reducible refine at_ldg 27 (.tmp 27) ?_); refine val_arm (by rfl) (load_run rfl rfl (ld_f3b F2.out HN.out.2)) ?_)
          | (go_at_call 28; refine (equal_calls A B n m c d xs ys _ (Kd.C_below HX.out HB.out) (Kd.C_below HY.out HB.out) hbx hby).mono ?_; rintro e w1 ⟨rfl, rfl⟩))
        go_ret
        exact ⟨by rw [E.out]; rfl, HB.out⟩
      · have em : decide (nm = nm') = false := decide_eq_false hm
        have E : Aside0 (decide (k = k' ∧ s = s' ∧ nm = nm' ∧ xs = ys) = false) := ⟨by simp [hm]⟩
        clear hk hs hm
        go_wp2_with (first
          | ((with_reducible refine at_ld 3 (.tmp 5) ?_); refine load_arm rfl 3 (.tmp 5) rfl rfl (ld_f0 F1.out HN.out.1) ?_; simp only [Act.put, List.setIfInBounds_toArray, List.set_cons_zero, List.set_cons_succ]) | ((with_reducible refine at_ld 3 (.tmp 7) ?_); refine load_arm rfl 3 (.tmp 7) rfl rfl (ld_f0 F2.out HN.out.2) ?_; simp only [Act.put, List.setIfInBounds_toArray, List.set_cons_zero, List.set_cons_succ])
          | ((with_reducible refine at_ldg 3 (.tmp 11) ?_); refine val_arm (by rfl) (load_run rfl rfl (ld_f1 F1.out HN.out.1)) ?_) | ((with_reducible refine at_ldg 3 (.tmp 13) ?_); refine val_arm (by rfl) (load_run rfl rfl (ld_f1 F2.out HN.out.2)) ?_)
          | ((with_reducible refine at_ldg 23 (.tmp 18) ?_); refine val_arm (by rfl) (load_run rfl rfl (ld_f2 F1.out HN.out.1)) ?_) | ((with_reducible refine at_ldg 23 (.tmp 20) ?_); refine val_arm (by rfl) (load_run rfl rfl (ld_f2 F2.out HN.out.2)) ?_)
          | ((with_reducible refine at_bing .eql 23 ?_); refine val_arm (v := (.bool (decide (nm = nm')))) (by rfl) (bin_run .eql 23 (.tmp 19) (.tmp 21) 23 rfl (p := (.agg (Nm nm).toArray)) (q := (.agg (Nm nm').toArray)) rfl rfl (run_eqGuard_agg _ .eql _ _ _ _ _ hgd) (HDE.out _)) ?_))
        go_ret
        exact ⟨by rw [E.out]; rfl, HB.out⟩
    · have es : (s == s') = false := by simpa using hs
      have E : Aside0 (decide (k = k' ∧ s = s' ∧ nm = nm' ∧ xs = ys) = false) := ⟨by simp [hs]⟩
      clear hk hs
      go_wp2_with (first
        | ((with_reducible refine at_ld 3 (.tmp 5) ?_); refine load_arm rfl 3 (.tmp 5) rfl rfl (ld_f0 F1.out HN.out.1) ?_; simp only [Act.put, List.setIfInBounds_toArray, List.set_cons_zero, List.set_cons_succ]) | ((with_reducible refine at_ld 3 (.tmp 7) ?_); refine load_arm rfl 3 (.tmp 7) rfl rfl (ld_f0 F2.out HN.out.2) ?_; simp only [Act.put, List.setIfInBounds_toArray, List.set_cons_zero, List.set_cons_succ])
        | ((with_reducible refine at_ldg 3 (.tmp 11) ?_); refine val_arm (by rfl) (load_run rfl rfl (ld_f1 F1.out HN.out.1)) ?_) | ((with_reducible refine at_ldg 3 (.tmp 13) ?_); refine val_arm (by rfl) (load_run rfl rfl (ld_f1 F2.out HN.out.2)) ?_))
      go_ret
      exact ⟨by rw [E.out]; rfl, HB.out⟩
  · have ek : (k == k') = false := by simpa using hk
    have E : Aside0 (decide (k = k' ∧ s = s' ∧ nm = nm' ∧ xs = ys) = false) := ⟨by simp [hk]⟩
    clear hk
    go_wp2_with (first
      | ((with_reducible refine at_ld 3 (.tmp 5) ?_); refine load_arm rfl 3 (.tmp 5) rfl rfl (ld_f0 F1.out HN.out.1) ?_; simp only [Act.put, List.setIfInBounds_toArray, List.set_cons_zero, List.set_cons_succ]) | ((with_reducible refine at_ld 3 (.tmp 7) ?_); refine load_arm rfl 3 (.tmp 7) rfl rfl (ld_f0 F2.out HN.out.2) ?_; simp only [Act.put, List.setIfInBounds_toArray, List.set_cons_zero, List.set_cons_succ]))
    go_ret
    exact ⟨by rw [E.out]; rfl, HB.out⟩
end Go.Proofs.Ytbagphegelbgcaa
