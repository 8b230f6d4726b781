/- client.Client's Left, Asked, Asks, Done, Errno; who is due. Conditions: their own. -/
import Derived.Test.YtnkkjmbpopodlaaCl2
namespace Go.Proofs.Ytnkkjmbpopodlaa
open Go.RowKit Go.Proofs.YtnkkjmbpopodlaaW.PrintWords Go.Proofs.YtnkkjmbpopodlaaW.PrintMore
set_option linter.unusedVariables false
set_option linter.unusedSimpArgs false
theorem leftL_take {L : List Wt} {k : Nat} (h : k < L.length) : leftL (L.take (k + 1)) = leftL (L.take k) ++ (if (wd L k).st == 2 then [] else [(wd L k).nm]) := by
  have e : L.take (k + 1) = L.take k ++ [wd L k] := by unfold wd; rw [List.take_add_one, List.getD_eq_getElem?_getD, List.getElem?_eq_getElem h]; rfl
  unfold leftL
  rw [e, List.filter_append, List.map_append]
  congr 1
  rcases hst : (wd L k).st == 2 with _ | _ <;> simp [hst, bne]
theorem leftL_len (L : List Wt) : (leftL L).length ≤ L.length := by
  unfold leftL
  rw [List.length_map]
  exact List.length_filter_le _ _
theorem askedN_take {L : List Wt} {k : Nat} (h : k < L.length) : askedN (L.take (k + 1)) = askedN (L.take k) + (if (wd L k).st == 1 then 1 else 0) := by
  have e : L.take (k + 1) = L.take k ++ [wd L k] := by unfold wd; rw [List.take_add_one, List.getD_eq_getElem?_getD, List.getElem?_eq_getElem h]; rfl
  unfold askedN
  rw [e, List.filter_append, List.length_append]
  congr 1
  rcases hst : (wd L k).st == 1 with _ | _ <;> simp [hst]
theorem askedN_len (L : List Wt) : askedN L ≤ L.length := List.length_filter_le _ _
theorem kp_at {w : World} {A : Option Addr} {n : Nat} {L : List Wt} (h : RdP w A n L) {k : Nat} (hk : k < n) : ∃ ad, A = some ad ∧ (wd L k).nm.length = 32 ∧ ∀ j u, (pcells (wd L k))[j]? = some u → w.cell? (ad.add (k * 36 + j)) = some u := kf_at h default k hk
set_option maxRecDepth 20000 in
set_option maxHeartbeats 1600000 in
theorem left_calls (B g tb : Nat) (c : Cl) (v : Value) (w : World) (h : PCl w B g tb c v) (hl : c.L.length ≤ 1048576) :
    Calls Try.prog 8 #[.pointer (some ⟨g, 0, none⟩)] w fun e w' => ∃ u, e = .returned u ∧ OwD w' w.heap.size u (leftL c.L) ∧ Below w.heap.size w w' := by
  obtain ⟨A, cp, rfl, hcp, hr⟩ := h.reads
  obtain ⟨q0, q1, q2, q3, q4, q5, q6⟩ := h.cells
  have HR := Aside0.mk hr
  clear h hr q1 q2 q3 q4 q5 q6
  go_enter Try.func8, Try.ntmps8
  go_wp2
  go_loopw [3, 5, 11] (fun u _ i wr => ∃ k : Nat, k ≤ c.L.length ∧ i = .int .i64 k ∧ OwD wr w.heap.size u (leftL (c.L.take k)) ∧ Below w.heap.size w wr) (fun _ _ i _ => c.L.length - (intOf i).toNat)
  case atStart => exact ⟨0, Nat.zero_le _, rfl, Kd.R_nil _ _ _ _ _, Below.refl _ _⟩
  case round =>
    obtain ⟨k, hk, rfl, hO, hB⟩ := hrel
    have HB := Aside0.mk hB
    have HO := Aside0.mk hO
    clear hB hO
    by_cases hlt : k < c.L.length
    · obtain ⟨ad, rfl, hx32, hxc⟩ := kp_at (Kd.C_below HR.out HB.out) hlt
      have HXC := Aside0.mk hxc
      have HX32 := Aside0.mk hx32
      have HT := Aside0.mk (leftL_take hlt)
      have hll : (leftL (c.L.take k)).length ≤ 1048576 := by
        have := leftL_len (c.L.take k)
        rw [List.length_take] at this
        omega
      generalize wd c.L k = X at *
      generalize leftL (c.L.take k) = R at *
      obtain ⟨VA, vc, rfl, -, -⟩ := Kd.R_reads HO.out
      clear hxc hx32
      rcases hst : X.st == 2 with _ | _
      · rw [hst] at HT
        have HL : Aside0 (leftL (c.L.take (k + 1)) = R ++ [X.nm]) := ⟨by rw [HT.out]; rfl⟩
        clear HT
        go_wp2_with (first
          | ((with_reducible refine at_ld 55 (.tmp 13) ?_); refine load_arm rfl 55 (.tmp 13) rfl rfl (ld_elem HXC.out 55 _ Try.underlying55 rfl (size_p HX32.out)) ?_; simp only [Act.put, List.setIfInBounds_toArray, List.set_cons_zero, List.set_cons_succ])
          | ((with_reducible refine at_al 55 ?_); refine new_p rfl rfl rfl rfl (.tmp 14) rfl (of_decide_eq_true rfl) rfl HX32.out ?_; rintro w2 g2 N2; have HN2 := Aside0.mk N2; have hc2 := (p_cells N2.at_ HX32.out).1; rw [hst] at hc2; have HB2 : Aside0 (Below w.heap.size w w2) := ⟨HB.out.trans (N2.below.mono HB.out.size)⟩; have HO2 : Aside0 (OwD w2 w.heap.size (.slice VA R.length vc) R) := ⟨Kd.R_below HO.out N2.below⟩; clear N2)
          | ((with_reducible refine at_ld (w := w2) 51 (.tmp 19) ?_); refine load_arm rfl 51 (.tmp 19) rfl rfl (p_dig HN2.out.at_ HX32.out) ?_; simp only [Act.put, List.setIfInBounds_toArray, List.set_cons_zero, List.set_cons_succ])
          | ((with_reducible refine at_bs 28 ?_); refine rows_arm rfl _ _ rfl Try.underlying28 (info_parts infoDg).choose_spec.1 (info_parts infoDg).choose_spec.2.1 (info_parts infoDg).choose_spec.2.2.1 [Nm X.nm] (by intro v hv; rw [List.mem_singleton.1 hv]; exact Nm_len32 HX32.out) (show 1 * 32 ≤ 2 ^ 24 by decide) (show 1 * 32 ≠ 0 by decide) rfl rfl ?_; rintro w3 g3 N3; have HO3 : Aside0 (OwD w3 w.heap.size (.slice VA R.length vc) R) := ⟨Kd.R_below HO2.out N3.below⟩; have HR3 : Aside0 (RdD w3 (some ⟨g3, 0, none⟩) 1 [X.nm]) := ⟨rd_one (by have := N3.at_; simpa using this) HX32.out⟩; have HB3 : Aside0 (Below w.heap.size w w3) := ⟨HB2.out.trans (N3.below.mono HB2.out.size)⟩; clear N3)
          | (at_builtin; (with_reducible refine at_w w3 ?_); refine appD (w0 := w) w.heap.size rfl (.tmp 18) (.tmp 21) rfl (.slice VA R.length vc) R [X.nm] (some ⟨g3, 0, none⟩) 1 1 rfl rfl HO3.out HR3.out HB3.out HB3.out.size (by omega) ?_; intro v4 w4 hO4 hB4 _ _; have HO4 := Aside0.mk hO4; have HB4 := Aside0.mk hB4; clear hO4 hB4)
          | fail)
        go_roundw
        case rel => exact ⟨k + 1, by omega, by go_num, by rw [HL.out]; exact HO4.out, HB4.out⟩
        case measure => simp [intOf]; omega
      · rw [hst] at HT
        have HL : Aside0 (leftL (c.L.take (k + 1)) = R) := ⟨by rw [HT.out]; simp⟩
        clear HT
        go_wp2_with (first
          | ((with_reducible refine at_ld 55 (.tmp 13) ?_); refine load_arm rfl 55 (.tmp 13) rfl rfl (ld_elem HXC.out 55 _ Try.underlying55 rfl (size_p HX32.out)) ?_; simp only [Act.put, List.setIfInBounds_toArray, List.set_cons_zero, List.set_cons_succ])
          | ((with_reducible refine at_al 55 ?_); refine new_p rfl rfl rfl rfl (.tmp 14) rfl (of_decide_eq_true rfl) rfl HX32.out ?_; rintro w2 g2 N2; have HN2 := Aside0.mk N2; have hc2 := (p_cells N2.at_ HX32.out).1; rw [hst] at hc2; have HB2 : Aside0 (Below w.heap.size w w2) := ⟨HB.out.trans (N2.below.mono HB.out.size)⟩; have HO2 : Aside0 (OwD w2 w.heap.size (.slice VA R.length vc) R) := ⟨Kd.R_below HO.out N2.below⟩; clear N2)
          | fail)
        go_roundw
        case rel => exact ⟨k + 1, by omega, by go_num, by rw [HL.out]; exact HO2.out, HB2.out⟩
        case measure => simp [intOf]; omega
    · obtain rfl : k = c.L.length := by omega
      rw [List.take_length] at HO
      go_wp2
      go_ret
      exact ⟨_, rfl, HO.out, HB.out⟩
theorem errno_calls (B g tb : Nat) (c : Cl) (v : Value) (w : World) (h : PCl w B g tb c v) :
    Calls Try.prog 13 #[.pointer (some ⟨g, 0, none⟩)] w fun e w' => e = .returned (.int .i64 c.e) ∧ w = w' := by
  obtain ⟨q0, q1, q2, q3, q4, q5, q6⟩ := h.cells
  clear h
  go_enter Try.func13, Try.ntmps13
  go_wp2
  go_ret
  exact ⟨rfl, rfl⟩
theorem asks_calls (B g tb : Nat) (c : Cl) (v : Value) (w : World) (h : PCl w B g tb c v) (h0 : 0 ≤ c.seq) (h1 : c.seq ≤ 4294967296) :
    Calls Try.prog 11 #[.pointer (some ⟨g, 0, none⟩)] w fun e w' => e = .returned (.int .i64 c.seq) ∧ w = w' := by
  obtain ⟨q0, q1, q2, q3, q4, q5, q6⟩ := h.cells
  have hld := run_call_load (P := Try.prog) Try.func27 (by kernel_rfl) (by kernel_rfl) (by kernel_rfl) .i64 (by kernel_rfl) q3
  clear h
  go_enter Try.func11, Try.ntmps11
  go_wp2
  go_ret
  exact ⟨rfl, rfl⟩
set_option maxRecDepth 20000 in
theorem asked_calls (B g tb : Nat) (c : Cl) (v : Value) (w : World) (h : PCl w B g tb c v) (hok : c.ok) :
    Calls Try.prog 12 #[.pointer (some ⟨g, 0, none⟩)] w fun e w' => e = .returned (.int .i64 (askedN c.L)) ∧ w = w' := by
  obtain ⟨A, cp, hv, hcp, -⟩ := h.reads
  obtain ⟨q0, q1, q2, q3, q4, q5, q6⟩ := h.cells
  have HO := Aside0.mk h.own
  have HK := Aside0.mk hok
  have hl := hok.l1
  obtain ⟨gr, hgr⟩ : ∃ gr, gOf v = gr := ⟨_, rfl⟩
  have HGR := Aside0.mk hgr
  have HA : Aside0 (0 < c.L.length → A = some ⟨gr, 0, none⟩) := ⟨fun hp => by
    obtain ⟨cp', e, _⟩ := own_form HO.out hp
    have e2 : v = .slice (some ⟨gr, 0, none⟩) c.L.length cp' := by rw [← HGR.out]; exact e
    rw [hv] at e2
    injection e2 with e1⟩
  clear h hok hgr q1 q2 q3 q4 q5 q6
  subst hv
  go_enter Try.func12, Try.ntmps12
  go_wp2
  go_loopw [3, 4, 10] (fun s _ i wr => ∃ k : Nat, k ≤ c.L.length ∧ i = .int .i64 k ∧ s = .int .i64 (askedN (c.L.take k)) ∧ w = wr) (fun _ _ i _ => c.L.length - (intOf i).toNat)
  case atStart => exact ⟨0, Nat.zero_le _, rfl, rfl, rfl⟩
  case round =>
    obtain ⟨k, hk, rfl, rfl, rfl⟩ := hrel
    by_cases hlt : k < c.L.length
    · obtain ⟨c0, c1, -⟩ := own_cells HO.out hlt
      rw [HGR.out] at c0 c1
      obtain rfl := HA.out (by omega)
      have HI : Aside0 (Calls Try.prog 20 #[.pointer (some ⟨gr, k * 36, none⟩)] w fun e w' => e = .returned (.bool ((wd c.L k).st == 1)) ∧ w = w') := ⟨by rw [← (HK.out.at hlt).asked]; exact isa_calls gr (k * 36) _ _ w c0 c1⟩
      have HT := Aside0.mk (askedN_take hlt)
      have hn := askedN_len (c.L.take k)
      rw [List.length_take] at hn
      generalize askedN (c.L.take k) = R at *
      clear c0 c1
      rcases hst : (wd c.L k).st == 1 with _ | _
      · rw [hst] at HT HI
        have HL : Aside0 (askedN (c.L.take (k + 1)) = R) := ⟨by rw [HT.out]; rfl⟩
        clear HT hst
        go_wp2_with (go_at_call 20; refine HI.out.mono ?_; rintro e w1 ⟨rfl, rfl⟩)
        go_roundw
        case rel => exact ⟨k + 1, by omega, by go_num, by rw [HL.out], (by simp)⟩
        case measure => simp [intOf]; omega
      · rw [hst] at HT HI
        have HL : Aside0 (askedN (c.L.take (k + 1)) = R + 1) := ⟨by rw [HT.out]; rfl⟩
        clear HT hst
        go_wp2_with (go_at_call 20; refine HI.out.mono ?_; rintro e w1 ⟨rfl, rfl⟩)
        go_roundw
        case rel => exact ⟨k + 1, by omega, by go_num, by rw [HL.out]; go_num, (by simp)⟩
        case measure => simp [intOf]; omega
    · obtain rfl : k = c.L.length := by omega
      rw [List.take_length]
      go_wp2
      go_ret
      exact ⟨rfl, rfl⟩
end Go.Proofs.Ytnkkjmbpopodlaa
