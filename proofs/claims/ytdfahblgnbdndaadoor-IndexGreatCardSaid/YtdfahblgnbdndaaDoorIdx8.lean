/- lives (layer 11); noughts' chunks. Conditions: what sha's table of roots holds. -/
import Derived.Test.YtdfahblgnbdndaaDoorIdx6
namespace Go.Proofs.YtdfahblgnbdndaaDoor
open Go.RowKit Go.Shelf Go.Proofs.YtdfahblgnbdndaaDoorW.PrintWords Go.Proofs.YtdfahblgnbdndaaDoorW.PrintMore
set_option linter.unusedVariables false
set_option linter.unusedSimpArgs false
theorem itsOf_nil : itsOf [] = [] := rfl
theorem tot_itsOf : ∀ CH : List (List Int), tot (itsOf CH) = (CH.flatten.length : Int)
  | [] => rfl
  | c :: CH => by
    show tot ((shaL c, (c.length : Int)) :: itsOf CH) = _
    rw [tot_cons, tot_itsOf CH, List.flatten_cons, List.length_append]
    simp
theorem flat_even {m : Nat} (hm : 1 ≤ m) : ∀ CH : List (List Int), (∀ k, k < CH.length → 1 ≤ (CH.getD k []).length ∧ (CH.getD k []).length ≤ m ∧ (k + 1 < CH.length → m ≤ (CH.getD k []).length)) → CH.length * m < CH.flatten.length + m ∧ CH.flatten.length ≤ CH.length * m
  | [], _ => by simp; omega
  | [c], h => by
    have := h 0 (by simp)
    simp at this ⊢
    omega
  | c :: d :: CH, h => by
    have h0 := h 0 (by simp)
    have ih := flat_even hm (d :: CH) (fun k hk => by
      have := h (k + 1) (by simp at hk ⊢; omega)
      simpa using this)
    simp at h0
    rw [List.flatten_cons, List.length_append]
    rw [List.length_cons (a := c), Nat.succ_mul]
    omega
theorem al_even {m p : Nat} {xs : List Int} (hm : 1 ≤ m) : (al m m p [] xs).length = (xs.length + m - 1) / m := by
  have h := flat_even hm (al m m p [] xs) (fun k hk => al_sizes hm (Nat.le_refl m) k hk)
  rw [al_flat] at h
  refine (Nat.div_eq_of_lt_le ?_ ?_).symm
  · rcases Nat.eq_zero_or_pos xs.length with h0 | h0
    · have : (al m m p [] xs).length = 0 := by
        obtain rfl := List.eq_nil_of_length_eq_zero h0
        rw [al_nil]; rfl
      rw [this]; omega
    · omega
  · rw [Nat.succ_mul]; omega
theorem zeros_bytes (n : Nat) : Bytes (List.replicate n 0) := fun x hx => by rw [(List.mem_replicate.1 hx).2]; omega
theorem szs_itsOf {CH : List (List Int)} {m : Nat} (h : ∀ x ∈ CH, x.length ≤ m) : szs (itsOf CH) m := fun k hk => by
  rw [itsOf_len] at hk
  have e : ((itsOf CH).getD k ([], 0)).2 = ((CH.getD k []).length : Int) := by
    simp [itsOf, List.getD_eq_getElem?_getD, hk]
  rw [e]
  have := h (CH.getD k []) (by rw [List.getD_eq_getElem?_getD, List.getElem?_eq_getElem hk]; exact List.getElem_mem _)
  omega
theorem mayX_nil : mayX 1 2 3 [] = true := by decide
set_option maxRecDepth 20000 in
set_option maxHeartbeats 1600000 in
theorem xlives_calls (w : World) (hK : Roots w) : Calls Tryd.prog 13 #[] w fun e w' => e = .returned (.bool true) ∧ Below w.heap.size w w' := by
  have HK := Aside0.mk hK
  have HA : Aside0 (al 1 3 (pw 2) [] [] = []) := ⟨al_nil _ _ _⟩
  have hl32 := shaL_len []
  have hby := shaL_bytes []
  obtain ⟨D, hD⟩ : ∃ D, shaL [] = D := ⟨_, rfl⟩
  have HD := Aside0.mk hD
  rw [hD] at hl32 hby
  clear hK hD
  have HBY := Aside0.mk hby
  clear hby
  go_enter Tryd.func13, Tryd.ntmps13
  go_wp2_with (first
    | (go_at_call 11; refine (iof_ok 1 2 3 none 0 0 [] w (by decide) (Kd.C_nil _ _) Bytes.nil HK.out (by omega) (by rw [HA.out]; simp)).mono ?_; rw [HA.out, HD.out, itsOf_nil]; rintro e w1 ⟨v, rfl, hO, hB⟩; obtain ⟨vA, vc, rfl, -, hvr⟩ := Kd.R_reads hO; have HVR := Aside0.mk hvr; have HB1 := Aside0.mk hB; clear hO hB hvr)
    | ((with_reducible refine at_al 29 ?_); refine new_x rfl rfl rfl rfl (.tmp 8) rfl (of_decide_eq_true rfl) rfl hl32 rfl ?_; rintro w2 g2 HN); have HN2 := Aside0.mk HN; clear HN
    | ((with_reducible refine at_ld (w := w2) 29 (.tmp 1) ?_); refine load_arm rfl 29 (.tmp 1) rfl rfl (ld_row HN2.out.at_ 29 _ Tryd.underlying29 rfl (by rw [List.size_toArray]; exact size_X hl32)) ?_; simp only [Act.put, List.setIfInBounds_toArray, List.set_cons_zero, List.set_cons_succ])
    | (go_at_call 17; refine (iwrite_ok 1 2 3 D vA 0 vc [] _ w2 rfl hl32 (Kd.C_below HVR.out HN2.out.below) mayX_nil HBY.out (fun x hx => by cases hx)).mono ?_; rintro e w3 ⟨v, rfl, hO, hB⟩; obtain ⟨uA, uc, rfl, -, -⟩ := Kd.R_reads hO; rw [show (xbytes 1 2 3 D []).length = 56 by unfold xbytes; rw [cput_length, xbody_len hl32 (fun x hx => by cases hx)]; rfl]; have HB3 := Aside0.mk hB; obtain ⟨q0, q1, q2, q3, _⟩ := x_cells (Later.heap hB HN2.out.at_) hl32; clear hO hB)
    | fail)
  go_ret
  have h2 := below_tr HB1.out HN2.out.below HB1.out.size
  exact ⟨rfl, below_tr h2 HB3.out h2.size⟩
end Go.Proofs.YtdfahblgnbdndaaDoor
