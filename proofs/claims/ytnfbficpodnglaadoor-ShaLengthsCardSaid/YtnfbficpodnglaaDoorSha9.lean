/- Contracts: lighterageref01.Name and lighteragelaw02.lives. Conditions: what sha's table of roots holds. -/
import Derived.Test.YtnfbficpodnglaaDoorSha8
namespace Go.Proofs.YtnfbficpodnglaaDoor
open Go.RowKit Go.Proofs.YtnfbficpodnglaaDoorW.PrintWords Go.Proofs.YtnfbficpodnglaaDoorW.PrintMore
set_option linter.unusedVariables false
set_option linter.unusedSimpArgs false
set_option maxHeartbeats 800000 in
theorem name_calls (nm : List Int) (C : Array Value) (w : World) (hC : C = (Nm nm).toArray) (hn : nm.length = 32) (hb : Bytes nm) :
    Calls Tryd.prog 21 #[.agg C] w fun e w' => e = .returned (.string (hexS nm)) ∧ Below w.heap.size w w' := by
  have HLD : Aside0 ((Instr.loadAt 26 (.pointer (some ⟨w.heap.size, 0, none⟩))).run Tryd.prog (w.alloc (.cells C 26)) = .ok (.agg (Nm nm).toArray) (w.alloc (.cells C 26))) := ⟨by
    subst hC
    exact ld_row (P := Tryd.prog) (blk_new w _) 26 _ Tryd.underlying26 rfl (by rw [List.size_toArray]; exact size_d _ hn)⟩
  have HB0 : Aside0 (Below w.heap.size w (w.alloc (.cells C 26))) := ⟨(Below.refl _ _).alloc (Nat.le_refl _) _⟩
  clear hC
  go_enter Tryd.func21, Tryd.ntmps21
  go_wp2_with (first
    | ((with_reducible refine at_ld 26 (.tmp 1) ?_); refine load_arm rfl 26 (.tmp 1) rfl rfl HLD.out ?_; simp only [Act.put, List.setIfInBounds_toArray, List.set_cons_zero, List.set_cons_succ])
    | (go_at_call 28; refine (bytes32_calls nm _ _ rfl hn hb).mono ?_; rintro e w1 ⟨v1, rfl, hO1, hB1⟩; obtain ⟨A1, c1, hv1, hc1, hr1⟩ := OwB.reads hO1; rw [hn] at hr1; have HR1 := Aside0.mk hr1; have HB1 := Aside0.mk (below_tr HB0.out hB1 HB0.out.size); clear hr1 hc1 hO1 hB1; subst hv1)
    | (go_at_call 27; refine (text_calls A1 32 c1 nm _ HR1.out hb (by omega)).mono ?_; rintro e w2 ⟨rfl, hB2⟩; have HB2 := Aside0.mk (below_tr HB1.out hB2 HB1.out.size)))
  go_ret
  exact ⟨rfl, HB2.out⟩
theorem abc_val : shaL [97, 98, 99] = [186, 120, 22, 191, 143, 1, 207, 234, 65, 65, 64, 222, 93, 174, 34, 35, 176, 3, 97, 163, 150, 23, 122, 156, 180, 16, 255, 97, 242, 0, 21, 173] := by decide +kernel
theorem abc_hex : hexS [186, 120, 22, 191, 143, 1, 207, 234, 65, 65, 64, 222, 93, 174, 34, 35, 176, 3, 97, 163, 150, 23, 122, 156, 180, 16, 255, 97, 242, 0, 21, 173] = ⟨#[98, 97, 55, 56, 49, 54, 98, 102, 56, 102, 48, 49, 99, 102, 101, 97, 52, 49, 52, 49, 52, 48, 100, 101, 53, 100, 97, 101, 50, 50, 50, 51, 98, 48, 48, 51, 54, 49, 97, 51, 57, 54, 49, 55, 55, 97, 57, 99, 98, 52, 49, 48, 102, 102, 54, 49, 102, 50, 48, 48, 49, 53, 97, 100]⟩ := by decide +kernel
/-- lives: the document's example. -/
theorem lives_calls (w : World) (hk : Roots w) : Calls Tryd.prog 13 #[] w fun e w' => e = .returned (.bool true) ∧ Below w.heap.size w w' := by
  have HK := Aside0.mk hk
  clear hk
  have kc := fun (w : World) (C : Array Value) (n c : Nat) => Lib.run_convert_bytes_const (P := Tryd.prog) w 22 5 C n c Tryd.underlying22 Tryd.underlying5
  have hb : Bytes [97, 98, 99] := by intro x hx; simp at hx; omega
  obtain ⟨D, hdd⟩ : ∃ D, D = shaL [97, 98, 99] := ⟨_, rfl⟩
  have hx := abc_hex
  rw [← abc_val, ← hdd] at hx
  have hD : D.length = 32 := by rw [hdd]; exact shaL_len _
  have hDb : Bytes D := by rw [hdd]; exact shaL_bytes _
  have HX := Aside0.mk hx
  have HDD := Aside0.mk hdd
  have HDB := Aside0.mk hDb
  clear hx hdd hDb
  go_enter Tryd.func13, Tryd.ntmps13
  go_wp2_with (first
    | (go_at_call 10; refine (psum_calls _ _ _ [97, 98, 99] _ (rd_lit w _ _ _ _ rfl rfl (by simp)) hb (HK.out.below ((Below.refl _ _).alloc (Nat.le_refl _) _)) (by simp)).mono ?_; rw [← HDD.out]; rintro e w1 ⟨rfl, hB1⟩; have HB1 := Aside0.mk (below_tr' ((Below.refl _ _).alloc (Nat.le_refl _) _) hB1); clear hB1)
    | ((with_reducible refine at_st 26 (.tmp 1) (.tmp 4) ?_); refine store_blk rfl 26 (.tmp 1) (.tmp 4) rfl rfl rfl (blk_new w1 _) (by rw [Nm_len, hD]; rfl) (size_d _ hD) (Nm_one _) ?_; rintro w2 HS)
    | ((with_reducible refine at_ld 26 (.tmp 1) ?_); refine load_arm rfl 26 (.tmp 1) rfl rfl (ld_row (P := Tryd.prog) HS.at_ 26 _ Tryd.underlying26 rfl (by rw [List.size_toArray]; exact size_d _ hD)) ?_; simp only [Act.put, List.setIfInBounds_toArray, List.set_cons_zero, List.set_cons_succ])
    | (go_at_call 21; refine (name_calls D _ w2 rfl hD HDB.out).mono ?_; rw [HX.out]; rintro e w3 ⟨rfl, hB3⟩; have HB3 := Aside0.mk hB3; clear hB3))
  go_ret
  have hh : Below w1.heap.size w1 w2 := ((Below.refl _ _).alloc (Nat.le_refl _) _).trans (HS.below (Nat.le_refl _))
  have h2 := below_tr HB1.out hh HB1.out.size
  exact ⟨rfl, below_tr h2 HB3.out h2.size⟩
end Go.Proofs.YtnfbficpodnglaaDoor
