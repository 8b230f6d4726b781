/- The law ShaSums: its walk. Conditions: what sha's table of roots holds. -/
import Derived.Test.YtnfbficpodnglaaDoorSha9
namespace Go.Proofs.YtnfbficpodnglaaDoor
open Go.RowKit Go.Proofs.YtnfbficpodnglaaDoorW.PrintWords Go.Proofs.YtnfbficpodnglaaDoorW.PrintMore
set_option linter.unusedVariables false
set_option linter.unusedSimpArgs false
theorem dig_gd : Tryd.prog.eqGuardType Tryd.prog.depth 26 = false := by kernel_rfl
theorem d_eql_same {W : World} {nm : List Int} (hn : nm.length = 32) : (binOp .eql 26 (.agg (Nm nm).toArray) (.agg (Nm nm).toArray)).run Tryd.prog W = .ok (.bool true) W := by
  rw [d_eql hn hn]; simp
theorem d_neq {w : World} {nm nm' : List Int} (hn : nm.length = 32) (hn' : nm'.length = 32) :
    (binOp .neq 26 (.agg (Nm nm).toArray) (.agg (Nm nm').toArray)).run Tryd.prog w = .ok (.bool (!decide (nm = nm'))) w := by
  rw [run_neq_struct, digest_eq (d := 9998) hn hn']; rfl
set_option maxRecDepth 20000 in
set_option maxHeartbeats 1600000 in
theorem shaSums_walk (A : Option Addr) (n c : Nat) (xs : List Int) (k : Int) (w : World) (h : RdB w A n xs) (hc : n ≤ c) (hb : Bytes xs) (hk0 : -9223372036854775808 ≤ k) (hk1 : k ≤ 9223372036854775807) (hk : Roots w) :
    Calls Tryd.prog 3 #[.slice A n c, .int .i64 k] w fun e w' => e = .returned (.bool true) ∧ Below w.heap.size w w' := by
  have HX := Aside0.mk h
  have HK := Aside0.mk hk
  obtain ⟨ha0, ha1⟩ := around_range k 141 (by omega)
  have hgd := dig_gd
  clear h hk
  go_enter Tryd.func3, Tryd.ntmps3
  go_wp2_with (first
    | (go_at_call 9; refine (around_calls k 141 _ hk0 hk1 (by omega) (by omega)).mono ?_; rintro e u0 ⟨rfl, rfl⟩)
    | (go_at_call 8; refine (fill_calls A n c xs (around k 141) w HX.out hb ha0 (by omega)).mono ?_; rintro e w1 ⟨v1, ys, rfl, hO1, hby, hyl, hB1⟩; obtain ⟨A1, c1, rfl, hc1, hr1⟩ := OwB.reads hO1; have HR1 := Aside0.mk hr1; have HB1 := Aside0.mk hB1; have HY1 := Aside0.mk (And.intro hby (show ys.length ≤ 140 by omega)); clear hO1 hby hyl hr1 hB1)
    | (go_at_call 10; with_reducible refine (psum_calls A1 ys.length c1 ys w1 HR1.out HY1.out.1 (HK.out.below HB1.out) (by have := HY1.out.2; omega)).mono ?_; rintro e w2 ⟨rfl, hB2⟩; have HB2 := Aside0.mk (below_tr HB1.out hB2 HB1.out.size); have HR2 := Aside0.mk (Kd.C_below HR1.out hB2); clear hB2)
    | (go_at_call 11; with_reducible refine (rsum_calls A1 ys.length c1 ys w2 HR2.out HY1.out.1 (by have := HY1.out.2; omega)).mono ?_; rintro e w3 ⟨rfl, hB3⟩; have HB3 := Aside0.mk (below_tr HB2.out hB3 HB2.out.size); clear hB3)
    | ((with_reducible refine at_bin .eql 26 ?_); refine val_arm (v := (.bool true)) (by rfl) (bin_run .eql 26 (.tmp 11) (.tmp 13) 26 rfl (p := (.agg (Nm (shaL ys)).toArray)) (q := (.agg (Nm (shaL ys)).toArray)) rfl rfl (run_eqGuard_agg _ .eql _ _ _ _ _ hgd) (d_eql_same (shaL_len ys))) ?_)
    | (go_at_call 12; refine (few_new A n c xs 60 w3 (Kd.C_below HX.out HB3.out) hc hb (by omega) (by omega)).mono ?_; rintro e w4 ⟨A4, c4, zs, rfl, hz4, hbz4, hO4, hc4, hz4l, hR4, hB4⟩; have HB4 := Aside0.mk (below_tr HB3.out hB4 HB3.out.size); clear hO4 hB4; have HZ4 := Aside0.mk (And.intro hbz4 (show zs.length ≤ 60 from hz4l)); clear hbz4 hz4l hc4)
    | (go_at_call 10; with_reducible refine (psum_calls A4 zs.length c4 zs w4 hR4.out HZ4.out.1 (HK.out.below HB4.out) (by have := HZ4.out.2; omega)).mono ?_; rintro e w5 ⟨rfl, hB5⟩; have HB5 := Aside0.mk (below_tr HB4.out hB5 HB4.out.size); clear hB5)
    | (go_at_call 12; refine (few_new A n c xs 60 w5 (Kd.C_below HX.out HB5.out) hc hb (by omega) (by omega)).mono ?_; rintro e w6 ⟨A6, c6, ts, rfl, hz6, hbz6, hO6, hc6, hz6l, hR6, hB6⟩; have HB6 := Aside0.mk (below_tr HB5.out hB6 HB5.out.size); clear hO6 hB6; have HZ6 := Aside0.mk (And.intro hbz6 (show ts.length ≤ 60 from hz6l)); clear hbz6 hz6l hc6; have HT6 : Aside0 (shaL ts = shaL zs) := ⟨by rw [hz6.out, hz4.out]⟩)
    | (go_at_call 11; with_reducible refine (rsum_calls A6 ts.length c6 ts w6 hR6.out HZ6.out.1 (by have := HZ6.out.2; omega)).mono ?_; rw [HT6.out]; rintro e w7 ⟨rfl, hB7⟩; have HB7 := Aside0.mk (below_tr HB6.out hB7 HB6.out.size); clear hB7)
    | ((with_reducible refine at_bing .eql 26 ?_); refine val_arm (v := (.bool true)) (by rfl) (bin_run .eql 26 (.tmp 18) (.tmp 21) 26 rfl (p := (.agg (Nm (shaL zs)).toArray)) (q := (.agg (Nm (shaL zs)).toArray)) rfl rfl (run_eqGuard_agg _ .eql _ _ _ _ _ hgd) (d_eql_same (shaL_len zs))) ?_)
    | (go_at_call 13; refine (lives_calls w7 (HK.out.below HB7.out)).mono ?_; rintro e w8 ⟨rfl, hB8⟩))

  go_ret
  exact ⟨rfl, below_tr HB7.out hB8 HB7.out.size⟩
end Go.Proofs.YtnfbficpodnglaaDoor
