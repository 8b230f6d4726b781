/- The law IndexGreat: its walk. Conditions: what its argument reads, and what sha's table of roots holds. -/
import Derived.Test.YtdfahblgnbdndaaDoorIdx8
namespace Go.Proofs.YtdfahblgnbdndaaDoor
open Go.RowKit Go.Shelf Go.Proofs.YtdfahblgnbdndaaDoorW.PrintWords Go.Proofs.YtdfahblgnbdndaaDoorW.PrintMore
set_option linter.unusedVariables false
set_option linter.unusedSimpArgs false
section
variable {P : Program} {ops : Array Oper} {rest : List Oper} {a : Act} {Q : Exit → Act → World → Prop} {d : Option Tmp} {ty ty0 : TypeId} {ps : String} {af : Array Edge} {gd : Option (Nat × Bool)} {x y : Operand}
theorem at_mk (w : World) (h : wpList P ops Q ({ dst := d, op := .makeSlice ty x y, type := ty0, pos := ps, after := af, guard := gd } :: rest) a w) : wpList P ops Q ({ dst := d, op := .makeSlice ty x y, type := ty0, pos := ps, after := af, guard := gd } :: rest) a w := h
end
theorem tot_zeros {m p n : Nat} : tot (itsOf (al m m p [] (List.replicate n 0))) = (n : Int) := by rw [tot_itsOf, al_flat, List.length_replicate]
set_option maxRecDepth 20000 in
set_option maxHeartbeats 3200000 in
theorem indexGreat_walk (nn : Int) (w : World) (h0 : -9223372036854775808 ≤ nn) (h1 : nn ≤ 9223372036854775807) (hK : Roots w) :
    Calls Tryd.prog 3 #[.int .i64 nn] w fun e w' => e = .returned (.bool true) ∧ Below w.heap.size w w' := by
  have HK := Aside0.mk hK
  have HAC := Aside0.mk (fun (w : World) => around_calls nn 12 w h0 h1 (by omega) (by omega))
  obtain ⟨hr0, hr1⟩ := around_range nn 12 (by omega)
  obtain ⟨r, hr⟩ := Int.eq_ofNat_of_zero_le hr0
  rw [hr] at HAC hr1
  have hr12 : r < 12 := by omega
  clear hK h0 h1 hr hr0 hr1
  obtain ⟨a, ha⟩ : ∃ a, a = 65530 + r := ⟨_, rfl⟩
  obtain ⟨b, hb⟩ : ∃ b, b = 4090 + r := ⟨_, rfl⟩
  have haI : (65530 : Int) + (r : Int) = (a : Int) := by omega
  have hbI : (4090 : Int) + (r : Int) = (b : Int) := by omega
  have hab : a < 65542 ∧ b < 4102 := by omega
  have HLA : Aside0 ((al 4096 4096 (pw 4096) [] (List.replicate a 0)).length = (a + 4095) / 4096) := ⟨by rw [al_even (by omega), List.length_replicate]; rfl⟩
  have HLB : Aside0 ((al 1 1 (pw 1) [] (List.replicate b 0)).length = b) := ⟨by rw [al_even (by omega), List.length_replicate]; omega⟩
  have HTA : Aside0 (tot (itsOf (al 4096 4096 (pw 4096) [] (List.replicate a 0))) = (a : Int)) := ⟨tot_zeros⟩
  have HSA : Aside0 (szs (itsOf (al 4096 4096 (pw 4096) [] (List.replicate a 0))) 1048576) := ⟨szs_itsOf (m := 1048576) (fun x hx => by have := (al_mem_le (p := pw 4096) (xs := List.replicate a 0) (a := 4096) (c := 4096) (by omega) (by omega) x hx).2; omega)⟩
  have hlA := shaL_len (List.replicate a 0)
  have hlB := shaL_len (List.replicate b 0)
  by_cases hsm : r ≤ 6
  · have hsmA : (a : Int) ≤ 65536 := by omega
    have hsmB : (b : Int) ≤ 4096 := by omega
    have hq : ((a : Int) + 4095).tdiv 4096 = (((a + 4095) / 4096 : Nat) : Int) := by rw [Int.tdiv_eq_ediv_of_nonneg (by omega)]; omega
    have hqb : (a + 4095) / 4096 ≤ 4096 := by omega
    have hSa : a ≤ 65536 := by omega
    have hSb : b ≤ 4096 := by omega
    clear ha hb
    generalize (a + 4095) / 4096 = qn at *
    go_enter Tryd.func3, Tryd.ntmps3
    go_wp2_with (first
      | (go_at_call 10; (with_reducible refine at_cw w ?_); refine (HAC.out w).mono ?_; rintro e u0 ⟨rfl, rfl⟩)
      | ((with_reducible refine at_mk w ?_); refine makeB (w0 := w) w.heap.size rfl rfl _ _ rfl (a : Int) rfl rfl (by omega) (by omega) (Below.refl _ _) (Nat.le_refl _) ?_; intro v1 w1 hO hB; rw [Int.toNat_natCast] at hO; obtain ⟨A1, c1, rfl, -, hr1⟩ := OwB.reads hO; rw [List.length_replicate] at hr1 ⊢; have HR1 := Aside0.mk hr1; have HB1 := Aside0.mk hB; clear hO hB hr1)
      | (go_at_call 11; (with_reducible refine at_cw w1 ?_); refine (iof_ok 4096 4096 4096 A1 a c1 (List.replicate a 0) w1 (by decide) HR1.out (zeros_bytes a) (HK.out.below HB1.out) hSa (by rw [HLA.out]; omega)).mono ?_; rintro e w2 ⟨v, rfl, hO, hB⟩; obtain ⟨vA, vc, rfl, -, hvr⟩ := Kd.R_reads hO; rw [itsOf_len, HLA.out] at hvr ⊢; have HVR := Aside0.mk hvr; have HB2 := Aside0.mk (below_tr HB1.out hB HB1.out.size); clear hO hB hvr)
      | ((with_reducible refine at_al 29 ?_); refine new_x rfl rfl rfl rfl (.tmp 20) rfl (of_decide_eq_true rfl) rfl hlA rfl ?_; rintro w3 g3 HN); have HN3 := Aside0.mk HN; have HB3 := Aside0.mk (below_tr HB2.out HN.below HB2.out.size); clear HN
      | ((with_reducible refine at_mk w3 ?_); refine makeB (w0 := w3) w3.heap.size rfl rfl _ _ rfl (b : Int) rfl rfl (by omega) (by omega) (Below.refl _ _) (Nat.le_refl _) ?_; intro v4 w4 hO hB; rw [Int.toNat_natCast] at hO; obtain ⟨A4, c4, rfl, -, hr4⟩ := OwB.reads hO; rw [List.length_replicate] at hr4 ⊢; have HR4 := Aside0.mk hr4; have HB34 := Aside0.mk hB; have HB4 := Aside0.mk (below_tr HB3.out hB HB3.out.size); clear hO hB hr4)
      | (go_at_call 11; (with_reducible refine at_cw w4 ?_); refine (iof_ok 1 1 1 A4 b c4 (List.replicate b 0) w4 (by decide) HR4.out (zeros_bytes b) (HK.out.below HB4.out) (by omega) (by rw [HLB.out]; omega)).mono ?_; rintro e w5 ⟨v, rfl, hO, hB⟩; obtain ⟨uA, uc, rfl, -, hur⟩ := Kd.R_reads hO; rw [itsOf_len, HLB.out] at hur ⊢; have HB35 := Aside0.mk (below_tr HB34.out hB HB34.out.size); have HB5 := Aside0.mk (below_tr HB4.out hB HB4.out.size); clear hO hB hur)
      | ((with_reducible refine at_al 29 ?_); refine new_x rfl rfl rfl rfl (.tmp 27) rfl (of_decide_eq_true rfl) rfl hlB rfl ?_; rintro w6 g6 HN); have HN6 := Aside0.mk HN.at_; have HB36 := Aside0.mk (below_tr HB35.out HN.below HB35.out.size); have HB6 := Aside0.mk (below_tr HB5.out HN.below HB5.out.size); have HG6 := Aside0.mk (Later.heap HB36.out HN3.out.at_); obtain ⟨p0, p1, p2, p3, _⟩ := x_cells HN.at_ hlB; obtain ⟨q0, q1, q2, q3, _⟩ := x_cells HG6.out hlA; clear HN p0 p1 p2 q0 q1 q2
      | ((with_reducible refine at_ldg 29 (.tmp 5) ?_); refine val_arm (by rfl) (load_run rfl rfl (ld_row HG6.out 29 _ Tryd.underlying29 rfl (by rw [List.size_toArray]; exact size_X hlA))) ?_)
      | (go_at_call 12; (with_reducible refine at_cw w6 ?_); refine (itotal_calls 4096 4096 4096 (shaL (List.replicate a 0)) vA qn vc (itsOf (al 4096 4096 (pw 4096) [] (List.replicate a 0))) _ w6 rfl hlA (Kd.C_below HVR.out (HN3.out.below.trans (HB36.out.mono HN3.out.below.size))) HSA.out (by omega)).mono ?_; rw [HTA.out]; rintro e w7 ⟨rfl, hB⟩; have HB67 := Aside0.mk hB; have HB7 := Aside0.mk (below_tr HB6.out hB HB6.out.size); replace p3 := pw_cell_below hB p3; replace q3 := pw_cell_below hB q3; clear hB)
      | (go_at_call 13; (with_reducible refine at_cw w7 ?_); refine (xlives_calls w7 (HK.out.below HB7.out)).mono ?_; rintro e w8 ⟨rfl, hB⟩; have HB8 := Aside0.mk (below_tr HB7.out hB HB7.out.size); clear hB)
      | fail)
    go_ret
    exact ⟨rfl, HB8.out⟩
  · have hsmA : ¬ (a : Int) ≤ 65536 := by omega
    have hsmB : ¬ (b : Int) ≤ 4096 := by omega
    clear ha hb
    have hz := Z32_len
    go_enter Tryd.func3, Tryd.ntmps3
    go_wp2_with (first
      | (go_at_call 10; (with_reducible refine at_cw w ?_); refine (HAC.out w).mono ?_; rintro e u0 ⟨rfl, rfl⟩)
      | ((with_reducible refine at_mk w ?_); refine makeB (w0 := w) w.heap.size rfl rfl _ _ rfl (a : Int) rfl rfl (by omega) (by omega) (Below.refl _ _) (Nat.le_refl _) ?_; intro v1 w1 hO hB; rw [Int.toNat_natCast] at hO; obtain ⟨A1, c1, rfl, -, hr1⟩ := OwB.reads hO; rw [List.length_replicate] at hr1 ⊢; have HR1 := Aside0.mk hr1; have HB1 := Aside0.mk hB; clear hO hB hr1)
      | (go_at_call 11; (with_reducible refine at_cw w1 ?_); refine (iof_big 4096 4096 4096 A1 a c1 (List.replicate a 0) w1 (by decide) HR1.out (zeros_bytes a) (HK.out.below HB1.out) (by omega) (by omega)).mono ?_; rintro e w2 ⟨rfl, hB⟩; have HB2 := Aside0.mk (below_tr HB1.out hB HB1.out.size); clear hB)
      | ((with_reducible refine at_al 29 ?_); refine new_x rfl rfl rfl rfl (.tmp 20) rfl (of_decide_eq_true rfl) rfl hz rfl ?_; rintro w3 g3 HN); have HN3 := Aside0.mk HN; have HB3 := Aside0.mk (below_tr HB2.out HN.below HB2.out.size); clear HN
      | ((with_reducible refine at_mk w3 ?_); refine makeB (w0 := w3) w3.heap.size rfl rfl _ _ rfl (b : Int) rfl rfl (by omega) (by omega) (Below.refl _ _) (Nat.le_refl _) ?_; intro v4 w4 hO hB; rw [Int.toNat_natCast] at hO; obtain ⟨A4, c4, rfl, -, hr4⟩ := OwB.reads hO; rw [List.length_replicate] at hr4 ⊢; have HR4 := Aside0.mk hr4; have HB34 := Aside0.mk hB; have HB4 := Aside0.mk (below_tr HB3.out hB HB3.out.size); clear hO hB hr4)
      | (go_at_call 11; (with_reducible refine at_cw w4 ?_); refine (iof_big 1 1 1 A4 b c4 (List.replicate b 0) w4 (by decide) HR4.out (zeros_bytes b) (HK.out.below HB4.out) (by omega) (by rw [HLB.out]; omega)).mono ?_; rintro e w5 ⟨rfl, hB⟩; have HB35 := Aside0.mk (below_tr HB34.out hB HB34.out.size); have HB5 := Aside0.mk (below_tr HB4.out hB HB4.out.size); clear hB)
      | ((with_reducible refine at_al 29 ?_); refine new_x rfl rfl rfl rfl (.tmp 27) rfl (of_decide_eq_true rfl) rfl hz rfl ?_; rintro w6 g6 HN); have HB36 := Aside0.mk (below_tr HB35.out HN.below HB35.out.size); have HB6 := Aside0.mk (below_tr HB5.out HN.below HB5.out.size); obtain ⟨p0, p1, p2, p3, _⟩ := x_cells HN.at_ hz; obtain ⟨q0, q1, q2, q3, _⟩ := x_cells (Later.heap HB36.out HN3.out.at_) hz; clear HN p0 p1 p2 q0 q1 q2
      | (go_at_call 13; (with_reducible refine at_cw w6 ?_); refine (xlives_calls w6 (HK.out.below HB6.out)).mono ?_; rintro e w8 ⟨rfl, hB⟩; have HB8 := Aside0.mk (below_tr HB6.out hB HB6.out.size); clear hB)
      | fail)
    go_ret
    exact ⟨rfl, HB8.out⟩
end Go.Proofs.YtdfahblgnbdndaaDoor
