/- The law IndexReads: its walk. Conditions: what its arguments read, and what sha's table of roots holds. -/
import Derived.Test.YtdfahblgnbdndaaDoorIdxI
namespace Go.Proofs.YtdfahblgnbdndaaDoor
open Go.RowKit Go.Shelf Go.Proofs.YtdfahblgnbdndaaDoorW.PrintWords Go.Proofs.YtdfahblgnbdndaaDoorW.PrintMore
set_option linter.unusedVariables false
set_option linter.unusedSimpArgs false
/-- Slices of bytes that are told one by one. -/
def ToldB (w : World) (g : Nat) (m : Nat) : Prop := ∀ i : Nat, i < m → ∃ A n c ys, w.cell? ⟨g, i, none⟩ = some (.slice A n c) ∧ RdB w A n ys ∧ n ≤ c ∧ Bytes ys ∧ n ≤ 1000
theorem ToldB.below {w w1 : World} {g m : Nat} (h : ToldB w g m) (hb : Below w.heap.size w w1) : ToldB w1 g m := fun i hi => by
  obtain ⟨A, n, c, ys, h1, h2, h3⟩ := h i hi
  exact ⟨A, n, c, ys, pw_cell_below hb h1, Kd.C_below h2 hb, h3⟩
theorem rput_new (A : Option Addr) (n c : Nat) (xs : List Int) (w : World) (h : RdB w A n xs) (hb : Bytes xs) (hn : n ≤ 70368744177664) :
    Calls Tryd.prog 30 #[.slice A n c] w fun e w' => ∃ B d ys, e = .returned (.slice B ys.length d) ∧ Bytes ys ∧ ys.length ≤ d ∧ Aside0 (ys.length = xs.length + 4) ∧ Aside0 (RdB w' B ys.length ys) ∧ Below w.heap.size w w' :=
  (rput_calls A n c xs w h hb hn).mono fun e w' ⟨v, he, hO, hB⟩ => by
    obtain ⟨B, d, rfl, hd, hr⟩ := OwB.reads hO
    exact ⟨B, d, _, he, cput_bytes hb, hd, ⟨cput_length xs⟩, ⟨hr⟩, hB⟩
set_option maxHeartbeats 6400000 in
set_option maxRecDepth 20000 in
theorem indexReads_walk (A : Option Addr) (n c : Nat) (xs : List Int) (pa pb pc : Int) (im : List Int) (AX : Option Addr) (nx cx : Nat) (its : List Itm) (at_ ch : Int) (w : World) (h : RdB w A n xs) (hc : n ≤ c) (hb : Bytes xs) (ha : Wf64 pa) (hb' : Wf64 pb) (hc' : Wf64 pc) (him : im.length = 32) (hib : Bytes im) (hr : RdI w AX nx its) (hall : ∀ x ∈ its, Bytes x.1 ∧ Wf64 x.2)
    (ha0 : -9223372036854775808 ≤ at_) (ha1 : at_ ≤ 9223372036854775807) (h0 : 0 ≤ ch) (h1 : ch < 256) (hK : Roots w) :
    Calls Tryd.prog 7 #[.slice A n c, .agg (Xc pa pb pc im (.slice AX nx cx)).toArray, .int .i64 at_, .int .u8 ch] w fun e w' => e = .returned (.bool true) ∧ Below w.heap.size w w' := by
  obtain ⟨a0, b0, c0, ea, eb, ec, _, _, _, hc70, hm⟩ := good_nat pa pb pc
  have HGD : Aside0 (∀ w : World, Calls Tryd.prog 23 #[.agg #[.int .i64 pa, .int .i64 pb, .int .i64 pc]] w fun e w' => e = .returned (.agg #[.int .i64 (a0 : Int), .int .i64 (b0 : Int), .int .i64 (c0 : Int)]) ∧ Below w.heap.size w w') := ⟨fun w => by
    have h := good_calls pa pb pc w ha.1 ha.2 hb'.1 hb'.2 hc'.1 hc'.2
    rwa [ea, eb, ec] at h⟩
  have HM := Aside0.mk hm
  have HX := Aside0.mk hr
  have HK := Aside0.mk hK
  have HIB := Aside0.mk hib
  have HIM := Aside0.mk him
  have hsm : ∀ x ∈ its, -9223372036854775808 ≤ x.2 ∧ x.2 ≤ 9223372036854775807 := fun x hx => (hall x hx).2
  have HSM := Aside0.mk hsm
  have hGL := goodIts_len a0 c0 its
  have HMG := Aside0.mk (mayX_good hm hc70 its)
  have HNG : Aside0 (∀ x ∈ goodIts a0 c0 its, x.1.length = 32) := ⟨fun x hx => by
    obtain ⟨⟨y, hy, e⟩, _⟩ := goodIts_all (by omega) x hx
    rw [e]; exact rdI_len hr y hy⟩
  have HBG : Aside0 (∀ x ∈ goodIts a0 c0 its, Bytes x.1) := ⟨fun x hx => by
    obtain ⟨⟨y, hy, e⟩, _⟩ := goodIts_all (by omega) x hx
    rw [e]; exact (hall y hy).1⟩
  obtain ⟨GI, hGI⟩ : ∃ GI, goodIts a0 c0 its = GI := ⟨_, rfl⟩
  have HGI := Aside0.mk hGI
  rw [hGI] at hGL HMG HNG HBG
  have hGL6 : GI.length ≤ 6 := by omega
  have H := Aside0.mk h
  clear ha hb' hc' hr hall hK hm ea eb ec hib hsm hGL hGI him h
  have Q0 : Bag w (w.alloc (.cells (Xc pa pb pc im (.slice AX nx cx)).toArray 38)) [(w.heap.size, .cells (Xc pa pb pc im (.slice AX nx cx)).toArray 38 (0, 0))] := (Bag.nil w).box _ _
  go_enter Tryd.func7, Tryd.ntmps7
  go_wp2_with (first
    | ((with_reducible refine at_ld 38 (.tmp 5) ?_); refine load_arm rfl 38 (.tmp 5) rfl rfl (ld_rx (Q0.at 0 rfl) HIM.out) ?_; simp only [Act.put, List.setIfInBounds_toArray, List.set_cons_zero, List.set_cons_succ])
    | (go_at_call 14; refine (rgood_calls pa pb pc im AX nx cx its _ _ a0 b0 c0 rfl HIM.out (Kd.C_below HX.out Q0.below) HGD.out HM.out hc70 HSM.out).mono ?_; rw [HGI.out]; rintro e w1 ⟨v, rfl, hO, hB⟩; have Q1 := Q0.call hB; obtain ⟨B1, cp1, rfl, hcp1, hr1⟩ := Kd.R_reads hO; have HR1 := Aside0.mk hr1; clear hO hB hr1 hcp1)
    | (go_at_call 20; refine (rbytes_calls a0 b0 c0 im B1 GI.length cp1 GI _ w1 rfl HIM.out HR1.out HMG.out HIB.out HBG.out).mono ?_; rintro e w2 ⟨v2, rfl, hO2, hB2⟩; obtain ⟨Y, HY, hO3⟩ : ∃ ys, Aside0 (ys = xbytes a0 b0 c0 im GI) ∧ OwB w2 w1.heap.size v2 ys := ⟨_, ⟨rfl⟩, hO2⟩; have lY : 41 ≤ Y.length ∧ Y.length ≤ 280 := (by rw [HY.out]; unfold xbytes; rw [cput_length, xbody_len HIM.out HNG.out]; omega); have bY : Bytes Y := (by rw [HY.out]; exact cput_bytes (xbody_bytes HIB.out HBG.out)); obtain ⟨gy, c2, hv2, hg1, hg2⟩ := OwB.place hO3 (by omega); have hB03 := Aside0.mk (Q1.call hB2).below; have O2' := Aside0.mk hO3; clear hO2 hO3 hB2 hg1 hg2; subst hv2)
    | (go_at_call 10; refine (around_calls at_ (Y.length : Int) _ ha0 ha1 (by omega) (by omega)).mono ?_; rintro e w4 ⟨rfl, rfl⟩; obtain ⟨k0, k1⟩ := around_range at_ (Y.length : Int) (by omega); generalize around at_ (Y.length : Int) = kk at *))
  clear Q0 Q1 HY
  have P2 := OwB.parts O2'.out
  refine (few_new (some ⟨gy, 0, none⟩) _ c2 Y 400 _ P2.2 P2.1 bY (by omega) (by omega)).mono ?_
  rintro e w5 ⟨A5, c5, Z, rfl, EZ, b5, O5, hd5, l5, R5, hB5⟩
  obtain rfl : Z = Y := by rw [EZ.out, List.take_of_length_le (by simp; omega)]
  clear EZ R5 l5 hd5 P2
  obtain ⟨g, c5', hv, hg1, hg2⟩ := OwB.place O5.out (by omega)
  obtain ⟨rfl, _, rfl⟩ : A5 = some ⟨g, 0, none⟩ ∧ True ∧ c5 = c5' := by simpa using hv
  clear hv
  obtain ⟨hcell, hfz⟩ := OwB.cell O5.out kk k0 k1
  have O6 := Aside0.mk (OwB.store O5.out kk ch)
  have O2s := Aside0.mk ((O2'.out.below hB5).far (p := ⟨g, kk.toNat, none⟩) (by exact O2'.out.lt g hg1) (.int .u8 ch))
  have bS := Aside0.mk (Bytes.set bY kk.toNat h0 h1)
  have hBw := Below.setCell (below_tr' hB03.out hB5) (p := ⟨g, kk.toNat, none⟩) (show w.heap.size ≤ g by have := hB03.out.size; omega) (.int .u8 ch)
  go_wp2_with fail
  clear hcell hfz hg2 O5 O2' hB5
  have P2 := Aside0.mk (OwB.parts O2s.out)
  have P6 := Aside0.mk (OwB.parts O6.out)
  clear O6 O2s
  generalize hw6 : w5.setCell ⟨g, kk.toNat, none⟩ (.int .u8 ch) = w6 at *
  clear hw6
  refine (few_new A n c xs 120 _ (Kd.C_below H.out hBw) hc hb (by omega) (by omega)).mono ?_
  rintro e w9 ⟨A9, c9, F, rfl, EF, b9, O9, hd9, l9, R9, hB9⟩
  clear EF O9 H
  simp only [Int.reduceToNat] at l9
  go_wp2_with fail
  refine (few_new (some ⟨gy, 0, none⟩) _ c2 Z 400 _ (Kd.C_below P2.out.2 hB9) P2.out.1 bY (by omega) (by omega)).mono ?_
  rintro e w7 ⟨A7, c7, Y7, rfl, EZ, b7, O7, hd7, l7, R7, hB7⟩
  obtain rfl : Y7 = Z := by rw [EZ.out, List.take_of_length_le (by simp; omega)]
  clear EZ R7 l7 hd7
  go_wp2_with (at_builtin; refine appB (w0 := w9) w9.heap.size rfl (.tmp 36) (.tmp 38) rfl _ Y7 ch rfl rfl O7.out hB7 hB7.size (by omega) ?_; intro v8 w8 hO8 hB8 _ _)
  obtain ⟨A8, c8, rfl, hd8, r8⟩ := OwB.reads hO8
  have bM := b7.append (Bytes.one h0 h1)
  have lM : (Y7 ++ [ch]).length ≤ 300 := by simp; omega
  have HB9 := Aside0.mk (below_tr hBw hB9 hBw.size)
  have HB8 := Aside0.mk (below_tr HB9.out (show Below w9.heap.size w9 w8 from hB8) HB9.out.size)
  have R8 := Aside0.mk r8
  have r9 := Aside0.mk (Kd.C_below R9.out hB8)
  have r2 := Aside0.mk (Kd.C_below (Kd.C_below P2.out.2 hB9) hB8)
  have r6 := Aside0.mk (Kd.C_below (Kd.C_below P6.out.2 hB9) hB8)
  have hc2 := P2.out.1
  have hc6 := P6.out.1
  have hSl : (Y7.set kk.toNat ch).length = Y7.length := List.length_set
  have bS' := bS.out
  generalize hM : Y7 ++ [ch] = M at *
  generalize hS : Y7.set kk.toNat ch = SS at *
  clear hM hS O7 hB7 hO8 r8 P2 P6 hBw hB8 hB9 R9 bS
  obtain ⟨hcut, rcut⟩ := cutTo r2.out hc2 kk k0 (by omega)
  have rk := Aside0.mk rcut
  clear rcut
  obtain ⟨hcut2, rcut2⟩ := cutTo r6.out hc6 ((Y7.length : Int) - 4) (by omega) (by omega)
  have ej : ((Y7.length : Int) - 4).toNat = Y7.length - 4 := by omega
  rw [ej] at rcut2
  simp only [ej] at hcut2
  have ro := Aside0.mk rcut2
  clear rcut2
  have hwr : IntKind.i64.wrap ((Y7.length : Int) - 4) = (Y7.length : Int) - 4 := by rw [IntKind.wrap_i64]; omega
  refine seq_startN [] (.take 0 (.take 1 (.take 3 (.take 4 (.take 5 (.take 6 (.take 7 (.take 8 (.take 9 (.take 10 (.take 11 (.take 12 (.take 13 (.take 15 (.take 16 (.take 17 (.run 2 (.run 14 (.run 18 (.run 19 (.take 20 .done))))))))))))))))))))) (by kernel_rfl) (by kernel_rfl) ?_
  refine seq_take (v := ?_) (a' := ?_) rfl rfl (by rfl) (fun w' hw' => ?_) ?_ ?_
  rotate_left 2
  · go_simp
    with_reducible rfl
  · simp only [Act.put, List.setIfInBounds_toArray, List.set_cons_zero, List.set_cons_succ, Go.Proofs.YtdfahblgnbdndaaDoorW.PrintLast.i64_w, Go.Proofs.YtdfahblgnbdndaaDoorW.PrintLast.i32_w]
    rfl
  refine seq_take (v := ?_) (a' := ?_) rfl rfl (by rfl) (fun w' hw' => ?_) ?_ ?_
  rotate_left 2
  · go_simp
    with_reducible rfl
  · simp only [Act.put, List.setIfInBounds_toArray, List.set_cons_zero, List.set_cons_succ, Go.Proofs.YtdfahblgnbdndaaDoorW.PrintLast.i64_w, Go.Proofs.YtdfahblgnbdndaaDoorW.PrintLast.i32_w]
    rfl
  refine seq_take (v := ?_) (a' := ?_) rfl rfl (by rfl) (fun w' hw' => ?_) ?_ ?_
  rotate_left 2
  · go_simp
    with_reducible rfl
  · simp only [Act.put, List.setIfInBounds_toArray, List.set_cons_zero, List.set_cons_succ, Go.Proofs.YtdfahblgnbdndaaDoorW.PrintLast.i64_w, Go.Proofs.YtdfahblgnbdndaaDoorW.PrintLast.i32_w]
    rfl
  refine seq_take (v := ?_) (a' := ?_) rfl rfl (by rfl) (fun w' hw' => ?_) ?_ ?_
  rotate_left 2
  · go_simp
    with_reducible rfl
  · simp only [Act.put, List.setIfInBounds_toArray, List.set_cons_zero, List.set_cons_succ, Go.Proofs.YtdfahblgnbdndaaDoorW.PrintLast.i64_w, Go.Proofs.YtdfahblgnbdndaaDoorW.PrintLast.i32_w]
    rfl
  refine seq_take (v := ?_) (a' := ?_) rfl rfl (by rfl) (fun w' hw' => ?_) ?_ ?_
  rotate_left 2
  · go_simp
    with_reducible rfl
  · simp only [Act.put, List.setIfInBounds_toArray, List.set_cons_zero, List.set_cons_succ, Go.Proofs.YtdfahblgnbdndaaDoorW.PrintLast.i64_w, Go.Proofs.YtdfahblgnbdndaaDoorW.PrintLast.i32_w]
    rfl
  refine seq_take (v := ?_) (a' := ?_) rfl rfl (by rfl) (fun w' hw' => ?_) ?_ ?_
  rotate_left 2
  · go_simp
    with_reducible rfl
  · simp only [Act.put, List.setIfInBounds_toArray, List.set_cons_zero, List.set_cons_succ, Go.Proofs.YtdfahblgnbdndaaDoorW.PrintLast.i64_w, Go.Proofs.YtdfahblgnbdndaaDoorW.PrintLast.i32_w]
    rfl
  refine seq_take (v := ?_) (a' := ?_) rfl rfl (by rfl) (fun w' hw' => ?_) ?_ ?_
  rotate_left 2
  · go_simp
    with_reducible rfl
  · simp only [Act.put, List.setIfInBounds_toArray, List.set_cons_zero, List.set_cons_succ, Go.Proofs.YtdfahblgnbdndaaDoorW.PrintLast.i64_w, Go.Proofs.YtdfahblgnbdndaaDoorW.PrintLast.i32_w]
    rfl
  refine seq_take (v := ?_) (a' := ?_) rfl rfl (by rfl) (fun w' hw' => ?_) ?_ ?_
  rotate_left 2
  · go_simp
    with_reducible rfl
  · simp only [Act.put, List.setIfInBounds_toArray, List.set_cons_zero, List.set_cons_succ, Go.Proofs.YtdfahblgnbdndaaDoorW.PrintLast.i64_w, Go.Proofs.YtdfahblgnbdndaaDoorW.PrintLast.i32_w]
    rfl
  refine seq_take (v := ?_) (a' := ?_) rfl rfl (by rfl) (fun w' hw' => ?_) ?_ ?_
  rotate_left 2
  · go_simp
    with_reducible rfl
  · simp only [Act.put, List.setIfInBounds_toArray, List.set_cons_zero, List.set_cons_succ, Go.Proofs.YtdfahblgnbdndaaDoorW.PrintLast.i64_w, Go.Proofs.YtdfahblgnbdndaaDoorW.PrintLast.i32_w]
    rfl
  refine seq_take (v := ?_) (a' := ?_) rfl rfl (by rfl) (fun w' hw' => ?_) ?_ ?_
  rotate_left 2
  · go_simp
    with_reducible rfl
  · simp only [Act.put, List.setIfInBounds_toArray, List.set_cons_zero, List.set_cons_succ, Go.Proofs.YtdfahblgnbdndaaDoorW.PrintLast.i64_w, Go.Proofs.YtdfahblgnbdndaaDoorW.PrintLast.i32_w]
    rfl
  refine seq_take (v := ?_) (a' := ?_) rfl rfl (by rfl) (fun w' hw' => ?_) ?_ ?_
  rotate_left 2
  · go_simp
    with_reducible rfl
  · simp only [Act.put, List.setIfInBounds_toArray, List.set_cons_zero, List.set_cons_succ, Go.Proofs.YtdfahblgnbdndaaDoorW.PrintLast.i64_w, Go.Proofs.YtdfahblgnbdndaaDoorW.PrintLast.i32_w]
    rfl
  refine seq_take (v := ?_) (a' := ?_) rfl rfl (by rfl) (fun w' hw' => ?_) ?_ ?_
  rotate_left 2
  · go_simp
    with_reducible rfl
  · simp only [Act.put, List.setIfInBounds_toArray, List.set_cons_zero, List.set_cons_succ, Go.Proofs.YtdfahblgnbdndaaDoorW.PrintLast.i64_w, Go.Proofs.YtdfahblgnbdndaaDoorW.PrintLast.i32_w]
    rfl
  refine seq_take (v := ?_) (a' := ?_) rfl rfl (by rfl) (fun w' hw' => ?_) ?_ ?_
  rotate_left 2
  · go_simp
    with_reducible rfl
  · simp only [Act.put, List.setIfInBounds_toArray, List.set_cons_zero, List.set_cons_succ, Go.Proofs.YtdfahblgnbdndaaDoorW.PrintLast.i64_w, Go.Proofs.YtdfahblgnbdndaaDoorW.PrintLast.i32_w]
    rfl
  refine seq_take (v := ?_) (a' := ?_) rfl rfl (by rfl) (fun w' hw' => ?_) ?_ ?_
  rotate_left 2
  · go_simp
    with_reducible rfl
  · simp only [Act.put, List.setIfInBounds_toArray, List.set_cons_zero, List.set_cons_succ, Go.Proofs.YtdfahblgnbdndaaDoorW.PrintLast.i64_w, Go.Proofs.YtdfahblgnbdndaaDoorW.PrintLast.i32_w]
    rfl
  refine seq_take (v := ?_) (a' := ?_) rfl rfl (by rfl) (fun w' hw' => ?_) ?_ ?_
  rotate_left 2
  · go_simp
    with_reducible rfl
  · simp only [Act.put, List.setIfInBounds_toArray, List.set_cons_zero, List.set_cons_succ, Go.Proofs.YtdfahblgnbdndaaDoorW.PrintLast.i64_w, Go.Proofs.YtdfahblgnbdndaaDoorW.PrintLast.i32_w]
    rfl
  refine seq_take (v := ?_) (a' := ?_) rfl rfl (by rfl) (fun w' hw' => ?_) ?_ ?_
  rotate_left 2
  · go_simp
    with_reducible rfl
  · simp only [Act.put, List.setIfInBounds_toArray, List.set_cons_zero, List.set_cons_succ, Go.Proofs.YtdfahblgnbdndaaDoorW.PrintLast.i64_w, Go.Proofs.YtdfahblgnbdndaaDoorW.PrintLast.i32_w]
    rfl
  refine seq_run ?_
  refine do_call rfl rfl (by rfl) rfl Tryd.func30 (by kernel_rfl) rfl #[.slice A9 F.length c9] (by simp only [List.map_toArray, List.map_cons, List.map_nil]; rfl) ?_
  with_reducible refine (rput_new A9 _ c9 F _ (Kd.C_drew r9.out) b9 (by omega)).mono ?_
  rintro e x1 ⟨B1, d1, P1, rfl, bP1, hd1, lP1, rP1, hC1⟩
  refine ⟨_, ?_, rfl, ?_, fun _ => hC1, ?_⟩
  rotate_left
  · simp only [Act.put, List.setIfInBounds_toArray, List.set_cons_zero, List.set_cons_succ, Go.Proofs.YtdfahblgnbdndaaDoorW.PrintLast.i64_w, Go.Proofs.YtdfahblgnbdndaaDoorW.PrintLast.i32_w]
    rfl
  refine seq_run ?_
  refine do_call rfl rfl (by rfl) rfl Tryd.func30 (by kernel_rfl) rfl #[.slice (some ⟨g, 0, none⟩) (Y7.length - 4) c5] (by simp only [List.map_toArray, List.map_cons, List.map_nil]; rfl) ?_
  with_reducible refine (rput_new (some ⟨g, 0, none⟩) _ c5 (SS.take (Y7.length - 4)) _ (Kd.C_below (Kd.C_drew ro.out) hC1) (bS'.take _) (by omega)).mono ?_
  rintro e x2 ⟨B2, d2, P2, rfl, bP2, hd2, lP2, rP2, hC2⟩
  refine ⟨_, ?_, rfl, ?_, fun _ => hC2, ?_⟩
  rotate_left
  · simp only [Act.put, List.setIfInBounds_toArray, List.set_cons_zero, List.set_cons_succ, Go.Proofs.YtdfahblgnbdndaaDoorW.PrintLast.i64_w, Go.Proofs.YtdfahblgnbdndaaDoorW.PrintLast.i32_w]
    rfl
  refine seq_run ?_
  refine do_call rfl rfl (by rfl) rfl Tryd.func30 (by kernel_rfl) rfl #[.slice (some ⟨gy, 0, none⟩) kk.toNat c2] (by simp only [List.map_toArray, List.map_cons, List.map_nil]; rfl) ?_
  with_reducible refine (rput_new (some ⟨gy, 0, none⟩) _ c2 (Y7.take kk.toNat) _ (Kd.C_below (Kd.C_below (Kd.C_drew rk.out) hC1) hC2) (bY.take _) (by omega)).mono ?_
  rintro e x3 ⟨B3, d3, P3, rfl, bP3, hd3, lP3, rP3, hC3⟩
  refine ⟨_, ?_, rfl, ?_, fun _ => hC3, ?_⟩
  rotate_left
  · simp only [Act.put, List.setIfInBounds_toArray, List.set_cons_zero, List.set_cons_succ, Go.Proofs.YtdfahblgnbdndaaDoorW.PrintLast.i64_w, Go.Proofs.YtdfahblgnbdndaaDoorW.PrintLast.i32_w]
    rfl
  refine seq_run ?_
  refine do_val (v := ?_) (a' := ?_) (w1 := ?_) rfl rfl (by rfl) ?_ ?_ ?_
  rotate_left 3
  · go_simp
    constructor <;> rfl
  · simp only [Act.put, List.setIfInBounds_toArray, List.set_cons_zero, List.set_cons_succ, Go.Proofs.YtdfahblgnbdndaaDoorW.PrintLast.i64_w, Go.Proofs.YtdfahblgnbdndaaDoorW.PrintLast.i32_w]
    rfl
  refine ⟨fun _ => below_alloc (Below.refl _ _) _, ?_⟩
  refine seq_take (v := ?_) (a' := ?_) rfl rfl (by rfl) (fun w' hw' => ?_) ?_ ?_
  rotate_left 2
  · go_simp
    with_reducible rfl
  · simp only [Act.put, List.setIfInBounds_toArray, List.set_cons_zero, List.set_cons_succ, Go.Proofs.YtdfahblgnbdndaaDoorW.PrintLast.i64_w, Go.Proofs.YtdfahblgnbdndaaDoorW.PrintLast.i32_w]
    rfl
  refine seq_endN ?_
  have HD3 : Aside0 (Below w8.heap.size w8 x3) := ⟨below_tr' (below_tr' ((Below.drew (Below.refl _ _)).trans hC1) hC2) hC3⟩
  have l1 := lP1.out
  have l2 : P2.length ≤ 300 := by have := lP2.out; rw [this, List.length_take]; omega
  have l3 : P3.length ≤ 300 := by have := lP3.out; rw [this, List.length_take]; omega
  have hT : ToldB (x3.alloc (.cells #[.slice A9 F.length c9, .slice B1 P1.length d1, .slice (some ⟨gy, 0, none⟩) Y7.length c2, .slice (some ⟨g, 0, none⟩) Y7.length c5, .slice (some ⟨gy, 0, none⟩) kk.toNat c2, .slice A8 M.length c8, .slice B2 P2.length d2, .slice B3 P3.length d3] 33)) x3.heap.size 8 := by
    have hcell := fun (j : Nat) => World.cell?_alloc_mark x3 #[Value.slice A9 F.length c9, .slice B1 P1.length d1, .slice (some ⟨gy, 0, none⟩) Y7.length c2, .slice (some ⟨g, 0, none⟩) Y7.length c5, .slice (some ⟨gy, 0, none⟩) kk.toNat c2, .slice A8 M.length c8, .slice B2 P2.length d2, .slice B3 P3.length d3] 33 (0, 0) j
    have hup : ∀ {A n ys}, RdB w8 A n ys → RdB (x3.alloc (.cells #[.slice A9 F.length c9, .slice B1 P1.length d1, .slice (some ⟨gy, 0, none⟩) Y7.length c2, .slice (some ⟨g, 0, none⟩) Y7.length c5, .slice (some ⟨gy, 0, none⟩) kk.toNat c2, .slice A8 M.length c8, .slice B2 P2.length d2, .slice B3 P3.length d3] 33)) A n ys := fun h => Kd.C_alloc (Kd.C_below h HD3.out) _
    intro i hi
    match i, hi with
    | 0, _ => exact ⟨_, _, _, _, hcell 0, hup r9.out, hd9, b9, by omega⟩
    | 1, _ => exact ⟨_, _, _, _, hcell 1, Kd.C_alloc (Kd.C_below (Kd.C_below rP1.out hC2) hC3) _, hd1, bP1, by omega⟩
    | 2, _ => exact ⟨_, _, _, _, hcell 2, hup r2.out, hc2, bY, by omega⟩
    | 3, _ => exact ⟨_, _, _, _, hcell 3, hup r6.out, hc6, bS', by omega⟩
    | 4, _ => exact ⟨_, _, _, _, hcell 4, hup rk.out, by omega, bY.take _, by omega⟩
    | 5, _ => exact ⟨_, _, _, _, hcell 5, hup R8.out, hd8, bM, by omega⟩
    | 6, _ => exact ⟨_, _, _, _, hcell 6, Kd.C_alloc (Kd.C_below rP2.out hC3) _, hd2, bP2, by omega⟩
    | 7, _ => exact ⟨_, _, _, _, hcell 7, Kd.C_alloc rP3.out _, hd3, bP3, by omega⟩
  have hBT := Below.alloc (below_tr HB8.out HD3.out HB8.out.size) (below_tr HB8.out HD3.out HB8.out.size).size (.cells #[.slice A9 F.length c9, .slice B1 P1.length d1, .slice (some ⟨gy, 0, none⟩) Y7.length c2, .slice (some ⟨g, 0, none⟩) Y7.length c5, .slice (some ⟨gy, 0, none⟩) kk.toNat c2, .slice A8 M.length c8, .slice B2 P2.length d2, .slice B3 P3.length d3] 33)
  have HT := Aside0.mk hT
  have HBT := Aside0.mk hBT
  generalize hG : x3.heap.size = G at *
  generalize hw10 : x3.alloc (.cells #[.slice A9 F.length c9, .slice B1 P1.length d1, .slice (some ⟨gy, 0, none⟩) Y7.length c2, .slice (some ⟨g, 0, none⟩) Y7.length c5, .slice (some ⟨gy, 0, none⟩) kk.toNat c2, .slice A8 M.length c8, .slice B2 P2.length d2, .slice B3 P3.length d3] 33) = w10 at *
  clear hw10 hT hBT r9 r2 r6 rk ro R8 HD3 hC1 hC2 hC3 HB8 HB9 hG hcut hcut2 hwr b9 bS' bM bP1 bP2 bP3 rP1 rP2 rP3 lP1 lP2 lP3 l1 l2 l3 bY b5 b7 hB03
  go_wp2_with fail
  go_loopw [15] (fun i wr => ∃ j : Nat, j ≤ 8 ∧ i = .int .i64 j ∧ Below w10.heap.size w10 wr) (fun i _ => 8 - (intOf i).toNat)
  case atStart => exact ⟨0, by omega, rfl, Below.refl _ _⟩
  case round =>
    obtain ⟨j, hj, rfl, hBr⟩ := hrel
    have HBr := Aside0.mk hBr
    clear hBr
    by_cases hlt : j < 8
    · obtain ⟨Aj, nj, cj, ys, hcj, hrj, hcc, hbj, hlj⟩ := (HT.out.below HBr.out) j hlt
      have Hr := Aside0.mk hrj
      have Hb := Aside0.mk hbj
      clear hrj hbj
      go_wp2_with (first
        | (go_at_call 31; refine (iread_calls Aj nj cj ys _ Hr.out hcc Hb.out (by omega)).mono ?_; rintro e u1 ⟨a5, b5', c5a, im5, its5, er5, A5, n5, c5', hn5, hnl5, rfl, hR5, hE5, hB5⟩; have E1 := Aside0.mk (below_tr HBr.out hB5 HBr.out.size); have Hr1 := Aside0.mk (Kd.C_below Hr.out hB5); have hcj1 := pw_cell_below hB5 hcj; have HN5 := Aside0.mk hn5; clear hB5 hcj hn5)
        | ((with_reducible refine at_al 29 ?_); refine new_x rfl rfl rfl rfl (.tmp 72) rfl (of_decide_eq_true rfl) rfl HN5.out rfl ?_; rintro u2 g2 N2; have E2 := Aside0.mk (below_tr E1.out N2.below E1.out.size); have Hr2 := Aside0.mk (Kd.C_below Hr1.out N2.below); have hR6 := Aside0.mk (Kd.C_below hR5.out N2.below); have hcj2 := pw_cell_below N2.below hcj1; have HX2 := Aside0.mk N2.at_; clear N2 hcj1 hR5)
        | (go_at_call 32; refine (rread_calls Aj nj cj ys u2 Hr2.out hcc Hb.out (by omega)).mono ?_; rintro e u3 ⟨a6, b6, c6, im6, its6, er6, A6, n6, c6', hn6, hnl6, rfl, hR9, hE6, hB6⟩; have hEE := hE5.out.trans hE6.out.symm; simp only [Prod.mk.injEq] at hEE; obtain ⟨e1, e2, e3, e4, e5, e6⟩ := hEE; subst a6; subst b6; subst c6; subst im6; subst its6; subst er6; have E3 := Aside0.mk (below_tr E2.out hB6 E2.out.size); have hR7 := Aside0.mk (Kd.C_below hR6.out hB6); have HX3 := Aside0.mk (blk_below hB6 HX2.out); clear hB6 hn6)
        | ((with_reducible refine at_al 38 ?_); refine new_rx rfl rfl rfl rfl (.tmp 80) rfl (of_decide_eq_true rfl) rfl HN5.out rfl ?_; rintro u4 g4 N4; have E4 := Aside0.mk (below_tr E3.out N4.below E3.out.size); have hR8 := Aside0.mk (Kd.C_below hR7.out N4.below); have hR10 := Aside0.mk (Kd.C_below hR9.out N4.below); have HX4 := Aside0.mk (blk_below N4.below HX3.out); have HY4 := Aside0.mk N4.at_; clear N4)
        | fail)
      have E4d := Aside0.mk (Below.drew E4.out)
      refine seq_startN [] (.take 0 (.take 1 (.take 2 (.take 3 (.take 4 (.take 6 (.run 5 (.run 7 (.take 8 (.take 9 .done)))))))))) (by kernel_rfl) (by kernel_rfl) ?_
      refine seq_take (v := ?_) (a' := ?_) rfl rfl (by rfl) (fun w' hw' => ?_) ?_ ?_
      rotate_left 2
      · go_simp
        with_reducible rfl
      · simp only [Act.put, List.setIfInBounds_toArray, List.set_cons_zero, List.set_cons_succ, Go.Proofs.YtdfahblgnbdndaaDoorW.PrintLast.i64_w, Go.Proofs.YtdfahblgnbdndaaDoorW.PrintLast.i32_w]
        rfl
      refine seq_take (v := ?_) (a' := ?_) rfl rfl (by rfl) (fun w' hw' => ?_) ?_ ?_
      rotate_left 2
      · go_simp
        with_reducible rfl
      · simp only [Act.put, List.setIfInBounds_toArray, List.set_cons_zero, List.set_cons_succ, Go.Proofs.YtdfahblgnbdndaaDoorW.PrintLast.i64_w, Go.Proofs.YtdfahblgnbdndaaDoorW.PrintLast.i32_w]
        rfl
      refine seq_take (v := ?_) (a' := ?_) rfl rfl (by rfl) (fun w' hw' => ?_) ?_ ?_
      rotate_left 2
      · go_simp
        with_reducible rfl
      · simp only [Act.put, List.setIfInBounds_toArray, List.set_cons_zero, List.set_cons_succ, Go.Proofs.YtdfahblgnbdndaaDoorW.PrintLast.i64_w, Go.Proofs.YtdfahblgnbdndaaDoorW.PrintLast.i32_w]
        rfl
      refine seq_take (v := ?_) (a' := ?_) rfl rfl (by rfl) (fun w' hw' => ?_) ?_ ?_
      rotate_left 2
      · go_simp
        with_reducible rfl
      · simp only [Act.put, List.setIfInBounds_toArray, List.set_cons_zero, List.set_cons_succ, Go.Proofs.YtdfahblgnbdndaaDoorW.PrintLast.i64_w, Go.Proofs.YtdfahblgnbdndaaDoorW.PrintLast.i32_w]
        rfl
      refine seq_take (v := _) (a' := ?_) rfl rfl (by rfl) (fun w' hw' => load_run rfl (p := .pointer (some ⟨g2, 0, none⟩)) rfl (ld_row (hw'.heap (w := u4.drew) HX4.out) 29 _ Tryd.underlying29 rfl (by rw [List.size_toArray]; exact size_X HN5.out))) ?_ ?_
      rotate_left
      · simp only [Act.put, List.setIfInBounds_toArray, List.set_cons_zero, List.set_cons_succ, Go.Proofs.YtdfahblgnbdndaaDoorW.PrintLast.i64_w, Go.Proofs.YtdfahblgnbdndaaDoorW.PrintLast.i32_w]
        rfl
      refine seq_take (v := _) (a' := ?_) rfl rfl (by rfl) (fun w' hw' => load_run rfl (p := .pointer (some ⟨g4, 0, none⟩)) rfl (ld_rx (hw'.heap (w := u4.drew) HY4.out) HN5.out)) ?_ ?_
      rotate_left
      · simp only [Act.put, List.setIfInBounds_toArray, List.set_cons_zero, List.set_cons_succ, Go.Proofs.YtdfahblgnbdndaaDoorW.PrintLast.i64_w, Go.Proofs.YtdfahblgnbdndaaDoorW.PrintLast.i32_w]
        rfl
      refine seq_run ?_
      refine do_call rfl rfl (by rfl) rfl Tryd.func25 (by kernel_rfl) rfl #[.agg (Xc a5 b5' c5a im5 (.slice A5 n5 c5')).toArray] (by simp only [List.map_toArray, List.map_cons, List.map_nil]; rfl) ?_
      with_reducible refine (xas_calls a5 b5' c5a im5 A5 n5 c5' _ _ rfl HN5.out).mono ?_
      rintro e u5 ⟨rfl, hC5⟩
      refine ⟨_, ?_, rfl, ?_, fun _ => hC5, ?_⟩
      rotate_left
      · simp only [Act.put, List.setIfInBounds_toArray, List.set_cons_zero, List.set_cons_succ, Go.Proofs.YtdfahblgnbdndaaDoorW.PrintLast.i64_w, Go.Proofs.YtdfahblgnbdndaaDoorW.PrintLast.i32_w]
        rfl
      have E5 := Aside0.mk (below_tr E4d.out hC5 E4d.out.size)
      refine seq_run ?_
      refine do_call rfl rfl (by rfl) rfl Tryd.func24 (by kernel_rfl) rfl #[.agg (Xc a5 b5' c5a im5 (.slice A5 n5 c5')).toArray, .agg (Xc a5 b5' c5a im5 (.slice A6 n6 c6')).toArray] (by simp only [List.map_toArray, List.map_cons, List.map_nil]; rfl) ?_
      with_reducible refine (rsame_calls a5 b5' c5a a5 b5' c5a im5 im5 A5 A6 n5 c5' n6 c6' its5 its5 _ _ _ rfl rfl HN5.out HN5.out (Kd.C_below (Kd.C_drew hR8.out) hC5) (Kd.C_below (Kd.C_drew hR10.out) hC5) (by omega) (by omega)).mono ?_
      rintro e u6 ⟨rfl, hC6⟩
      refine ⟨_, ?_, rfl, ?_, fun _ => hC6, ?_⟩
      rotate_left
      · simp only [Act.put, List.setIfInBounds_toArray, List.set_cons_zero, List.set_cons_succ, Go.Proofs.YtdfahblgnbdndaaDoorW.PrintLast.i64_w, Go.Proofs.YtdfahblgnbdndaaDoorW.PrintLast.i32_w]
        rfl
      have E6 := Aside0.mk (below_tr E5.out hC6 E5.out.size)
      clear hC5 hC6
      rw [sameX_self]
      refine seq_take (v := ?_) (a' := ?_) rfl rfl (by rfl) (fun w' hw' => ?_) ?_ ?_
      rotate_left 2
      · go_simp
        with_reducible rfl
      · simp only [Act.put, List.setIfInBounds_toArray, List.set_cons_zero, List.set_cons_succ, Go.Proofs.YtdfahblgnbdndaaDoorW.PrintLast.i64_w, Go.Proofs.YtdfahblgnbdndaaDoorW.PrintLast.i32_w]
        rfl
      refine seq_take (v := ?_) (a' := ?_) rfl rfl (by rfl) (fun w' hw' => ?_) ?_ ?_
      rotate_left 2
      · go_simp
        with_reducible rfl
      · simp only [Act.put, List.setIfInBounds_toArray, List.set_cons_zero, List.set_cons_succ, Go.Proofs.YtdfahblgnbdndaaDoorW.PrintLast.i64_w, Go.Proofs.YtdfahblgnbdndaaDoorW.PrintLast.i32_w]
        rfl
      refine seq_endN ?_
      go_wp2
      go_roundw
      case rel => exact ⟨j + 1, by omega, by go_num, E6.out⟩
      case measure => simp [intOf]; omega
    · obtain rfl : j = 8 := by omega
      go_wp2_with (go_at_call 13; refine (xlives_calls wr ((HK.out.below HBT.out).below HBr.out)).mono ?_; rintro e u1 ⟨rfl, hC1⟩)
      go_ret
      exact ⟨rfl, below_tr (below_tr HBT.out HBr.out HBT.out.size) hC1 (below_tr HBT.out HBr.out HBT.out.size).size⟩
end Go.Proofs.YtdfahblgnbdndaaDoor
