/- The walk of the law CrcTakes. Conditions: what each argument reads. -/
import Derived.Test.YtjofeklfpobemaaCrcLaws
namespace Go.Proofs.Ytjofeklfpobemaa
open Go.RowKit Go.Proofs.YtjofeklfpobemaaW.PrintWords Go.Proofs.YtjofeklfpobemaaW.PrintMore
set_option linter.unusedVariables false
set_option linter.unusedSimpArgs false

/-- Five slices of bytes that are told one by one. -/
def Told (w : World) (g : Nat) (m : Nat) : Prop := ∀ i : Nat, i < m → ∃ A n c ys, w.cell? ⟨g, i, none⟩ = some (.slice A n c) ∧ RdB w A n ys ∧ n ≤ c ∧ Bytes ys ∧ n ≤ 1000
theorem Told.below {w w1 : World} {g m : Nat} (h : Told w g m) (hb : Below w.heap.size w w1) : Told w1 g m := fun i hi => by
  obtain ⟨A, n, c, ys, h1, h2, h3⟩ := h i hi
  exact ⟨A, n, c, ys, pw_cell_below hb h1, Kd.C_below h2 hb, h3⟩

set_option maxHeartbeats 1000000 in
set_option maxRecDepth 100000 in
theorem crcTakes_walk (A : Option Addr) (n c : Nat) (xs : List Int) (at_ ch : Int) (w : World) (h : RdB w A n xs) (hc : n ≤ c) (hb : Bytes xs) (ha0 : -9223372036854775808 ≤ at_) (ha1 : at_ ≤ 9223372036854775807) (h0 : 0 ≤ ch) (h1 : ch < 256) :
    Calls Try.prog 7 #[.slice A n c, .int .i64 at_, .int .u8 ch] w fun e w' => e = .returned (.bool true) ∧ Below w.heap.size w w' := by
  have H := Aside0.mk h
  clear h
  go_enter Try.func7, Try.ntmps7
  go_wp2_with fail
  refine (few_new A n c xs 20 _ H.out hc hb (by omega) (by omega)).mono ?_
  rintro e w1 ⟨A1, c1, X, rfl, EX, b1, O1, hd1, l1, R1, hB1⟩
  simp only [Int.reduceToNat] at l1
  go_wp2_with fail
  refine (put_new A1 _ c1 X _ R1.out b1 (by omega)).mono ?_
  rintro e w2 ⟨A2, c2, Y, rfl, EY, bY, O2, hd2, l2, R2, hB2⟩
  have lY : 4 ≤ Y.length ∧ Y.length ≤ 24 := by have := l2.out; omega
  obtain ⟨lY0, lY1⟩ := lY
  have hBB := below_tr' hB1 hB2
  have HS1 := Aside0.mk hB1.size
  have HS2 := Aside0.mk hB2.size
  have R1' := Aside0.mk (Kd.C_below R1.out hB2)
  clear R1 EX O1 hB1 hB2
  go_wp2_with fail
  refine seq_start [(true, 0), (true, 1), (true, 2), (false, 3), (true, 4), (true, 5), (true, 6), (true, 7), (true, 8), (true, 9), (true, 10)] (by kernel_rfl) (by kernel_rfl) (fun _ _ d _ _ h => by cases d <;> exact h) ?_
  refine seq_take (v := ?_) (a' := ?_) rfl rfl (by rfl) (fun w' hw' => ?_) ?_ ?_
  rotate_left 2
  · go_simp
    with_reducible rfl
  · simp only [Act.put, List.setIfInBounds_toArray, List.set_cons_zero, List.set_cons_succ, Go.Proofs.YtjofeklfpobemaaW.PrintLast.i64_w, Go.Proofs.YtjofeklfpobemaaW.PrintLast.i32_w]
    rfl
  refine seq_take (v := ?_) (a' := ?_) rfl rfl (by rfl) (fun w' hw' => ?_) ?_ ?_
  rotate_left 2
  · have he := conv_str (Kd.C_below (Kd.C_drew R2.out) hw') c2; go_simp
    with_reducible rfl
  · simp only [Act.put, List.setIfInBounds_toArray, List.set_cons_zero, List.set_cons_succ, Go.Proofs.YtjofeklfpobemaaW.PrintLast.i64_w, Go.Proofs.YtjofeklfpobemaaW.PrintLast.i32_w]
    rfl
  refine seq_take (v := ?_) (a' := ?_) rfl rfl (by rfl) (fun w' hw' => ?_) ?_ ?_
  rotate_left 2
  · go_simp
    with_reducible rfl
  · simp only [Act.put, List.setIfInBounds_toArray, List.set_cons_zero, List.set_cons_succ, Go.Proofs.YtjofeklfpobemaaW.PrintLast.i64_w, Go.Proofs.YtjofeklfpobemaaW.PrintLast.i32_w]
    rfl
  refine seq_call rfl rfl (by rfl) rfl Try.func17 (by kernel_rfl) rfl #[.slice A1 X.length c1] (by simp only [List.map_toArray, List.map_cons, List.map_nil]; rfl) ?_
  with_reducible refine (rput_calls A1 _ c1 X _ (Kd.C_drew R1'.out) b1 (by omega)).mono ?_
  rintro e w3 ⟨v0, rfl, hO, hB3⟩
  refine ⟨_, ?_, rfl, hB3, ?_, ?_⟩
  rotate_left
  · simp only [Act.put, List.setIfInBounds_toArray, List.set_cons_zero, List.set_cons_succ, Go.Proofs.YtjofeklfpobemaaW.PrintLast.i64_w, Go.Proofs.YtjofeklfpobemaaW.PrintLast.i32_w]
    rfl
  rw [← EY.out] at hO
  obtain ⟨B, d, hv0, hd, hrB⟩ := OwB.reads hO
  subst hv0
  refine seq_take (v := ?_) (a' := ?_) rfl rfl (by rfl) (fun w' hw' => ?_) ?_ ?_
  rotate_left 2
  · have he := conv_str (Kd.C_below hrB hw') d; go_simp
    with_reducible rfl
  · simp only [Act.put, List.setIfInBounds_toArray, List.set_cons_zero, List.set_cons_succ, Go.Proofs.YtjofeklfpobemaaW.PrintLast.i64_w, Go.Proofs.YtjofeklfpobemaaW.PrintLast.i32_w]
    rfl
  refine seq_take (v := ?_) (a' := ?_) rfl rfl (by rfl) (fun w' hw' => ?_) ?_ ?_
  rotate_left 2
  · go_simp
    with_reducible rfl
  · simp only [Act.put, List.setIfInBounds_toArray, List.set_cons_zero, List.set_cons_succ, Go.Proofs.YtjofeklfpobemaaW.PrintLast.i64_w, Go.Proofs.YtjofeklfpobemaaW.PrintLast.i32_w]
    rfl
  refine seq_take (v := ?_) (a' := ?_) rfl rfl (by rfl) (fun w' hw' => ?_) ?_ ?_
  rotate_left 2
  · go_simp
    with_reducible rfl
  · simp only [Act.put, List.setIfInBounds_toArray, List.set_cons_zero, List.set_cons_succ, Go.Proofs.YtjofeklfpobemaaW.PrintLast.i64_w, Go.Proofs.YtjofeklfpobemaaW.PrintLast.i32_w]
    rfl
  refine seq_take (v := ?_) (a' := ?_) rfl rfl (by rfl) (fun w' hw' => ?_) ?_ ?_
  rotate_left 2
  · go_simp
    with_reducible rfl
  · simp only [Act.put, List.setIfInBounds_toArray, List.set_cons_zero, List.set_cons_succ, Go.Proofs.YtjofeklfpobemaaW.PrintLast.i64_w, Go.Proofs.YtjofeklfpobemaaW.PrintLast.i32_w]
    rfl
  refine seq_take (v := ?_) (a' := ?_) rfl rfl (by rfl) (fun w' hw' => ?_) ?_ ?_
  rotate_left 2
  · go_simp
    with_reducible rfl
  · simp only [Act.put, List.setIfInBounds_toArray, List.set_cons_zero, List.set_cons_succ, Go.Proofs.YtjofeklfpobemaaW.PrintLast.i64_w, Go.Proofs.YtjofeklfpobemaaW.PrintLast.i32_w]
    rfl
  refine seq_take (v := ?_) (a' := ?_) rfl rfl (by rfl) (fun w' hw' => ?_) ?_ ?_
  rotate_left 2
  · go_simp
    with_reducible rfl
  · simp only [Act.put, List.setIfInBounds_toArray, List.set_cons_zero, List.set_cons_succ, Go.Proofs.YtjofeklfpobemaaW.PrintLast.i64_w, Go.Proofs.YtjofeklfpobemaaW.PrintLast.i32_w]
    rfl
  refine seq_take (v := ?_) (a' := ?_) rfl rfl (by rfl) (fun w' hw' => ?_) ?_ ?_
  rotate_left 2
  · go_simp
    with_reducible rfl
  · simp only [Act.put, List.setIfInBounds_toArray, List.set_cons_zero, List.set_cons_succ, Go.Proofs.YtjofeklfpobemaaW.PrintLast.i64_w, Go.Proofs.YtjofeklfpobemaaW.PrintLast.i32_w]
    rfl
  refine seq_end ?_
  have hB23 : Below w2.heap.size w2 w3 := (Below.drew (Below.refl _ _)).trans hB3
  have hB03 := below_tr' hBB hB23
  have O2' := Aside0.mk (O2.out.below hB23)
  have hs12 : w.heap.size ≤ w1.heap.size ∧ w1.heap.size ≤ w2.heap.size ∧ w2.heap.size ≤ w3.heap.size := ⟨HS1.out, HS2.out, hB23.size⟩
  clear R1' R2 O2 hrB hO hB3 hBB hB23 EY l2
  go_wp2_with fail
  refine (around_calls at_ (Y.length : Int) _ ha0 ha1 (by omega) (by omega)).mono ?_
  rintro e w4 ⟨rfl, rfl⟩
  obtain ⟨k0, k1⟩ := around_range at_ (Y.length : Int) (by omega)
  generalize around at_ (Y.length : Int) = k at *
  go_wp2_with fail
  have P2 := OwB.parts O2'.out
  refine (few_new A2 _ c2 Y 60 _ P2.2 P2.1 bY (by omega) (by omega)).mono ?_
  rintro e w5 ⟨A5, c5, Z, rfl, EZ, b5, O5, hd5, l5, R5, hB5⟩
  obtain rfl : Z = Y := by rw [EZ.out, List.take_of_length_le (by simp; omega)]
  clear EZ R5 l5 hd5 P2
  obtain ⟨g, c5', hv, hg1, hg2⟩ := OwB.place O5.out (by omega)
  obtain ⟨rfl, _, rfl⟩ : A5 = some ⟨g, 0, none⟩ ∧ True ∧ c5 = c5' := by simpa using hv
  clear hv
  obtain ⟨hcell, hfz⟩ := OwB.cell O5.out k k0 k1
  have O6 := Aside0.mk (OwB.store O5.out k ch)
  have O2s := Aside0.mk ((O2'.out.below hB5).far (p := ⟨g, k.toNat, none⟩) (by exact O2'.out.lt g hg1) (.int .u8 ch))
  have bS := Aside0.mk (Bytes.set bY k.toNat h0 h1)
  have hBw := Below.setCell (below_tr' hB03 hB5) (p := ⟨g, k.toNat, none⟩) (show w.heap.size ≤ g by omega) (.int .u8 ch)
  go_wp2_with fail
  clear hcell hfz hg2 O5 O2' hB5 hB03
  have P2 := OwB.parts O2s.out
  refine (few_new A2 _ c2 Z 60 _ P2.2 P2.1 bY (by omega) (by omega)).mono ?_
  rintro e w7 ⟨A7, c7, Y7, rfl, EZ, b7, O7, hd7, l7, R7, hB7⟩
  obtain rfl : Y7 = Z := by rw [EZ.out, List.take_of_length_le (by simp; omega)]
  clear EZ R7 l7 hd7
  have hr2 := Aside0.mk P2
  have P6 := Aside0.mk (OwB.parts O6.out)
  clear O6 O2s P2
  generalize hw6 : w5.setCell ⟨g, k.toNat, none⟩ (.int .u8 ch) = w6 at *
  clear hw6
  go_wp2_with (at_builtin; refine appB (w0 := w6) w6.heap.size rfl (.tmp 44) (.tmp 46) rfl _ Y7 ch rfl rfl O7.out hB7 hB7.size (by omega) ?_; intro v8 w8 hO8 hB8 _ _)
  obtain ⟨A8, c8, rfl, hd8, r8⟩ := OwB.reads hO8
  have bM := b7.append (Bytes.one h0 h1)
  have lM : (Y7 ++ [ch]).length ≤ 25 := by simp; omega
  have hB68 := below_tr hBw (show Below w6.heap.size w6 w8 from hB8) hBw.size
  have R8 := Aside0.mk r8
  have Hd8 := Aside0.mk hd8
  have r2 := Aside0.mk (Kd.C_below hr2.out.2 hB8)
  have r6 := Aside0.mk (Kd.C_below P6.out.2 hB8)
  have hc2 := hr2.out.1
  have hc6 := P6.out.1
  generalize hM : Y7 ++ [ch] = M at *
  generalize hS : Y7.set k.toNat ch = SS at *
  clear hM hS O7 hB7 hO8 r8 hr2 P6 hBw hd8 hB8
  obtain ⟨hcut, rcut⟩ := cutTo r2.out hc2 k k0 (by omega)
  have rk := Aside0.mk rcut
  clear rcut
  refine seq_start [(true, 0), (true, 2), (true, 3), (true, 4), (true, 5), (true, 6), (true, 7), (false, 1), (false, 8), (true, 9)] (by kernel_rfl) (by kernel_rfl) (fun _ _ d _ _ h => by cases d <;> exact h) ?_
  refine seq_take (v := ?_) (a' := ?_) rfl rfl (by rfl) (fun w' hw' => ?_) ?_ ?_
  rotate_left 2
  · go_simp
    with_reducible rfl
  · simp only [Act.put, List.setIfInBounds_toArray, List.set_cons_zero, List.set_cons_succ, Go.Proofs.YtjofeklfpobemaaW.PrintLast.i64_w, Go.Proofs.YtjofeklfpobemaaW.PrintLast.i32_w]
    rfl
  refine seq_take (v := ?_) (a' := ?_) rfl rfl (by rfl) (fun w' hw' => ?_) ?_ ?_
  rotate_left 2
  · go_simp
    with_reducible rfl
  · simp only [Act.put, List.setIfInBounds_toArray, List.set_cons_zero, List.set_cons_succ, Go.Proofs.YtjofeklfpobemaaW.PrintLast.i64_w, Go.Proofs.YtjofeklfpobemaaW.PrintLast.i32_w]
    rfl
  refine seq_take (v := ?_) (a' := ?_) rfl rfl (by rfl) (fun w' hw' => ?_) ?_ ?_
  rotate_left 2
  · go_simp
    with_reducible rfl
  · simp only [Act.put, List.setIfInBounds_toArray, List.set_cons_zero, List.set_cons_succ, Go.Proofs.YtjofeklfpobemaaW.PrintLast.i64_w, Go.Proofs.YtjofeklfpobemaaW.PrintLast.i32_w]
    rfl
  refine seq_take (v := ?_) (a' := ?_) rfl rfl (by rfl) (fun w' hw' => ?_) ?_ ?_
  rotate_left 2
  · go_simp
    with_reducible rfl
  · simp only [Act.put, List.setIfInBounds_toArray, List.set_cons_zero, List.set_cons_succ, Go.Proofs.YtjofeklfpobemaaW.PrintLast.i64_w, Go.Proofs.YtjofeklfpobemaaW.PrintLast.i32_w]
    rfl
  refine seq_take (v := ?_) (a' := ?_) rfl rfl (by rfl) (fun w' hw' => ?_) ?_ ?_
  rotate_left 2
  · go_simp
    with_reducible rfl
  · simp only [Act.put, List.setIfInBounds_toArray, List.set_cons_zero, List.set_cons_succ, Go.Proofs.YtjofeklfpobemaaW.PrintLast.i64_w, Go.Proofs.YtjofeklfpobemaaW.PrintLast.i32_w]
    rfl
  refine seq_take (v := ?_) (a' := ?_) rfl rfl (by rfl) (fun w' hw' => ?_) ?_ ?_
  rotate_left 2
  · go_simp
    with_reducible rfl
  · simp only [Act.put, List.setIfInBounds_toArray, List.set_cons_zero, List.set_cons_succ, Go.Proofs.YtjofeklfpobemaaW.PrintLast.i64_w, Go.Proofs.YtjofeklfpobemaaW.PrintLast.i32_w]
    rfl
  refine seq_take (v := ?_) (a' := ?_) rfl rfl (by rfl) (fun w' hw' => ?_) ?_ ?_
  rotate_left 2
  · go_simp
    with_reducible rfl
  · simp only [Act.put, List.setIfInBounds_toArray, List.set_cons_zero, List.set_cons_succ, Go.Proofs.YtjofeklfpobemaaW.PrintLast.i64_w, Go.Proofs.YtjofeklfpobemaaW.PrintLast.i32_w]
    rfl
  refine seq_call rfl rfl (by rfl) rfl Try.func9 (by kernel_rfl) rfl #[.slice A n c, .int .i64 40] (by simp only [List.map_toArray, List.map_cons, List.map_nil]; rfl) ?_
  with_reducible refine (few_new A n c xs 40 _ (Kd.C_drew (Kd.C_below H.out hB68)) hc hb (by omega) (by omega)).mono ?_
  rintro e w9 ⟨A9, c9, F, rfl, EF, b9, O9, hd9, l9, R9, hB9⟩
  refine ⟨_, ?_, rfl, hB9, ?_, ?_⟩
  rotate_left
  · simp only [Act.put, List.setIfInBounds_toArray, List.set_cons_zero, List.set_cons_succ, Go.Proofs.YtjofeklfpobemaaW.PrintLast.i64_w, Go.Proofs.YtjofeklfpobemaaW.PrintLast.i32_w]
    rfl
  clear EF O9 H
  simp only [Int.reduceToNat] at l9
  refine seq_val (v := ?_) (a' := ?_) (w1 := ?_) rfl rfl (by rfl) ?_ ?_ ?_ ?_
  rotate_left 3
  · go_simp
    constructor <;> rfl
  · exact below_alloc (Below.refl _ _) _
  · simp only [Act.put, List.setIfInBounds_toArray, List.set_cons_zero, List.set_cons_succ, Go.Proofs.YtjofeklfpobemaaW.PrintLast.i64_w, Go.Proofs.YtjofeklfpobemaaW.PrintLast.i32_w]
    rfl
  refine seq_take (v := ?_) (a' := ?_) rfl rfl (by rfl) (fun w' hw' => ?_) ?_ ?_
  rotate_left 2
  · go_simp
    with_reducible rfl
  · simp only [Act.put, List.setIfInBounds_toArray, List.set_cons_zero, List.set_cons_succ, Go.Proofs.YtjofeklfpobemaaW.PrintLast.i64_w, Go.Proofs.YtjofeklfpobemaaW.PrintLast.i32_w]
    rfl
  refine seq_end ?_
  have hB89 : Below w8.heap.size w8 w9 := (Below.drew (Below.refl _ _)).trans hB9
  have hT : Told (w9.alloc (.cells #[.slice A9 F.length c9, .slice A2 Y7.length c2, .slice (some ⟨g, 0, none⟩) Y7.length c5, .slice A2 k.toNat c2, .slice A8 M.length c8] 22)) w9.heap.size 5 := by
    have hcell := fun (j : Nat) => World.cell?_alloc_mark w9 #[Value.slice A9 F.length c9, .slice A2 Y7.length c2, .slice (some ⟨g, 0, none⟩) Y7.length c5, .slice A2 k.toNat c2, .slice A8 M.length c8] 22 (0, 0) j
    have hup : ∀ {A n ys}, RdB w8 A n ys → RdB (w9.alloc (.cells #[.slice A9 F.length c9, .slice A2 Y7.length c2, .slice (some ⟨g, 0, none⟩) Y7.length c5, .slice A2 k.toNat c2, .slice A8 M.length c8] 22)) A n ys := fun h => Kd.C_alloc (Kd.C_below h hB89) _
    intro i hi
    match i, hi with
    | 0, _ => exact ⟨_, _, _, _, hcell 0, Kd.C_alloc R9.out _, hd9, b9, by omega⟩
    | 1, _ => exact ⟨_, _, _, _, hcell 1, hup r2.out, hc2, bY, by omega⟩
    | 2, _ => exact ⟨_, _, _, _, hcell 2, hup r6.out, hc6, bS.out, by omega⟩
    | 3, _ => exact ⟨_, _, _, _, hcell 3, hup rk.out, by omega, bY.take _, by omega⟩
    | 4, _ => exact ⟨_, _, _, _, hcell 4, hup R8.out, Hd8.out, bM, by omega⟩
  have hBT := Below.alloc (below_tr' hB68 hB89) (below_tr' hB68 hB89).size (.cells #[.slice A9 F.length c9, .slice A2 Y7.length c2, .slice (some ⟨g, 0, none⟩) Y7.length c5, .slice A2 k.toNat c2, .slice A8 M.length c8] 22)
  have HT := Aside0.mk hT
  generalize hG : w9.heap.size = G at *
  generalize hw10 : w9.alloc (.cells #[.slice A9 F.length c9, .slice A2 Y7.length c2, .slice (some ⟨g, 0, none⟩) Y7.length c5, .slice A2 k.toNat c2, .slice A8 M.length c8] 22) = w10 at *
  clear hw10 hT R9 r2 r6 rk R8 Hd8 hB89 hB9 hB68 hG hcut b9 bS bM
  go_wp2_with fail
  go_loopw [13] (fun i wr => ∃ j : Nat, j ≤ 5 ∧ i = .int .i64 j ∧ Below w10.heap.size w10 wr) (fun i _ => 5 - (intOf i).toNat)
  case atStart => exact ⟨0, by omega, rfl, Below.refl _ _⟩
  case round =>
    obtain ⟨j, hj, rfl, hBr⟩ := hrel
    by_cases hlt : j < 5
    · obtain ⟨Aj, nj, cj, ys, hcj, hrj, hcc, hbj, hlj⟩ := (HT.out.below hBr) j hlt
      have Hr := Aside0.mk hrj
      clear hrj
      go_wp2_with fail
      refine (take_calls _ _ _ ys _ Hr.out hcc hbj (by omega)).mono ?_
      have hbt := ctake_bytes hbj
      rcases ht : ctake ys with ⟨ty, te⟩
      have HTE := Aside0.mk ht
      rw [ht] at hbt
      clear ht
      rintro e u1 ⟨v1, rfl, hOx, hBx⟩
      obtain ⟨Ax, cx, rfl, hdx, hrx⟩ := OwB.reads hOx
      have hcj' := pw_cell_below hBx hcj
      go_wp2_with fail
      refine (rtake_calls _ _ _ ys _ (Kd.C_below Hr.out hBx) hcc hbj (by omega)).mono ?_
      rw [HTE.out]
      rintro e u2 ⟨Ay, my, cy, rfl, hry, hdy, hBy⟩
      have hs1 := conv_str (Kd.C_below hrx hBy) cx
      have hs2 := conv_str (Kd.C_below hry hBy) cy
      go_wp2
      go_roundw
      case rel => exact ⟨j + 1, by omega, by go_num, below_tr' hBr (below_tr' hBx hBy)⟩
      case measure => simp [intOf]; omega
    · obtain rfl : j = 5 := by omega
      go_wp2_with fail
      refine (lives_calls _).mono ?_
      rintro e w14 ⟨rfl, hB14⟩
      go_wp2_with fail
      go_ret
      exact ⟨rfl, below_tr (below_tr' hBT hBr) hB14 (below_tr' hBT hBr).size⟩
end Go.Proofs.Ytjofeklfpobemaa
