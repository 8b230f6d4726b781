/- Contracts: sha.Sum; lighterageref01's Fill, Text, Name. Conditions: each contract's own, and what sha's table of roots holds. -/
import Derived.Test.YtnfbficpodnglaaDoorSha7
namespace Go.Proofs.YtnfbficpodnglaaDoor
open Go.RowKit Go.Proofs.YtnfbficpodnglaaDoorW.PrintWords Go.Proofs.YtnfbficpodnglaaDoorW.PrintMore
set_option linter.unusedVariables false
set_option linter.unusedSimpArgs false
set_option maxHeartbeats 800000 in
theorem psum_calls (A : Option Addr) (n c : Nat) (xs : List Int) (w : World) (h : RdB w A n xs) (hb : Bytes xs) (hk : Roots w) (hn : n ≤ 549755813888) :
    Calls Tryd.prog 10 #[.slice A n c] w fun e w' => e = .returned (.agg (Nm (shaL xs)).toArray) ∧ Below w.heap.size w w' := by
  have HX := Aside0.mk h
  have HB := Aside0.mk hb
  have HK := Aside0.mk hk
  have HLT := Aside0.mk hk.lt
  have HFAR : Aside0 (∀ g, w.heap.size ≤ g → ∀ ad, A = some ad → 0 < n → ad.block ≠ g) := ⟨fun g hg => Kd.far_C (0 : Int) h hg⟩
  obtain rfl : xs.length = n := h.1
  have hD := shaL_len xs
  have HW0 : Aside0 (∀ o : Obj, Below w.heap.size w (w.alloc o) ∧ (w.alloc o).heap.size = w.heap.size + 1 ∧ (w.alloc o).heap[w.heap.size]? = some o) := ⟨fun o => ⟨(Below.refl _ _).alloc (Nat.le_refl _) _, by simp, blk_new w o⟩⟩
  clear h hb hk
  go_enter Tryd.func10, Tryd.ntmps10
  go_wp2_with (first
    | (go_at_call 14; refine (new_calls _).mono ?_; rintro e w1 hN; obtain ⟨g, v, rfl, hg1, hg2, hS, hB1⟩ := hN; have HR1 := Aside0.mk (blk_below hB1 (HW0.out _).2.2); rw [(HW0.out _).2.1] at hg1 hS; have HS := Aside0.mk hS; have HBL := Aside0.mk (below_tr (HW0.out _).1 hB1 (HW0.out _).1.size); have HG := Aside0.mk (And.intro hg1 hg2); clear hS hB1 hg1 hg2)
    | (go_at_call 15; refine (write_calls g v [] xs A xs.length c w1 (w.heap.size + 1) HS.out (Kd.C_below HX.out HBL.out) Bytes.nil HB.out (HK.out.below HBL.out) (by have := HG.out; omega) (by simp; omega) (by omega) HG.out.1 (HFAR.out g (by have := HG.out.1; omega))).mono ?_; rintro e w2 hW; obtain ⟨v2, rfl, hS2, _, hF2⟩ := hW; have HS2 := Aside0.mk hS2; have HF2 := Aside0.mk hF2; clear hS2 hF2))
  have HQS : Aside0 (Sta w2 (w.heap.size + 1) g v2 xs) := ⟨by have := HS2.out; rwa [List.nil_append] at this⟩
  have HNS : Aside0 (¬ (w.heap.size = g ∨ some w.heap.size = v.ownBlock)) := ⟨by
    rintro (e | e)
    · have := HG.out.1
      omega
    · have := HS.out.2.ge _ e.symm
      omega⟩
  have HR2 := Aside0.mk ((HF2.out.block _ (blk_lt HR1.out) HNS.out).trans HR1.out)
  have HBL2 : Aside0 (Below w.heap.size w w2) := ⟨HBL.out.trans (HF2.out.below (fun k hk => by
    rcases hk with rfl | e
    · have := HG.out.1
      omega
    · have := HS.out.2.ge _ e.symm
      omega) HBL.out.size)⟩
  refine (sumS_calls g v2 xs (w.heap.size + 1) w2 HQS.out HB.out (HK.out.below HBL2.out) hn).mono ?_
  rintro e w3 ⟨rfl, hB3⟩
  have HR3 := Aside0.mk (blk_below hB3 HR2.out)
  have HB3 := Aside0.mk (below_tr HBL2.out hB3 HBL2.out.size)
  clear hB3
  go_wp2_with (first | ((with_reducible refine at_st 26 (.tmp 2) (.tmp 9) ?_); refine store_blk rfl 26 (.tmp 2) (.tmp 9) rfl rfl rfl HR3.out (by rw [Nm_len, hD]; rfl) (size_d _ hD) (Nm_one _) ?_; rintro w4 HS4))
  (try simp only [Exit.inBlock, Exit.then])
  refine bodyPost_ret (v := .agg (Nm (shaL xs)).toArray) (results_cell_row rfl _ _ w.heap.size _ _ _ _ rfl HS4.at_ Tryd.underlying26 rfl ?_) rfl ⟨rfl, HB3.out.trans (HS4.below (Nat.le_refl _))⟩
  rw [size_d _ hD, List.size_toArray]
def FillInv (m : Nat) (w : World) (v i : Value) (wr : World) : Prop := ∃ (k : Nat) (ys : List Int), k ≤ m ∧ i = .int .i64 k ∧ OwB wr w.heap.size v ys ∧ Bytes ys ∧ ys.length = k ∧ Below w.heap.size w wr
theorem fill_calls (A : Option Addr) (n c : Nat) (xs : List Int) (m : Int) (w : World) (h : RdB w A n xs) (hb : Bytes xs) (h0 : 0 ≤ m) (h1 : m ≤ 1099511627776) :
    Calls Tryd.prog 8 #[.slice A n c, .int .i64 m] w fun e w' => ∃ v ys, e = .returned v ∧ OwB w' w.heap.size v ys ∧ Bytes ys ∧ (ys.length : Int) = m ∧ Below w.heap.size w w' := by
  obtain ⟨m, rfl⟩ := Int.eq_ofNat_of_zero_le h0
  have HX := Aside0.mk h
  obtain rfl : xs.length = n := h.1
  have hmax := h.2.1
  clear h
  go_enter Tryd.func8, Tryd.ntmps8
  go_wp2
  go_loopw [5, 6] (fun v i wr => FillInv m w v i wr) (fun _ i _ => m - (intOf i).toNat)
  case atStart => exact ⟨0, [], by omega, rfl, Kd.R_nil _ _ _ _ _, Bytes.nil, rfl, Below.refl _ _⟩
  case round =>
    obtain ⟨k, ys, hk, rfl, hO, hys, hyl, hB⟩ := hrel
    have HO := Aside0.mk hO
    have HB := Aside0.mk hB
    have HYS := Aside0.mk hys
    have HYL := Aside0.mk hyl
    clear hO hB hys hyl
    by_cases hlt : k < m
    · by_cases hx0 : 0 < xs.length
      · have hmz : ((xs.length : Int) == 0) = false := by rw [beq_eq_false_iff_ne]; omega
        have e1 : ((k : Int).tmod (xs.length : Int)) = ((k % xs.length : Nat) : Int) := by rw [Int.tmod_eq_emod_of_nonneg (by omega)]; rfl
        have hr : k % xs.length < xs.length := Nat.mod_lt _ hx0
        obtain ⟨ad, ea⟩ : ∃ ad, A = some ad := by obtain ⟨ad, e, _⟩ := Kd.at_int HX.out 0 (by omega) (by omega); exact ⟨ad, e⟩
        subst ea
        have hcell := rdB_at (Kd.C_below HX.out HB.out) (k % xs.length) hr
        have hby := hb.at_ ((k % xs.length : Nat) : Int)
        generalize rd xs ((k % xs.length : Nat) : Int) = x at *
        generalize hkr : k % xs.length = kr at *
        have hx0I : (0 : Int) < (xs.length : Int) := by omega
        go_wp2_with (at_builtin; refine appB (w0 := w) w.heap.size rfl (.tmp 15) (.tmp 23) rfl _ ys x rfl rfl HO.out HB.out HB.out.size (by have := HYL.out; omega) ?_; intro v5 w5 hO5 hB5 _ _)
        go_roundw
        case rel => exact ⟨k + 1, _, by omega, by go_num, hO5, HYS.out.append (Bytes.one hby.1 hby.2), by have := HYL.out; simp; omega, hB5⟩
        case measure => simp [intOf]; omega
      · have hx0I : ¬ (0 : Int) < (xs.length : Int) := by omega
        have hxl : xs.length = 0 := by omega
        go_wp2_with (at_builtin; refine appB (w0 := w) w.heap.size rfl (.tmp 25) (.tmp 26) rfl _ ys 0 rfl rfl HO.out HB.out HB.out.size (by have := HYL.out; omega) ?_; intro v5 w5 hO5 hB5 _ _)
        go_roundw
        case rel => exact ⟨k + 1, _, by omega, by go_num, hO5, HYS.out.append (Bytes.one (by omega) (by omega)), by have := HYL.out; simp; omega, hB5⟩
        case measure => simp [intOf]; omega
    · obtain rfl : k = m := by omega
      go_wp2
      go_ret
      exact ⟨_, ys, rfl, HO.out, HYS.out, by have := HYL.out; omega, HB.out⟩
def hexD : ByteArray := ⟨#[48, 49, 50, 51, 52, 53, 54, 55, 56, 57, 97, 98, 99, 100, 101, 102]⟩
def hexS (xs : List Int) : ByteArray := xs.foldl (fun s x => s ++ hexD.extract (x / 16).toNat ((x / 16).toNat + 1) ++ hexD.extract (x % 16).toNat ((x % 16).toNat + 1)) ⟨#[]⟩
theorem hexS_snoc (xs : List Int) (x : Int) : hexS (xs ++ [x]) = hexS xs ++ hexD.extract (x / 16).toNat ((x / 16).toNat + 1) ++ hexD.extract (x % 16).toNat ((x % 16).toNat + 1) := by
  unfold hexS
  rw [List.foldl_append]
  rfl
theorem hexE_size (p : Nat) : (hexD.extract p (p + 1)).size ≤ 1 := by
  rw [ByteArray.size_extract]
  omega
theorem hexS_size0 : ∀ (xs : List Int) (s : ByteArray), (xs.foldl (fun s x => s ++ hexD.extract (x / 16).toNat ((x / 16).toNat + 1) ++ hexD.extract (x % 16).toNat ((x % 16).toNat + 1)) s).size ≤ s.size + 2 * xs.length
  | [], s => by simp
  | x :: xs, s => by
    have h1 := hexE_size (x / 16).toNat
    have h2 := hexE_size (x % 16).toNat
    have h3 := hexS_size0 xs (s ++ hexD.extract (x / 16).toNat ((x / 16).toNat + 1) ++ hexD.extract (x % 16).toNat ((x % 16).toNat + 1))
    rw [ByteArray.size_append, ByteArray.size_append] at h3
    rw [List.foldl_cons, List.length_cons]
    omega
theorem hexS_size (xs : List Int) : (hexS xs).size ≤ 2 * xs.length := by
  have := hexS_size0 xs ⟨#[]⟩
  rw [show (⟨#[]⟩ : ByteArray).size = 0 from rfl, Nat.zero_add] at this
  exact this
theorem hexSlice (p : Int) (h0 : 0 ≤ p) (h1 : p < 16) : ∀ W : World, (Instr.slice 9 (.string ⟨#[48, 49, 50, 51, 52, 53, 54, 55, 56, 57, 97, 98, 99, 100, 101, 102]⟩) (some (.int .i64 p)) (some (.int .i64 (p + 1))) none).run Tryd.prog W = .ok (.string (hexD.extract p.toNat (p.toNat + 1))) W := fun W => by
  have h2 : (p + 1).toNat = p.toNat + 1 := by omega
  have hb : p ≤ p + 1 ∧ p + 1 ≤ (16 : Int) ∧ 0 ≤ p + 1 := by omega
  have hsz : (⟨#[48, 49, 50, 51, 52, 53, 54, 55, 56, 57, 97, 98, 99, 100, 101, 102]⟩ : ByteArray).size = 16 := rfl
  rw [run_slice_string_if W 9 _ .i64 .i64 p (p + 1) Tryd.underlying9]
  simp only [hsz]
  rw [if_pos (by omega), if_pos (by omega), h2]
  rfl
set_option maxHeartbeats 1600000 in
theorem text_calls (A : Option Addr) (n c : Nat) (xs : List Int) (w : World) (h : RdB w A n xs) (hb : Bytes xs) (hn : n ≤ 1099511627776) :
    Calls Tryd.prog 27 #[.slice A n c] w fun e w' => e = .returned (.string (hexS xs)) ∧ Below w.heap.size w w' := by
  have HX := Aside0.mk h
  obtain rfl : xs.length = n := h.1
  have hmax := h.2.1
  clear h
  go_enter Tryd.func27, Tryd.ntmps27
  go_wp2
  go_loopw [4, 5] (fun s i wr => ∃ k : Nat, k ≤ xs.length ∧ i = .int .i64 k ∧ s = .string (hexS (xs.take k)) ∧ Below w.heap.size w wr) (fun _ i _ => xs.length - (intOf i).toNat)
  case atStart => exact ⟨0, by omega, rfl, rfl, Below.refl _ _⟩
  case round =>
    obtain ⟨k, hk, rfl, rfl, hB⟩ := hrel
    have HB := Aside0.mk hB
    clear hB
    by_cases hlt : k < xs.length
    · obtain ⟨ad, ea⟩ : ∃ ad, A = some ad := by obtain ⟨ad, e, _⟩ := Kd.at_int HX.out 0 (by omega) (by omega); exact ⟨ad, e⟩
      subst ea
      have hcell := rdB_at (Kd.C_below HX.out HB.out) k hlt
      have hby := hb.at_ (k : Int)
      have HT : Aside0 (hexS (xs.take (k + 1)) = hexS (xs.take k) ++ hexD.extract (rd xs k / 16).toNat ((rd xs k / 16).toNat + 1) ++ hexD.extract (rd xs k % 16).toNat ((rd xs k % 16).toNat + 1)) := ⟨by rw [take_snoc hlt, hexS_snoc]⟩
      generalize rd xs k = x at *
      have hsz := hexS_size (xs.take k)
      have htl : (xs.take k).length ≤ xs.length := by rw [List.length_take]; omega
      generalize hexS (xs.take k) = s at *
      have e1 : x.tdiv 16 = x / 16 := Int.tdiv_eq_ediv_of_nonneg hby.1
      have e2 : x.tmod 16 = x % 16 := Int.tmod_eq_emod_of_nonneg hby.1
      have e3 : IntKind.i64.wrap x = x := by rw [IntKind.wrap_i64]; omega
      have e4 : IntKind.i64.wrap (x / 16) = x / 16 := by rw [IntKind.wrap_i64]; omega
      have h1 := hexSlice (x / 16) (by omega) (by omega)
      have h2 := hexSlice (x % 16) (by omega) (by omega)
      have z1 := hexE_size (x / 16).toNat
      have z2 := hexE_size (x % 16).toNat
      generalize hexD.extract (x / 16).toNat ((x / 16).toNat + 1) = P1 at *
      generalize hexD.extract (x % 16).toNat ((x % 16).toNat + 1) = P2 at *
      have y1 : ¬ 9223372036854775807 < s.size + P1.size := by omega
      have y2 : ¬ 9223372036854775807 < s.size + P1.size + P2.size := by omega
      have y3 : ¬ 9223372036854775807 < s.size + (P1.size + P2.size) := by omega
      clear hsz htl z1 z2
      have e5 : IntKind.i64.wrap (x / 16 + 1) = x / 16 + 1 := by rw [IntKind.wrap_i64]; omega
      have e6 : IntKind.i64.wrap (x % 16 + 1) = x % 16 + 1 := by rw [IntKind.wrap_i64]; omega
      go_wp2
      refine seq_start [] (.take 0 (.take 1 (.take 2 (.take 3 (.take 4 (.take 5 (.take 6 (.take 7 (.take 8 (.take 9 (.take 10 (.take 11 (.take 12 (.take 13 .done)))))))))))))) (by kernel_rfl) (by kernel_rfl) (fun _ _ d _ _ h => by cases d <;> exact h) ?_
      refine seq_take (v := ?_) (a' := ?_) rfl rfl (by rfl) (fun w' hw' => ?_) ?_ ?_
      rotate_left 2
      · go_simp
        with_reducible rfl
      · simp only [Act.put, List.setIfInBounds_toArray, List.set_cons_zero, List.set_cons_succ, Go.Proofs.YtnfbficpodnglaaDoorW.PrintLast.i64_w, Go.Proofs.YtnfbficpodnglaaDoorW.PrintLast.i32_w]
        rfl
      refine seq_take (v := ?_) (a' := ?_) rfl rfl (by rfl) (fun w' hw' => ?_) ?_ ?_
      rotate_left 2
      · go_simp
        with_reducible rfl
      · simp only [Act.put, List.setIfInBounds_toArray, List.set_cons_zero, List.set_cons_succ, Go.Proofs.YtnfbficpodnglaaDoorW.PrintLast.i64_w, Go.Proofs.YtnfbficpodnglaaDoorW.PrintLast.i32_w]
        rfl
      refine seq_take (v := ?_) (a' := ?_) rfl rfl (by rfl) (fun w' hw' => ?_) ?_ ?_
      rotate_left 2
      · go_simp
        with_reducible rfl
      · simp only [Act.put, List.setIfInBounds_toArray, List.set_cons_zero, List.set_cons_succ, Go.Proofs.YtnfbficpodnglaaDoorW.PrintLast.i64_w, Go.Proofs.YtnfbficpodnglaaDoorW.PrintLast.i32_w]
        rfl
      refine seq_take (v := ?_) (a' := ?_) rfl rfl (by rfl) (fun w' hw' => ?_) ?_ ?_
      rotate_left 2
      · go_simp
        with_reducible rfl
      · simp only [Act.put, List.setIfInBounds_toArray, List.set_cons_zero, List.set_cons_succ, Go.Proofs.YtnfbficpodnglaaDoorW.PrintLast.i64_w, Go.Proofs.YtnfbficpodnglaaDoorW.PrintLast.i32_w]
        rfl
      refine seq_take (v := ?_) (a' := ?_) rfl rfl (by rfl) (fun w' hw' => ?_) ?_ ?_
      rotate_left 2
      · go_simp
        with_reducible rfl
      · simp only [Act.put, List.setIfInBounds_toArray, List.set_cons_zero, List.set_cons_succ, Go.Proofs.YtnfbficpodnglaaDoorW.PrintLast.i64_w, Go.Proofs.YtnfbficpodnglaaDoorW.PrintLast.i32_w]
        rfl
      refine seq_take (v := ?_) (a' := ?_) rfl rfl (by rfl) (fun w' hw' => ?_) ?_ ?_
      rotate_left 2
      · go_simp
        with_reducible rfl
      · simp only [Act.put, List.setIfInBounds_toArray, List.set_cons_zero, List.set_cons_succ, Go.Proofs.YtnfbficpodnglaaDoorW.PrintLast.i64_w, Go.Proofs.YtnfbficpodnglaaDoorW.PrintLast.i32_w]
        rfl
      refine seq_take (v := ?_) (a' := ?_) rfl rfl (by rfl) (fun w' hw' => ?_) ?_ ?_
      rotate_left 2
      · go_simp
        with_reducible rfl
      · simp only [Act.put, List.setIfInBounds_toArray, List.set_cons_zero, List.set_cons_succ, Go.Proofs.YtnfbficpodnglaaDoorW.PrintLast.i64_w, Go.Proofs.YtnfbficpodnglaaDoorW.PrintLast.i32_w]
        rfl
      refine seq_take (v := ?_) (a' := ?_) rfl rfl (by rfl) (fun w' hw' => ?_) ?_ ?_
      rotate_left 2
      · go_simp
        with_reducible rfl
      · simp only [Act.put, List.setIfInBounds_toArray, List.set_cons_zero, List.set_cons_succ, Go.Proofs.YtnfbficpodnglaaDoorW.PrintLast.i64_w, Go.Proofs.YtnfbficpodnglaaDoorW.PrintLast.i32_w]
        rfl
      refine seq_take (v := ?_) (a' := ?_) rfl rfl (by rfl) (fun w' hw' => ?_) ?_ ?_
      rotate_left 2
      · go_simp
        with_reducible rfl
      · simp only [Act.put, List.setIfInBounds_toArray, List.set_cons_zero, List.set_cons_succ, Go.Proofs.YtnfbficpodnglaaDoorW.PrintLast.i64_w, Go.Proofs.YtnfbficpodnglaaDoorW.PrintLast.i32_w]
        rfl
      refine seq_take (v := ?_) (a' := ?_) rfl rfl (by rfl) (fun w' hw' => ?_) ?_ ?_
      rotate_left 2
      · go_simp
        with_reducible rfl
      · simp only [Act.put, List.setIfInBounds_toArray, List.set_cons_zero, List.set_cons_succ, Go.Proofs.YtnfbficpodnglaaDoorW.PrintLast.i64_w, Go.Proofs.YtnfbficpodnglaaDoorW.PrintLast.i32_w]
        rfl
      refine seq_take (v := ?_) (a' := ?_) rfl rfl (by rfl) (fun w' hw' => ?_) ?_ ?_
      rotate_left 2
      · go_simp
        with_reducible rfl
      · simp only [Act.put, List.setIfInBounds_toArray, List.set_cons_zero, List.set_cons_succ, Go.Proofs.YtnfbficpodnglaaDoorW.PrintLast.i64_w, Go.Proofs.YtnfbficpodnglaaDoorW.PrintLast.i32_w]
        rfl
      refine seq_take (v := ?_) (a' := ?_) rfl rfl (by rfl) (fun w' hw' => ?_) ?_ ?_
      rotate_left 2
      · go_simp
        with_reducible rfl
      · simp only [Act.put, List.setIfInBounds_toArray, List.set_cons_zero, List.set_cons_succ, Go.Proofs.YtnfbficpodnglaaDoorW.PrintLast.i64_w, Go.Proofs.YtnfbficpodnglaaDoorW.PrintLast.i32_w]
        rfl
      refine seq_take (v := ?_) (a' := ?_) rfl rfl (by rfl) (fun w' hw' => ?_) ?_ ?_
      rotate_left 2
      · go_simp
        with_reducible rfl
      · simp only [Act.put, List.setIfInBounds_toArray, List.set_cons_zero, List.set_cons_succ, Go.Proofs.YtnfbficpodnglaaDoorW.PrintLast.i64_w, Go.Proofs.YtnfbficpodnglaaDoorW.PrintLast.i32_w]
        rfl
      refine seq_take (v := ?_) (a' := ?_) rfl rfl (by rfl) (fun w' hw' => ?_) ?_ ?_
      rotate_left 2
      · go_simp
        with_reducible rfl
      · simp only [Act.put, List.setIfInBounds_toArray, List.set_cons_zero, List.set_cons_succ, Go.Proofs.YtnfbficpodnglaaDoorW.PrintLast.i64_w, Go.Proofs.YtnfbficpodnglaaDoorW.PrintLast.i32_w]
        rfl
      refine seq_end ?_
      go_wp2
      go_roundw
      case rel => exact ⟨k + 1, by omega, by go_num, by rw [HT.out], Below.drew HB.out⟩
      case measure => simp [intOf]; omega
    · obtain rfl : k = xs.length := by omega
      rw [List.take_of_length_le (Nat.le_refl _)]
      go_wp2
      go_ret
      exact ⟨rfl, HB.out⟩
end Go.Proofs.YtnfbficpodnglaaDoor
