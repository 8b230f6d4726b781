/- Plain lemmas and contracts, several texts in one: ShaRef1, ShaRef3. Conditions: their own. -/
import Derived.Test.YtnkkjmbpopodlaaDoorG1
import Derived.Test.YtnkkjmbpopodlaaDoorG2
namespace Go.Proofs.YtnkkjmbpopodlaaDoor
open Go.Proofs.YtnkkjmbpopodlaaDoorW.PrintLast (i64_w i32_w)
open Go.RowKit Go.Proofs.YtnkkjmbpopodlaaDoorW.PrintWords Go.Proofs.YtnkkjmbpopodlaaDoorW.PrintMore
set_option linter.unusedVariables false
set_option linter.unusedSimpArgs false
theorem rot_step (x : Int) (j : Nat) (hj : j < 25) (h0 : 0 ≤ x) (h : x < 4294967296) : (rot x j / 2 + rot x j % 2 * 2147483648) = rot x (j + 1) := by
  have := rotN_step x.toNat j hj (by omega)
  unfold rot
  rw [← this]
  omega
theorem rot_zero (x : Int) (h0 : 0 ≤ x) : rot x 0 = x := by
  unfold rot rotN
  simp only [Nat.pow_zero, Nat.div_one, Nat.mod_one, Nat.zero_mul, Nat.add_zero]
  omega
theorem turn_calls (x : Int) (n : Nat) (w : World) (h0 : 0 ≤ x) (h1 : x < 4294967296) (hn : n ≤ 25) :
    Calls Tryd.prog 81 #[.int .u32 x, .int .i64 n] w fun e w' => e = .returned (.int .u32 (rot x n)) ∧ w = w' := by
  go_enter Tryd.func81, Tryd.ntmps81
  go_wp2
  go_loopw [0, 5] (fun y i wr => ∃ j : Nat, j ≤ n ∧ i = .int .i64 j ∧ y = .int .u32 (rot x j) ∧ w = wr) (fun _ i _ => n - (intOf i).toNat)
  case atStart => exact ⟨0, by omega, rfl, by rw [rot_zero x h0], rfl⟩
  case round =>
    obtain ⟨j, hj, rfl, rfl, rfl⟩ := hrel
    by_cases hlt : j < n
    · have hs := rot_step x j (by omega) h0 h1
      obtain ⟨r0, r1⟩ := rot_range (k := j) (by omega) h0 h1
      obtain ⟨q0, q1⟩ := rot_range (k := j + 1) (by omega) h0 h1
      have HS := Aside0.mk hs
      clear hs
      generalize rot x j = y at *
      have e1 : IntKind.u32.wrap (y % 2 * 2147483648) = y % 2 * 2147483648 := by rw [IntKind.wrap_u32]; omega
      have e2 : IntKind.u32.wrap (y / 2 + y % 2 * 2147483648) = rot x (j + 1) := by rw [HS.out, IntKind.wrap_u32]; omega
      go_wp2
      go_roundw
      case rel => exact ⟨j + 1, by omega, by go_num, rfl, trivial⟩
      case measure => simp [intOf]; omega
    · obtain rfl : j = n := by omega
      go_wp2
      go_ret
      exact ⟨rfl, rfl⟩
theorem rdB_pl {w : World} {g o n : Nat} {xs : List Int} (h : RdB w (some ⟨g, o, none⟩) n xs) (i : Nat) (hi : i < n) : w.cell? ⟨g, o + i, none⟩ = some (.int .u8 (rd xs i)) := by
  have := rdB_at h i hi
  rwa [show (Addr.add ⟨g, o, none⟩ i) = ⟨g, o + i, none⟩ from by unfold Addr.add; split <;> simp_all] at this
theorem rdW_pl {w : World} {g o n : Nat} {xs : List Int} (h : RdW w (some ⟨g, o, none⟩) n xs) (i : Nat) (hi : i < n) : w.cell? ⟨g, o + i, none⟩ = some (.int .u32 (rd xs i)) := by
  have := rdW_at h i hi
  rwa [show (Addr.add ⟨g, o, none⟩ i) = ⟨g, o + i, none⟩ from by unfold Addr.add; split <;> simp_all] at this
theorem word_calls (g o n c : Nat) (b : List Int) (i : Nat) (w : World) (h : RdB w (some ⟨g, o, none⟩) n b) (hb : Bytes b) (hi : i + 3 < n) :
    Calls Tryd.prog 80 #[.slice (some ⟨g, o, none⟩) n c, .int .i64 i] w fun e w' => e = .returned (.int .u32 (word b i)) ∧ Below w.heap.size w w' := by
  have hmax := h.2.1
  have HX := Aside0.mk (Kd.C_drew h)
  clear h
  have b0 := hb.at_ i
  have b1 := hb.at_ (i + 1)
  have b2 := hb.at_ (i + 2)
  have b3 := hb.at_ (i + 3)
  obtain ⟨i0, i1, i2, i3⟩ : (i : Int) < n ∧ (i : Int) + 1 < n ∧ (i : Int) + 2 < n ∧ (i : Int) + 3 < n := by omega
  have n0 : i < n := by omega
  obtain ⟨t1, t2, t3⟩ : ((i : Int) + 1).toNat = i + 1 ∧ ((i : Int) + 2).toNat = i + 2 ∧ ((i : Int) + 3).toNat = i + 3 := by omega
  obtain ⟨p1, p2, p3⟩ : 0 ≤ (i : Int) + 1 ∧ 0 ≤ (i : Int) + 2 ∧ 0 ≤ (i : Int) + 3 := by omega
  obtain ⟨z1, z2, z3⟩ : IntKind.i64.wrap ((i : Int) + 1) = (i : Int) + 1 ∧ IntKind.i64.wrap ((i : Int) + 2) = (i : Int) + 2 ∧ IntKind.i64.wrap ((i : Int) + 3) = (i : Int) + 3 := by simp only [IntKind.wrap_i64]; omega
  have HW : Aside0 (word b i = rd b i * 16777216 + rd b (i + 1) * 65536 + rd b (i + 2) * 256 + rd b (i + 3)) := ⟨rfl⟩
  have HXS : Aside0 (∀ W, Later w.drew W → W.cell? ⟨g, o + i, none⟩ = some (.int .u8 (rd b i)) ∧ W.cell? ⟨g, o + (i + 1), none⟩ = some (.int .u8 (rd b (i + 1))) ∧ W.cell? ⟨g, o + (i + 2), none⟩ = some (.int .u8 (rd b (i + 2))) ∧ W.cell? ⟨g, o + (i + 3), none⟩ = some (.int .u8 (rd b (i + 3)))) := ⟨fun W hW => by
    have h := Kd.C_below HX.out hW
    exact ⟨rdB_pl h i (by omega), rdB_pl h (i + 1) (by omega), rdB_pl h (i + 2) (by omega), rdB_pl h (i + 3) (by omega)⟩⟩
  rw [HW.out]
  generalize rd b i = x0 at *
  generalize rd b (i + 1) = x1 at *
  generalize rd b (i + 2) = x2 at *
  generalize rd b (i + 3) = x3 at *
  obtain ⟨c0, c1, c2, c3⟩ : IntKind.u32.wrap x0 = x0 ∧ IntKind.u32.wrap x1 = x1 ∧ IntKind.u32.wrap x2 = x2 ∧ IntKind.u32.wrap x3 = x3 := by simp only [IntKind.wrap_u32]; omega
  obtain ⟨d0, d1, d2⟩ : IntKind.u32.wrap (x0 * 16777216) = x0 * 16777216 ∧ IntKind.u32.wrap (x1 * 65536) = x1 * 65536 ∧ IntKind.u32.wrap (x2 * 256) = x2 * 256 := by simp only [IntKind.wrap_u32]; omega
  obtain ⟨s0, s1, s2⟩ : IntKind.u32.wrap (x0 * 16777216 + x1 * 65536) = x0 * 16777216 + x1 * 65536 ∧ IntKind.u32.wrap (x0 * 16777216 + x1 * 65536 + x2 * 256) = x0 * 16777216 + x1 * 65536 + x2 * 256 ∧ IntKind.u32.wrap (x0 * 16777216 + x1 * 65536 + x2 * 256 + x3) = x0 * 16777216 + x1 * 65536 + x2 * 256 + x3 := by simp only [IntKind.wrap_u32]; omega
  go_enter Tryd.func80, Tryd.ntmps80
  go_wp2
  refine seq_start [] (.take 0 (.take 1 (.take 2 (.take 3 (.take 4 (.take 5 (.take 6 (.take 7 (.take 8 (.take 9 (.take 10 (.take 11 (.take 12 (.take 13 (.take 14 (.take 15 (.take 16 (.take 17 (.take 18 (.take 19 (.take 20 (.take 21 (.take 22 (.take 23 (.take 24 (.take 25 (.take 26 (.take 27 (.take 28 (.take 29 .done)))))))))))))))))))))))))))))) (by kernel_rfl) (by kernel_rfl) (fun _ _ d _ _ h => by cases d <;> exact h) ?_
  refine seq_take (v := ?_) (a' := ?_) rfl rfl (by rfl) (fun w' hw' => ?_) ?_ ?_
  rotate_left 2
  · go_simp
    with_reducible rfl
  · simp only [Act.put, List.setIfInBounds_toArray, List.set_cons_zero, List.set_cons_succ, i64_w, i32_w]
    rfl
  refine seq_take (v := ?_) (a' := ?_) rfl rfl (by rfl) (fun w' hw' => ?_) ?_ ?_
  rotate_left 2
  · go_simp
    with_reducible rfl
  · simp only [Act.put, List.setIfInBounds_toArray, List.set_cons_zero, List.set_cons_succ, i64_w, i32_w]
    rfl
  refine seq_take (v := ?_) (a' := ?_) rfl rfl (by rfl) (fun w' hw' => ?_) ?_ ?_
  rotate_left 2
  · go_simp
    with_reducible rfl
  · simp only [Act.put, List.setIfInBounds_toArray, List.set_cons_zero, List.set_cons_succ, i64_w, i32_w]
    rfl
  refine seq_take (v := ?_) (a' := ?_) rfl rfl (by rfl) (fun w' hw' => ?_) ?_ ?_
  rotate_left 2
  · have hx := (HXS.out w' hw').1; go_simp
    with_reducible rfl
  · simp only [Act.put, List.setIfInBounds_toArray, List.set_cons_zero, List.set_cons_succ, i64_w, i32_w]
    rfl
  refine seq_take (v := ?_) (a' := ?_) rfl rfl (by rfl) (fun w' hw' => ?_) ?_ ?_
  rotate_left 2
  · go_simp
    with_reducible rfl
  · simp only [Act.put, List.setIfInBounds_toArray, List.set_cons_zero, List.set_cons_succ, i64_w, i32_w]
    rfl
  refine seq_take (v := ?_) (a' := ?_) rfl rfl (by rfl) (fun w' hw' => ?_) ?_ ?_
  rotate_left 2
  · go_simp
    with_reducible rfl
  · simp only [Act.put, List.setIfInBounds_toArray, List.set_cons_zero, List.set_cons_succ, i64_w, i32_w]
    rfl
  refine seq_take (v := ?_) (a' := ?_) rfl rfl (by rfl) (fun w' hw' => ?_) ?_ ?_
  rotate_left 2
  · go_simp
    with_reducible rfl
  · simp only [Act.put, List.setIfInBounds_toArray, List.set_cons_zero, List.set_cons_succ, i64_w, i32_w]
    rfl
  refine seq_take (v := ?_) (a' := ?_) rfl rfl (by rfl) (fun w' hw' => ?_) ?_ ?_
  rotate_left 2
  · go_simp
    with_reducible rfl
  · simp only [Act.put, List.setIfInBounds_toArray, List.set_cons_zero, List.set_cons_succ, i64_w, i32_w]
    rfl
  refine seq_take (v := ?_) (a' := ?_) rfl rfl (by rfl) (fun w' hw' => ?_) ?_ ?_
  rotate_left 2
  · go_simp
    with_reducible rfl
  · simp only [Act.put, List.setIfInBounds_toArray, List.set_cons_zero, List.set_cons_succ, i64_w, i32_w]
    rfl
  refine seq_take (v := ?_) (a' := ?_) rfl rfl (by rfl) (fun w' hw' => ?_) ?_ ?_
  rotate_left 2
  · go_simp
    with_reducible rfl
  · simp only [Act.put, List.setIfInBounds_toArray, List.set_cons_zero, List.set_cons_succ, i64_w, i32_w]
    rfl
  refine seq_take (v := ?_) (a' := ?_) rfl rfl (by rfl) (fun w' hw' => ?_) ?_ ?_
  rotate_left 2
  · have hx := (HXS.out w' hw').2.1; go_simp
    with_reducible rfl
  · simp only [Act.put, List.setIfInBounds_toArray, List.set_cons_zero, List.set_cons_succ, i64_w, i32_w]
    rfl
  refine seq_take (v := ?_) (a' := ?_) rfl rfl (by rfl) (fun w' hw' => ?_) ?_ ?_
  rotate_left 2
  · go_simp
    with_reducible rfl
  · simp only [Act.put, List.setIfInBounds_toArray, List.set_cons_zero, List.set_cons_succ, i64_w, i32_w]
    rfl
  refine seq_take (v := ?_) (a' := ?_) rfl rfl (by rfl) (fun w' hw' => ?_) ?_ ?_
  rotate_left 2
  · go_simp
    with_reducible rfl
  · simp only [Act.put, List.setIfInBounds_toArray, List.set_cons_zero, List.set_cons_succ, i64_w, i32_w]
    rfl
  refine seq_take (v := ?_) (a' := ?_) rfl rfl (by rfl) (fun w' hw' => ?_) ?_ ?_
  rotate_left 2
  · go_simp
    with_reducible rfl
  · simp only [Act.put, List.setIfInBounds_toArray, List.set_cons_zero, List.set_cons_succ, i64_w, i32_w]
    rfl
  refine seq_take (v := ?_) (a' := ?_) rfl rfl (by rfl) (fun w' hw' => ?_) ?_ ?_
  rotate_left 2
  · go_simp
    with_reducible rfl
  · simp only [Act.put, List.setIfInBounds_toArray, List.set_cons_zero, List.set_cons_succ, i64_w, i32_w]
    rfl
  refine seq_take (v := ?_) (a' := ?_) rfl rfl (by rfl) (fun w' hw' => ?_) ?_ ?_
  rotate_left 2
  · go_simp
    with_reducible rfl
  · simp only [Act.put, List.setIfInBounds_toArray, List.set_cons_zero, List.set_cons_succ, i64_w, i32_w]
    rfl
  refine seq_take (v := ?_) (a' := ?_) rfl rfl (by rfl) (fun w' hw' => ?_) ?_ ?_
  rotate_left 2
  · go_simp
    with_reducible rfl
  · simp only [Act.put, List.setIfInBounds_toArray, List.set_cons_zero, List.set_cons_succ, i64_w, i32_w]
    rfl
  refine seq_take (v := ?_) (a' := ?_) rfl rfl (by rfl) (fun w' hw' => ?_) ?_ ?_
  rotate_left 2
  · go_simp
    with_reducible rfl
  · simp only [Act.put, List.setIfInBounds_toArray, List.set_cons_zero, List.set_cons_succ, i64_w, i32_w]
    rfl
  refine seq_take (v := ?_) (a' := ?_) rfl rfl (by rfl) (fun w' hw' => ?_) ?_ ?_
  rotate_left 2
  · have hx := (HXS.out w' hw').2.2.1; go_simp
    with_reducible rfl
  · simp only [Act.put, List.setIfInBounds_toArray, List.set_cons_zero, List.set_cons_succ, i64_w, i32_w]
    rfl
  refine seq_take (v := ?_) (a' := ?_) rfl rfl (by rfl) (fun w' hw' => ?_) ?_ ?_
  rotate_left 2
  · go_simp
    with_reducible rfl
  · simp only [Act.put, List.setIfInBounds_toArray, List.set_cons_zero, List.set_cons_succ, i64_w, i32_w]
    rfl
  refine seq_take (v := ?_) (a' := ?_) rfl rfl (by rfl) (fun w' hw' => ?_) ?_ ?_
  rotate_left 2
  · go_simp
    with_reducible rfl
  · simp only [Act.put, List.setIfInBounds_toArray, List.set_cons_zero, List.set_cons_succ, i64_w, i32_w]
    rfl
  refine seq_take (v := ?_) (a' := ?_) rfl rfl (by rfl) (fun w' hw' => ?_) ?_ ?_
  rotate_left 2
  · go_simp
    with_reducible rfl
  · simp only [Act.put, List.setIfInBounds_toArray, List.set_cons_zero, List.set_cons_succ, i64_w, i32_w]
    rfl
  refine seq_take (v := ?_) (a' := ?_) rfl rfl (by rfl) (fun w' hw' => ?_) ?_ ?_
  rotate_left 2
  · go_simp
    with_reducible rfl
  · simp only [Act.put, List.setIfInBounds_toArray, List.set_cons_zero, List.set_cons_succ, i64_w, i32_w]
    rfl
  refine seq_take (v := ?_) (a' := ?_) rfl rfl (by rfl) (fun w' hw' => ?_) ?_ ?_
  rotate_left 2
  · go_simp
    with_reducible rfl
  · simp only [Act.put, List.setIfInBounds_toArray, List.set_cons_zero, List.set_cons_succ, i64_w, i32_w]
    rfl
  refine seq_take (v := ?_) (a' := ?_) rfl rfl (by rfl) (fun w' hw' => ?_) ?_ ?_
  rotate_left 2
  · go_simp
    with_reducible rfl
  · simp only [Act.put, List.setIfInBounds_toArray, List.set_cons_zero, List.set_cons_succ, i64_w, i32_w]
    rfl
  refine seq_take (v := ?_) (a' := ?_) rfl rfl (by rfl) (fun w' hw' => ?_) ?_ ?_
  rotate_left 2
  · go_simp
    with_reducible rfl
  · simp only [Act.put, List.setIfInBounds_toArray, List.set_cons_zero, List.set_cons_succ, i64_w, i32_w]
    rfl
  refine seq_take (v := ?_) (a' := ?_) rfl rfl (by rfl) (fun w' hw' => ?_) ?_ ?_
  rotate_left 2
  · have hx := (HXS.out w' hw').2.2.2; go_simp
    with_reducible rfl
  · simp only [Act.put, List.setIfInBounds_toArray, List.set_cons_zero, List.set_cons_succ, i64_w, i32_w]
    rfl
  refine seq_take (v := ?_) (a' := ?_) rfl rfl (by rfl) (fun w' hw' => ?_) ?_ ?_
  rotate_left 2
  · go_simp
    with_reducible rfl
  · simp only [Act.put, List.setIfInBounds_toArray, List.set_cons_zero, List.set_cons_succ, i64_w, i32_w]
    rfl
  refine seq_take (v := ?_) (a' := ?_) rfl rfl (by rfl) (fun w' hw' => ?_) ?_ ?_
  rotate_left 2
  · go_simp
    with_reducible rfl
  · simp only [Act.put, List.setIfInBounds_toArray, List.set_cons_zero, List.set_cons_succ, i64_w, i32_w]
    rfl
  refine seq_take (v := ?_) (a' := ?_) rfl rfl (by rfl) (fun w' hw' => ?_) ?_ ?_
  rotate_left 2
  · go_simp
    with_reducible rfl
  · simp only [Act.put, List.setIfInBounds_toArray, List.set_cons_zero, List.set_cons_succ, i64_w, i32_w]
    rfl
  refine seq_end ?_
  go_wp2
  go_ret
  exact ⟨rfl, Below.drew (Below.refl _ _)⟩
theorem word_at (g o n c : Nat) (b : List Int) (i : Int) (w : World) (h : RdB w (some ⟨g, o, none⟩) n b) (hb : Bytes b) (h0 : 0 ≤ i) (hi : i + 3 < n) :
    Calls Tryd.prog 80 #[.slice (some ⟨g, o, none⟩) n c, .int .i64 i] w fun e w' => e = .returned (.int .u32 (word b i)) ∧ Below w.heap.size w w' := by
  obtain ⟨k, rfl⟩ := Int.eq_ofNat_of_zero_le h0
  exact word_calls g o n c b k w h hb (by omega)
theorem roots_calls (w : World) : Calls Tryd.prog 79 #[] w fun e w' => ∃ g, e = .returned (.slice (some ⟨g, 0, none⟩) 64 64) ∧ RdW w' (some ⟨g, 0, none⟩) 64 Kc ∧ Below w.heap.size w w' := by
  go_enter Tryd.func79, Tryd.ntmps79
  go_wp2
  go_ret
  refine ⟨w.heap.size, rfl, ?_, (Below.refl _ _).alloc (Nat.le_refl _) _⟩
  exact (OwW.parts (own_litW w w.heap.size Kc _ 64 rfl rfl (Nat.le_refl _) (by decide))).2
end Go.Proofs.YtnkkjmbpopodlaaDoor
namespace Go.Proofs.YtnkkjmbpopodlaaDoor
open Go.RowKit Go.Proofs.YtnkkjmbpopodlaaDoorW.PrintWords Go.Proofs.YtnkkjmbpopodlaaDoorW.PrintMore
set_option linter.unusedVariables false
set_option linter.unusedSimpArgs false
/-- How many noughts stand behind n bytes and 128. -/
def zc (n : Nat) : Nat := (119 - n % 64) % 64
theorem zc_lt (n : Nat) : zc n < 64 := Nat.mod_lt _ (by omega)
theorem zc_eq (n : Nat) : (n + 1 + zc n) % 64 = 56 := by unfold zc; omega
theorem zc_ne (n k : Nat) (h : k < zc n) : (n + 1 + k) % 64 ≠ 56 := by unfold zc at h; omega
def be64 (m : Nat) : List Int := [((m / 256 ^ 7 % 256 : Nat) : Int), ((m / 256 ^ 6 % 256 : Nat) : Int), ((m / 256 ^ 5 % 256 : Nat) : Int), ((m / 256 ^ 4 % 256 : Nat) : Int), ((m / 256 ^ 3 % 256 : Nat) : Int), ((m / 256 ^ 2 % 256 : Nat) : Int), ((m / 256 ^ 1 % 256 : Nat) : Int), ((m / 256 ^ 0 % 256 : Nat) : Int)]
theorem be64_bytes (m : Nat) : Bytes (be64 m) := by
  intro x hx
  simp only [be64, List.mem_cons, List.not_mem_nil, or_false] at hx
  rcases hx with rfl | rfl | rfl | rfl | rfl | rfl | rfl | rfl <;> omega
def padB (n k : Nat) : List Int := 128 :: List.replicate k 0
def tailB (n : Nat) : List Int := 128 :: List.replicate (zc n) 0 ++ be64 (8 * n)
theorem tailB_len (n : Nat) : (tailB n).length = 9 + zc n := by simp [tailB, be64]; omega
theorem tailB_bytes (n : Nat) : Bytes (tailB n) := by
  refine Bytes.append (fun x hx => ?_) (be64_bytes _)
  rcases List.mem_cons.1 hx with rfl | h
  · omega
  · have := (List.mem_replicate.1 h).2
    omega
def whole (xs : List Int) : List Int := xs ++ tailB xs.length
theorem whole_len (xs : List Int) : (whole xs).length = xs.length + 9 + zc xs.length := by rw [whole, List.length_append, tailB_len]; omega
theorem whole_mod (xs : List Int) : (whole xs).length % 64 = 0 := by
  rw [whole_len]
  have := zc_eq xs.length
  omega
def be8 (m k : Nat) : List Int := List.replicate (8 - k) 0 ++ (be64 m).drop (8 - k)
theorem be8_len (m k : Nat) (hk : k ≤ 8) : (be8 m k).length = 8 := by
  rw [be8, List.length_append, List.length_replicate, List.length_drop]
  show 8 - k + (8 - (8 - k)) = 8
  omega
theorem be8_set (m k : Nat) (hk : k < 8) : (be8 m k).set (7 - k) ((m / 256 ^ k % 256 : Nat) : Int) = be8 m (k + 1) := by
  match k, hk with
  | 0, _ => rfl
  | 1, _ => rfl
  | 2, _ => rfl
  | 3, _ => rfl
  | 4, _ => rfl
  | 5, _ => rfl
  | 6, _ => rfl
  | 7, _ => rfl
def lenOf : Value → Nat
  | .slice _ l _ => l
  | _ => 0
set_option maxHeartbeats 1600000 in
theorem whole_calls (A : Option Addr) (n c : Nat) (xs : List Int) (w : World) (h : RdB w A n xs) (hn : n ≤ 1099511627776) :
    Calls Tryd.prog 45 #[.slice A n c] w fun e w' => ∃ v, e = .returned v ∧ OwB w' w.heap.size v (whole xs) ∧ Below w.heap.size w w' := by
  have H := Aside0.mk h
  obtain rfl : xs.length = n := h.1
  clear h
  go_enter Tryd.func45, Tryd.ntmps45
  go_wp2_with (first
    | (at_builtin; refine appBs (w0 := w) w.heap.size rfl (.tmp 7) (.tmp 8) rfl (.slice none 0 0) [] xs A _ c rfl rfl (Kd.R_nil _ _ _ _ _) H.out (Below.refl _ _) (Nat.le_refl _) (by simp; omega) ?_; intro v1 w1 hO hB _ _; rw [List.nil_append] at hO)
    | (at_builtin; refine appB (w0 := w) w.heap.size rfl (.tmp 10) (.tmp 11) rfl _ xs 128 rfl rfl hO hB hB.size (by omega) ?_; intro v2 w2 hO2 hB2 _ _))
  clear hO hB
  have HO2 := Aside0.mk hO2
  have HB2 := Aside0.mk hB2
  clear hO2 hB2
  go_loopw [3] (fun v wr => ∃ k : Nat, k ≤ zc xs.length ∧ OwB wr w.heap.size v (xs ++ padB xs.length k) ∧ Below w.heap.size w wr) (fun v _ => xs.length + 1 + zc xs.length - lenOf v)
  case atStart => exact ⟨0, by omega, HO2.out, HB2.out⟩
  case round =>
    obtain ⟨k, hk, hO, hBr⟩ := hrel
    have HO := Aside0.mk hO
    have HBr := Aside0.mk hBr
    clear hO hBr
    have HL : (xs ++ padB xs.length k).length = xs.length + 1 + k := by simp [padB]; omega
    obtain ⟨A3, c3, hv3, hc3, hr3⟩ := OwB.reads HO.out
    clear hr3
    have hz := zc_lt xs.length
    by_cases hlt : k < zc xs.length
    · have hne := zc_ne xs.length k hlt
      have HP : Aside0 (xs ++ padB xs.length (k + 1) = (xs ++ padB xs.length k) ++ [0]) := ⟨by rw [List.append_assoc]; simp [padB, List.replicate_succ']⟩
      generalize hys : xs ++ padB xs.length k = ys at *
      have hcond : (((ys.length : Int).tmod 64) != 56) = true := by
        rw [bne_iff_ne, Int.tmod_eq_emod_of_nonneg (by omega)]
        omega
      clear hys
      subst hv3
      go_wp2_with (at_builtin; refine appB (w0 := w) w.heap.size rfl (.tmp 17) (.tmp 18) rfl _ ys 0 rfl rfl HO.out HBr.out HBr.out.size (by omega) ?_; intro v4 w4 hO4 hB4 _ _)
      obtain ⟨A4, c4, hv4, _, _⟩ := OwB.reads hO4
      go_roundw
      case rel => exact ⟨k + 1, by omega, by rw [HP.out]; exact hO4, hB4⟩
      case measure => subst hv4; simp [lenOf]; omega
    · obtain rfl : k = zc xs.length := by omega
      have heq := zc_eq xs.length
      generalize hys : xs ++ padB xs.length (zc xs.length) = ys at *
      have hcond : (((ys.length : Int).tmod 64) != 56) = false := by
        rw [bne_eq_false_iff_eq, Int.tmod_eq_emod_of_nonneg (by omega)]
        omega
      have HW : Aside0 (whole xs = ys ++ be64 (8 * xs.length)) := ⟨by rw [← hys, whole, tailB, padB, ← List.append_assoc]⟩
      clear hys
      have HLA := Aside0.mk HL
      have hm1 : ys.length % 64 = 56 := by omega
      have hm2 : (ys.length : Int) % 64 = 56 := by omega
      clear HL
      subst hv3
      have e8 : IntKind.i64.wrap (8 * (xs.length : Int)) = ((8 * xs.length : Nat) : Int) := by rw [IntKind.wrap_i64]; omega
      generalize hN : 8 * xs.length = N at *
      go_wp2_with (refine makeB (w0 := wr) wr.heap.size rfl rfl _ _ rfl 8 rfl rfl (by omega) (by omega) (Below.refl _ _) (Nat.le_refl _) ?_; intro v5 w5 hO5 hB5; obtain ⟨z5, HZ5, hO6⟩ : ∃ z, Aside0 (z = be8 N 0) ∧ OwB w5 wr.heap.size v5 z := ⟨_, ⟨rfl⟩, hO5⟩; clear hO5; have HB5 := Aside0.mk hB5; clear hB5)
      obtain ⟨g5, c5, hv5, hg5, _⟩ := OwB.place hO6 (by rw [HZ5.out, be8_len N 0 (by omega)]; omega)
      rw [HZ5.out, be8_len N 0 (by omega)] at hv5
      rw [HZ5.out] at hO6
      subst hv5
      have HO6 := Aside0.mk hO6
      have HG5 := Aside0.mk hg5
      clear hO6 hg5 HZ5
      go_loopw [4, 6] (fun m i wr' => ∃ k : Nat, k ≤ 8 ∧ i = .int .i64 (7 - (k : Int)) ∧ m = .int .i64 ((N / 256 ^ k : Nat) : Int) ∧ OwB wr' wr.heap.size (.slice (some ⟨g5, 0, none⟩) 8 c5) (be8 N k) ∧ Below wr.heap.size wr wr') (fun _ i _ => (intOf i + 1).toNat)
      case atStart => exact ⟨0, by omega, rfl, by simp, HO6.out, HB5.out⟩
      case round =>
        clear HO6 HB5 hcond heq hm1 hm2
        obtain ⟨k, hk, rfl, rfl, hO, hB⟩ := hrel
        have HO7 := Aside0.mk hO
        have HB7 := Aside0.mk hB
        clear hO hB
        by_cases hlt8 : k < 8
        · have HL7 := be8_len N k hk
          have HS := Aside0.mk (be8_set N k hlt8)
          have HO8 : Aside0 (OwB wr _ (.slice (some ⟨g5, 0, none⟩) (be8 N k).length c5) (be8 N k)) := ⟨by rw [HL7]; exact HO7.out⟩
          obtain ⟨hc, hf⟩ := OwB.cell HO8.out (7 - (k : Int)) (by omega) (by omega)
          have t7 : (7 - (k : Int)).toNat = 7 - k := by omega
          rw [t7] at hc hf
          have HST : Aside0 (∀ x, OwB (wr.setCell ⟨g5, 7 - k, none⟩ (.int .u8 x)) _ (.slice (some ⟨g5, 0, none⟩) 8 c5) ((be8 N k).set (7 - k) x)) := ⟨fun x => by
            have := OwB.store HO8.out (7 - (k : Int)) x
            rw [t7, HL7] at this
            exact this⟩
          have HQ : Aside0 (((N / 256 ^ (k + 1) : Nat) : Int) = ((N / 256 ^ k / 256 : Nat) : Int)) := ⟨by rw [Nat.div_div_eq_div_mul, Nat.pow_succ]⟩
          have hqN : N / 256 ^ k ≤ N := Nat.div_le_self _ _
          generalize N / 256 ^ k = q at *
          have r1 : ((q : Int)).tmod 256 = ((q % 256 : Nat) : Int) := by rw [Int.tmod_eq_emod_of_nonneg (by omega)]; rfl
          have r2 : IntKind.u8.wrap ((q % 256 : Nat) : Int) = ((q % 256 : Nat) : Int) := by rw [IntKind.wrap_u8]; omega
          have r3 : IntKind.i64.wrap ((q : Int).tdiv 256) = ((q / 256 : Nat) : Int) := by rw [Int.tdiv_eq_ediv_of_nonneg (by omega), IntKind.wrap_i64]; omega
          have b1 : (k : Int) ≤ 7 := by omega
          have b2 : 7 - (k : Int) < 8 := by omega
          clear HO7 HO8 HL7
          go_wp2
          go_roundw
          case rel => exact ⟨k + 1, by omega, by go_num, by rw [HQ.out]; simp, by rw [← HS.out]; exact HST.out _, HB7.out.setCell (p := ⟨g5, 7 - k, none⟩) HG5.out _⟩
          case measure => simp [intOf]; omega
        · obtain rfl : k = 8 := by omega
          have HR8 : Aside0 (RdB wr (some ⟨g5, 0, none⟩) 8 (be64 N)) := ⟨(OwB.parts HO7.out).2⟩
          have HO9 := Aside0.mk (HO.out.below HB7.out)
          have HB9 := Aside0.mk (below_tr HBr.out HB7.out HBr.out.size)
          clear HO7 HB7
          go_wp2_with (at_builtin; refine appBs (w0 := w) w.heap.size rfl (.tmp 36) (.tmp 37) rfl _ ys (be64 N) (some ⟨g5, 0, none⟩) 8 c5 rfl rfl HO9.out HR8.out HB9.out HB9.out.size (by have := HLA.out; omega) ?_; intro v9 w9 hO9 hB9 _ _)
          go_ret
          exact ⟨v9, rfl, by rw [HW.out]; exact hO9, hB9⟩
end Go.Proofs.YtnkkjmbpopodlaaDoor
