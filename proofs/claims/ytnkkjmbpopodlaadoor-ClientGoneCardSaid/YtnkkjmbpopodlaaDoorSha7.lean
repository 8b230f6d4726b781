/- Contract: sha.State's Sum. Conditions: its own, and what sha's table of roots holds. -/
import Derived.Test.YtnkkjmbpopodlaaDoorG6
namespace Go.Proofs.YtnkkjmbpopodlaaDoor
open Go.RowKit Go.Proofs.YtnkkjmbpopodlaaDoorW.PrintWords Go.Proofs.YtnkkjmbpopodlaaDoorW.PrintMore
set_option linter.unusedVariables false
set_option linter.unusedSimpArgs false
theorem Sta.below {w w1 : World} {base g : Nat} {v : Value} {xs : List Int} (h : Sta w base g v xs) (hb : Below w.heap.size w w1) : Sta w1 base g v xs := ⟨blk_below hb h.1, h.2.below hb⟩
theorem padB_len (n k : Nat) : (padB n k).length = 1 + k := by simp [padB]; omega
theorem padB_bytes (n k : Nat) : Bytes (padB n k) := by
  intro x hx
  rcases List.mem_cons.1 hx with rfl | h
  · omega
  · have := (List.mem_replicate.1 h).2
    omega
theorem store_d {ops : Array Oper} {rest : List Oper} {o : Oper} {a : Act} {Q : Exit → Act → World → Prop} {w : World} {g : Nat} {xs : List Int} (hgd : o.guard = none) (x y : Operand) (ho : o.op = .store 5 x y) (i : Nat) {z : Int} (hx : a.eval x = .pointer (some ⟨g, i, none⟩)) (hy : a.eval y = .int .u8 z) (hg : w.heap[g]? = some (.cells (Nm xs).toArray 40 (0, 0))) (hi : i < xs.length)
    (hk : ∀ w1, SetBlk w w1 g (.cells (Nm (xs.set i z)).toArray 40 (0, 0)) → wpList Tryd.prog ops Q rest (a.put o.dst undef) w1) : wpList Tryd.prog ops Q (o :: rest) a w := by
  have hst : (Instr.storeAt 5 (.pointer (some ⟨g, i, none⟩)) (.int .u8 z)).run Tryd.prog w = .ok () (w.setCell ⟨g, i, none⟩ (.int .u8 z)) := by
    obtain ⟨u, hc⟩ : ∃ u, w.cell? ⟨g, i, none⟩ = some u := ⟨_, by rw [blk_cell hg, Array.getElem?_eq_getElem (show i < (Nm xs).toArray.size by rw [List.size_toArray, Nm_len]; exact hi)]⟩
    have hf := blk_frozen hg i
    clear hg hk
    go_simp
  exact store_arm hgd _ x y ho hx hy hst (hk _ (by have := setBlk_cell hg (.int .u8 z) (i := i); rwa [Nm_set] at this))
theorem fill4 (D : List Int) (j : Nat) (hD : D.length = 32) (hj : j < 8) : ((((fillN D 32 (4 * j)).set (4 * j) (rd D ((4 * j : Nat) : Int))).set (4 * j + 1) (rd D ((4 * j + 1 : Nat) : Int))).set (4 * j + 2) (rd D ((4 * j + 2 : Nat) : Int))).set (4 * j + 3) (rd D ((4 * j + 3 : Nat) : Int)) = fillN D 32 (4 * (j + 1)) := by
  rw [fillN_set (by omega) (by omega), fillN_set (by omega) (by omega), fillN_set (by omega) (by omega), fillN_set (by omega) (by omega)]
  rfl
theorem idx_a8 {cs : Array Value} {j : Nat} {v : Value} (hj : j < 8) (h : cs[j]? = some v) (W : World) : (Instr.index 145 (.agg cs) (.int .i64 (j : Int))).run Tryd.prog W = .ok v W := by
  obtain ⟨i0, hi, _, hsz, _⟩ := info_parts infoW
  have hp : (part 93 cs j).run Tryd.prog W = .ok v W := part_one Tryd.underlying93 rfl h
  have h8 : (0 : Int) ≤ (j : Int) ∧ (j : Int) < 8 := by omega
  simp [Instr.index, asIntOf, run_underlying Tryd.underlying145, sizeOf, typeInfo, hi, hsz, h8, hp]
  omega
set_option maxHeartbeats 3200000 in
set_option maxRecDepth 20000 in
theorem sumS_calls (g : Nat) (v : Value) (xs : List Int) (base : Nat) (w : World) (h : Sta w base g v xs) (hbx : Bytes xs) (hk : Roots w) (hl : xs.length ≤ 549755813888) :
    Calls Tryd.prog 78 #[.pointer (some ⟨g, 0, none⟩)] w fun e w' => e = .returned (.agg (Nm (shaL xs)).toArray) ∧ Below w.heap.size w w' := by
  have HST := Aside0.mk h
  have HBX := Aside0.mk hbx
  have HK := Aside0.mk hk
  have hH := Aside0.mk (hs_len xs (xs.length / 64))
  have HW0 : Aside0 (∀ o : Obj, Below w.heap.size w (w.alloc o) ∧ (w.alloc o).heap.size = w.heap.size + 1 ∧ (w.alloc o).heap[w.heap.size]? = some o) := ⟨fun o => ⟨(Below.refl _ _).alloc (Nat.le_refl _) _, by simp, blk_new w o⟩⟩
  clear h hbx hk
  go_enter Tryd.func78, Tryd.ntmps78
  go_wp2_with (go_at_call 94; refine (sclone_calls g v xs base _ (HST.out.below (HW0.out _).1) (by omega)).mono ?_; rintro e w1 ⟨gx, vx, rfl, hgx, hgx2, hSX, hB1⟩; have HR0 := Aside0.mk (blk_below hB1 (HW0.out _).2.2); rw [(HW0.out _).2.1] at hgx hSX; have HSX := Aside0.mk hSX; have HB1 := Aside0.mk (below_tr (HW0.out _).1 hB1 (HW0.out _).1.size); have HS1 := Aside0.mk ((HST.out.below (HW0.out _).1).below hB1); have HGX := Aside0.mk (And.intro hgx hgx2); clear hSX hB1 hgx hgx2)
  have HT0 : Aside0 (OwB (w1.alloc (.cells #[.int .u8 128] 5)) w1.heap.size (.slice (some ⟨w1.heap.size, 0, none⟩) 1 1) (padB xs.length 0)) := ⟨own_litB w1 w1.heap.size (padB xs.length 0) _ 1 rfl rfl (Nat.le_refl _) (by simp [padB])⟩
  have HTB : Aside0 (Below w1.heap.size w1 (w1.alloc (.cells #[.int .u8 128] 5))) := ⟨(Below.refl _ _).alloc (Nat.le_refl _) _⟩
  go_loopw [4] (fun t wr => ∃ k : Nat, k ≤ zc xs.length ∧ OwB wr w1.heap.size t (padB xs.length k) ∧ Below w1.heap.size w1 wr) (fun t _ => zc xs.length + 2 - lenOf t)
  case atStart => exact ⟨0, by omega, HT0.out, HTB.out⟩
  case round =>
    clear HT0 HTB
    obtain ⟨k, hk, hO, hB⟩ := hrel
    have HO := Aside0.mk hO
    have HB := Aside0.mk hB
    clear hO hB
    have HPL := padB_len xs.length k
    obtain ⟨A4, c4, hv4, hc4, _⟩ := OwB.reads HO.out
    have G := Aside0.mk (blk_below HB.out HS1.out.1)
    have hz := zc_lt xs.length
    by_cases hlt : k < zc xs.length
    · have hne := zc_ne xs.length k hlt
      have HP : Aside0 (padB xs.length (k + 1) = padB xs.length k ++ [0]) := ⟨by simp [padB, List.replicate_succ']⟩
      generalize hts : padB xs.length k = ts at *
      have hm1 : ¬ ((xs.length : Int) + (ts.length : Int)) % 64 = 56 := by omega
      have hm3 : ¬ (xs.length + ts.length) % 64 = 56 := by omega
      have hwr : IntKind.i64.wrap ((xs.length : Int) + (ts.length : Int)) = (xs.length : Int) + (ts.length : Int) := by rw [IntKind.wrap_i64]; omega
      have HPLA := Aside0.mk HPL
      clear hts HPL
      subst hv4
      go_wp2_with (first
        | ((with_reducible refine at_ld 3 (.tmp 15) ?_); refine load_arm rfl 3 (.tmp 15) rfl rfl (ld_n G.out hH.out) ?_; simp only [Act.put, List.setIfInBounds_toArray, List.set_cons_zero, List.set_cons_succ])
        | (at_builtin; refine appB (w0 := w1) w1.heap.size rfl (.tmp 22) (.tmp 23) rfl _ ts 0 rfl rfl HO.out HB.out HB.out.size (by have := HPLA.out; omega) ?_; intro v5 w5 hO5 hB5 _ _))
      obtain ⟨A5, c5, hv5, _, _⟩ := OwB.reads hO5
      go_roundw
      case rel => exact ⟨k + 1, by omega, by rw [HP.out]; exact hO5, hB5⟩
      case measure => subst hv5; have := HPLA.out; simp [lenOf]; omega
    · obtain rfl : k = zc xs.length := by omega
      have heq := zc_eq xs.length
      have HTL : Aside0 (tailB xs.length = padB xs.length (zc xs.length) ++ be64 (8 * xs.length)) := ⟨by rw [tailB, padB]⟩
      have HTSB := Aside0.mk (padB_bytes xs.length (zc xs.length))
      generalize hts : padB xs.length (zc xs.length) = ts at *
      have hm1 : ((xs.length : Int) + (ts.length : Int)) % 64 = 56 := by omega
      have hm3 : (xs.length + ts.length) % 64 = 56 := by omega
      have hwr : IntKind.i64.wrap ((xs.length : Int) + (ts.length : Int)) = (xs.length : Int) + (ts.length : Int) := by rw [IntKind.wrap_i64]; omega
      have hw1 : IntKind.u64.wrap (xs.length : Int) = (xs.length : Int) := by rw [IntKind.wrap_u64]; omega
      have hw2 : ((xs.length : Int) * 8) % 18446744073709551616 = (xs.length : Int) * 8 := by omega
      have HPLA := Aside0.mk HPL
      clear hts HPL heq
      subst hv4
      go_wp2_with (first
        | ((with_reducible refine at_ld 3 (.tmp 15) ?_); refine load_arm rfl 3 (.tmp 15) rfl rfl (ld_n G.out hH.out) ?_; simp only [Act.put, List.setIfInBounds_toArray, List.set_cons_zero, List.set_cons_succ])
        | ((with_reducible refine at_ld 3 (.tmp 27) ?_); refine load_arm rfl 3 (.tmp 27) rfl rfl (ld_n G.out hH.out) ?_; simp only [Act.put, List.setIfInBounds_toArray, List.set_cons_zero, List.set_cons_succ]))
      have HO6 : Aside0 (OwB wr w1.heap.size (.slice A4 ts.length c4) (ts ++ (be64 (8 * xs.length)).take 0)) := ⟨by rw [List.take_zero, List.append_nil]; exact HO.out⟩
      clear HO hm1 hm3 hwr hw1 hw2 G
      go_loopw [4, 31] (fun t i wr => ∃ j : Nat, j ≤ 8 ∧ i = .int .i64 j ∧ OwB wr w1.heap.size t (ts ++ (be64 (8 * xs.length)).take j) ∧ Below w1.heap.size w1 wr) (fun _ i _ => 8 - (intOf i).toNat)
      case atStart => exact ⟨0, by omega, rfl, HO6.out, HB.out⟩
      case round =>
        clear HO6 HB
        obtain ⟨j, hj, rfl, hO, hB⟩ := hrel
        have HO := Aside0.mk hO
        have HB := Aside0.mk hB
        clear hO hB
        have HPL2 := HPLA.out
        have HL : Aside0 ((ts ++ (be64 (8 * xs.length)).take j).length = ts.length + j) := ⟨by rw [List.length_append, List.length_take]; show ts.length + min j 8 = _; omega⟩
        have HLB : Aside0 ((ts ++ (be64 (8 * xs.length)).take j).length < 140737488355328) := ⟨by rw [HL.out]; omega⟩
        clear HPL2
        by_cases hlt : j < 8
        · have hj8 : j = 0 ∨ j = 1 ∨ j = 2 ∨ j = 3 ∨ j = 4 ∨ j = 5 ∨ j = 6 ∨ j = 7 := by omega
          rcases hj8 with rfl | rfl | rfl | rfl | rfl | rfl | rfl | rfl
          · have hv : IntKind.u8.wrap ((xs.length : Int) * 8 / 72057594037927936) = ((8 * xs.length / 256 ^ 7 % 256 : Nat) : Int) := by
              rw [IntKind.wrap_u8]
              simp only [Nat.reducePow]
              omega
            have hT : Aside0 (ts ++ (be64 (8 * xs.length)).take 1 = (ts ++ (be64 (8 * xs.length)).take 0) ++ [((8 * xs.length / 256 ^ 7 % 256 : Nat) : Int)]) := ⟨by rw [List.append_assoc]; rfl⟩
            generalize hy : ((8 * xs.length / 256 ^ 7 % 256 : Nat) : Int) = y at *
            generalize ts ++ (be64 (8 * xs.length)).take 0 = tl at *
            clear hy
            go_wp2_with (at_builtin; refine appB (w0 := w1) w1.heap.size rfl (.tmp 34) (.tmp 41) rfl _ tl y rfl rfl HO.out HB.out HB.out.size HLB.out ?_; intro v5 w5 hO5 hB5 _ _)
            go_roundw
            case rel => exact ⟨1, by omega, by go_num, by rw [hT.out]; exact hO5, hB5⟩
            case measure => simp [intOf]
          · have hv : IntKind.u8.wrap ((xs.length : Int) * 8 / 281474976710656) = ((8 * xs.length / 256 ^ 6 % 256 : Nat) : Int) := by
              rw [IntKind.wrap_u8]
              simp only [Nat.reducePow]
              omega
            have hT : Aside0 (ts ++ (be64 (8 * xs.length)).take 2 = (ts ++ (be64 (8 * xs.length)).take 1) ++ [((8 * xs.length / 256 ^ 6 % 256 : Nat) : Int)]) := ⟨by rw [List.append_assoc]; rfl⟩
            generalize hy : ((8 * xs.length / 256 ^ 6 % 256 : Nat) : Int) = y at *
            generalize ts ++ (be64 (8 * xs.length)).take 1 = tl at *
            clear hy
            go_wp2_with (at_builtin; refine appB (w0 := w1) w1.heap.size rfl (.tmp 34) (.tmp 41) rfl _ tl y rfl rfl HO.out HB.out HB.out.size HLB.out ?_; intro v5 w5 hO5 hB5 _ _)
            go_roundw
            case rel => exact ⟨2, by omega, by go_num, by rw [hT.out]; exact hO5, hB5⟩
            case measure => simp [intOf]
          · have hv : IntKind.u8.wrap ((xs.length : Int) * 8 / 1099511627776) = ((8 * xs.length / 256 ^ 5 % 256 : Nat) : Int) := by
              rw [IntKind.wrap_u8]
              simp only [Nat.reducePow]
              omega
            have hT : Aside0 (ts ++ (be64 (8 * xs.length)).take 3 = (ts ++ (be64 (8 * xs.length)).take 2) ++ [((8 * xs.length / 256 ^ 5 % 256 : Nat) : Int)]) := ⟨by rw [List.append_assoc]; rfl⟩
            generalize hy : ((8 * xs.length / 256 ^ 5 % 256 : Nat) : Int) = y at *
            generalize ts ++ (be64 (8 * xs.length)).take 2 = tl at *
            clear hy
            go_wp2_with (at_builtin; refine appB (w0 := w1) w1.heap.size rfl (.tmp 34) (.tmp 41) rfl _ tl y rfl rfl HO.out HB.out HB.out.size HLB.out ?_; intro v5 w5 hO5 hB5 _ _)
            go_roundw
            case rel => exact ⟨3, by omega, by go_num, by rw [hT.out]; exact hO5, hB5⟩
            case measure => simp [intOf]
          · have hv : IntKind.u8.wrap ((xs.length : Int) * 8 / 4294967296) = ((8 * xs.length / 256 ^ 4 % 256 : Nat) : Int) := by
              rw [IntKind.wrap_u8]
              simp only [Nat.reducePow]
              omega
            have hT : Aside0 (ts ++ (be64 (8 * xs.length)).take 4 = (ts ++ (be64 (8 * xs.length)).take 3) ++ [((8 * xs.length / 256 ^ 4 % 256 : Nat) : Int)]) := ⟨by rw [List.append_assoc]; rfl⟩
            generalize hy : ((8 * xs.length / 256 ^ 4 % 256 : Nat) : Int) = y at *
            generalize ts ++ (be64 (8 * xs.length)).take 3 = tl at *
            clear hy
            go_wp2_with (at_builtin; refine appB (w0 := w1) w1.heap.size rfl (.tmp 34) (.tmp 41) rfl _ tl y rfl rfl HO.out HB.out HB.out.size HLB.out ?_; intro v5 w5 hO5 hB5 _ _)
            go_roundw
            case rel => exact ⟨4, by omega, by go_num, by rw [hT.out]; exact hO5, hB5⟩
            case measure => simp [intOf]
          · have hv : IntKind.u8.wrap ((xs.length : Int) * 8 / 16777216) = ((8 * xs.length / 256 ^ 3 % 256 : Nat) : Int) := by
              rw [IntKind.wrap_u8]
              simp only [Nat.reducePow]
              omega
            have hT : Aside0 (ts ++ (be64 (8 * xs.length)).take 5 = (ts ++ (be64 (8 * xs.length)).take 4) ++ [((8 * xs.length / 256 ^ 3 % 256 : Nat) : Int)]) := ⟨by rw [List.append_assoc]; rfl⟩
            generalize hy : ((8 * xs.length / 256 ^ 3 % 256 : Nat) : Int) = y at *
            generalize ts ++ (be64 (8 * xs.length)).take 4 = tl at *
            clear hy
            go_wp2_with (at_builtin; refine appB (w0 := w1) w1.heap.size rfl (.tmp 34) (.tmp 41) rfl _ tl y rfl rfl HO.out HB.out HB.out.size HLB.out ?_; intro v5 w5 hO5 hB5 _ _)
            go_roundw
            case rel => exact ⟨5, by omega, by go_num, by rw [hT.out]; exact hO5, hB5⟩
            case measure => simp [intOf]
          · have hv : IntKind.u8.wrap ((xs.length : Int) * 8 / 65536) = ((8 * xs.length / 256 ^ 2 % 256 : Nat) : Int) := by
              rw [IntKind.wrap_u8]
              simp only [Nat.reducePow]
              omega
            have hT : Aside0 (ts ++ (be64 (8 * xs.length)).take 6 = (ts ++ (be64 (8 * xs.length)).take 5) ++ [((8 * xs.length / 256 ^ 2 % 256 : Nat) : Int)]) := ⟨by rw [List.append_assoc]; rfl⟩
            generalize hy : ((8 * xs.length / 256 ^ 2 % 256 : Nat) : Int) = y at *
            generalize ts ++ (be64 (8 * xs.length)).take 5 = tl at *
            clear hy
            go_wp2_with (at_builtin; refine appB (w0 := w1) w1.heap.size rfl (.tmp 34) (.tmp 41) rfl _ tl y rfl rfl HO.out HB.out HB.out.size HLB.out ?_; intro v5 w5 hO5 hB5 _ _)
            go_roundw
            case rel => exact ⟨6, by omega, by go_num, by rw [hT.out]; exact hO5, hB5⟩
            case measure => simp [intOf]
          · have hv : IntKind.u8.wrap ((xs.length : Int) * 8 / 256) = ((8 * xs.length / 256 ^ 1 % 256 : Nat) : Int) := by
              rw [IntKind.wrap_u8]
              simp only [Nat.reducePow]
              omega
            have hT : Aside0 (ts ++ (be64 (8 * xs.length)).take 7 = (ts ++ (be64 (8 * xs.length)).take 6) ++ [((8 * xs.length / 256 ^ 1 % 256 : Nat) : Int)]) := ⟨by rw [List.append_assoc]; rfl⟩
            generalize hy : ((8 * xs.length / 256 ^ 1 % 256 : Nat) : Int) = y at *
            generalize ts ++ (be64 (8 * xs.length)).take 6 = tl at *
            clear hy
            go_wp2_with (at_builtin; refine appB (w0 := w1) w1.heap.size rfl (.tmp 34) (.tmp 41) rfl _ tl y rfl rfl HO.out HB.out HB.out.size HLB.out ?_; intro v5 w5 hO5 hB5 _ _)
            go_roundw
            case rel => exact ⟨7, by omega, by go_num, by rw [hT.out]; exact hO5, hB5⟩
            case measure => simp [intOf]
          · have hv : IntKind.u8.wrap ((xs.length : Int) * 8) = ((8 * xs.length / 256 ^ 0 % 256 : Nat) : Int) := by
              rw [IntKind.wrap_u8]
              simp only [Nat.reducePow]
              omega
            have hT : Aside0 (ts ++ (be64 (8 * xs.length)).take 8 = (ts ++ (be64 (8 * xs.length)).take 7) ++ [((8 * xs.length / 256 ^ 0 % 256 : Nat) : Int)]) := ⟨by rw [List.append_assoc]; rfl⟩
            generalize hy : ((8 * xs.length / 256 ^ 0 % 256 : Nat) : Int) = y at *
            generalize ts ++ (be64 (8 * xs.length)).take 7 = tl at *
            clear hy
            go_wp2_with (at_builtin; refine appB (w0 := w1) w1.heap.size rfl (.tmp 34) (.tmp 41) rfl _ tl y rfl rfl HO.out HB.out HB.out.size HLB.out ?_; intro v5 w5 hO5 hB5 _ _)
            go_roundw
            case rel => exact ⟨8, by omega, by go_num, by rw [hT.out]; exact hO5, hB5⟩
            case measure => simp [intOf]
        · obtain rfl : j = 8 := by omega
          have HO8 : Aside0 (OwB wr w1.heap.size u4 (tailB xs.length)) := ⟨by rw [HTL.out]; exact HO.out⟩
          have htl := tailB_len xs.length
          obtain ⟨tb, HTT⟩ : ∃ tb, Aside0 (tb = tailB xs.length) := ⟨_, ⟨rfl⟩⟩
          have HTBB : Aside0 (Bytes tb) := ⟨by rw [HTT.out]; exact tailB_bytes _⟩
          rw [← HTT.out] at HO8 htl
          obtain ⟨gt, c8, hv8, hgt, _⟩ := OwB.place HO8.out (by omega)
          have HR8 : Aside0 (RdB wr (some ⟨gt, 0, none⟩) tb.length tb) := ⟨(OwB.parts (hv8 ▸ HO8.out)).2⟩
          have HSEP : Aside0 (∀ ad, some (⟨gt, 0, none⟩ : Addr) = some ad → 0 < tb.length → ad.block ≠ gx) := ⟨fun ad e _ => by
            injection e with e
            subst e
            have := HGX.out.2
            show gt ≠ gx
            omega⟩
          have HBw := Aside0.mk (below_tr HB1.out HB.out HB1.out.size)
          have HSW : Aside0 (shaL xs = dgt (hs (xs ++ tb) ((xs ++ tb).length / 64))) := ⟨by rw [shaL, HTT.out]; rfl⟩
          have HHL := Aside0.mk (hs_len (xs ++ tb) ((xs ++ tb).length / 64))
          have HHW := Aside0.mk (hs_ws (xs ++ tb) ((xs ++ tb).length / 64))
          subst hv8
          clear HO HL HLB htl hgt
          have HR1 : Aside0 (wr.heap[w.heap.size]? = some (.cells (Nm (List.replicate 32 0)).toArray 40 (0, 0))) := ⟨blk_below HB.out HR0.out⟩
          have HLT : Aside0 (w1.heap.size ≤ wr.heap.size) := ⟨HB.out.size⟩
          have HLW : Aside0 (tb.length ≤ 80) := ⟨by have h1 := tailB_len xs.length; rw [← HTT.out] at h1; omega⟩
          go_wp2_with (first
            | (go_at_call 77; refine (write_calls gx vx xs tb (some ⟨gt, 0, none⟩) tb.length c8 wr (w.heap.size + 1) (HSX.out.below HB.out) HR8.out HBX.out HTBB.out (HK.out.below HBw.out) (by have := HGX.out; have := HLT.out; omega) (by have := HLW.out; omega) (by omega) HGX.out.1 HSEP.out).mono ?_; rintro e w9 hW; obtain ⟨v9, rfl, hS9, hO9, hF9⟩ := hW; have HS9 := Aside0.mk hS9; have HF9 := Aside0.mk hF9; clear hS9 hO9 hF9)
            | ((with_reducible refine at_ld 145 (.tmp 49) ?_); refine load_arm rfl 145 (.tmp 49) rfl rfl (ld_h (blk_below ((Below.refl _ _).alloc (Nat.le_refl _) _) HS9.out.1) HHL.out) ?_; simp only [Act.put, List.setIfInBounds_toArray, List.set_cons_zero, List.set_cons_succ]))
          have HNS : Aside0 (¬ (w.heap.size = gx ∨ some w.heap.size = vx.ownBlock)) := ⟨by
            rintro (e | e)
            · have := HGX.out.1
              omega
            · have := HSX.out.2.ge _ e.symm
              omega⟩
          have HR9 : Aside0 (w9.heap[w.heap.size]? = some (.cells (Nm (List.replicate 32 0)).toArray 40 (0, 0))) := ⟨(HF9.out.block _ (blk_lt HR1.out) HNS.out).trans HR1.out⟩
          have HB9 : Aside0 (Below w.heap.size w w9) := ⟨HBw.out.trans (HF9.out.below (fun k hk => by
            rcases hk with rfl | e
            · have := HGX.out.1
              omega
            · have := HSX.out.2.ge _ e.symm
              omega) HBw.out.size)⟩
          generalize hs (xs ++ tb) ((xs ++ tb).length / 64) = H at *
          have hDL := dgt_len H
          have HG0 : Aside0 ((w9.alloc (.cells (Nm (List.replicate 32 0)).toArray 40)).heap[w9.heap.size]? = some (.cells (Nm (fillN (dgt H) 32 (4 * 0))).toArray 40 (0, 0))) := ⟨blk_new w9 _⟩
          have HGB : Aside0 (Below w9.heap.size w9 (w9.alloc (.cells (Nm (List.replicate 32 0)).toArray 40))) := ⟨(Below.refl _ _).alloc (Nat.le_refl _) _⟩
          clear HO8 HR8 HSEP HB HS9 HF9 HR1 HTT HTL
          go_loopw [51] (fun i wr2 => ∃ j : Nat, j ≤ 8 ∧ i = .int .i64 j ∧ wr2.heap[w9.heap.size]? = some (.cells (Nm (fillN (dgt H) 32 (4 * j))).toArray 40 (0, 0)) ∧ Below w9.heap.size w9 wr2) (fun i _ => 8 - (intOf i).toNat)
          case atStart => exact ⟨0, by omega, rfl, HG0.out, HGB.out⟩
          case round =>
            clear HG0 HGB
            obtain ⟨j, hj, rfl, hG, hB⟩ := hrel
            have HG := Aside0.mk hG
            have HBB := Aside0.mk hB
            clear hG hB
            by_cases hlt : j < 8
            · have hX := HHW.out.at_ j
              have hidx : ∀ W, (Instr.index 145 (.agg (Us H).toArray) (.int .i64 (j : Int))).run Tryd.prog W = .ok (.int .u32 (rd H j)) W := fun W => idx_a8 hlt (Us_at (by rw [HHL.out]; omega)) W
              have HFL : Aside0 (∀ k, k ≤ 32 → (fillN (dgt H) 32 k).length = 32) := ⟨fun k hk => fillN_len hk (by omega)⟩
              have h4 := Aside0.mk (fill4 (dgt H) j hDL hlt)
              have d0 := rd_dgt H (4 * j) (by omega)
              have d1 := rd_dgt H (4 * j + 1) (by omega)
              have d2 := rd_dgt H (4 * j + 2) (by omega)
              have d3 := rd_dgt H (4 * j + 3) (by omega)
              rw [show 4 * j / 4 = j by omega, show 4 * j % 4 = 0 by omega] at d0
              rw [show (4 * j + 1) / 4 = j by omega, show (4 * j + 1) % 4 = 1 by omega] at d1
              rw [show (4 * j + 2) / 4 = j by omega, show (4 * j + 2) % 4 = 2 by omega] at d2
              rw [show (4 * j + 3) / 4 = j by omega, show (4 * j + 3) % 4 = 3 by omega] at d3
              rw [d0, d1, d2, d3] at h4
              clear d0 d1 d2 d3
              generalize rd H j = X at *
              obtain ⟨m0, m1, m2, m3⟩ : IntKind.u8.wrap (X / 16777216) = X / 256 ^ (3 - 0) % 256 ∧ IntKind.u8.wrap (X / 65536) = X / 256 ^ (3 - 1) % 256 ∧ IntKind.u8.wrap (X / 256) = X / 256 ^ (3 - 2) % 256 ∧ IntKind.u8.wrap X = X / 256 ^ (3 - 3) % 256 := by
                simp only [IntKind.wrap_u8]
                refine ⟨?_, ?_, ?_, ?_⟩ <;> simp
              generalize X / 256 ^ (3 - 0) % 256 = y0 at *
              generalize X / 256 ^ (3 - 1) % 256 = y1 at *
              generalize X / 256 ^ (3 - 2) % 256 = y2 at *
              generalize X / 256 ^ (3 - 3) % 256 = y3 at *
              obtain ⟨z0, z1, z2, z3⟩ : IntKind.i64.wrap (4 * (j : Int)) = 4 * (j : Int) ∧ IntKind.i64.wrap (4 * (j : Int) + 1) = 4 * (j : Int) + 1 ∧ IntKind.i64.wrap (4 * (j : Int) + 2) = 4 * (j : Int) + 2 ∧ IntKind.i64.wrap (4 * (j : Int) + 3) = 4 * (j : Int) + 3 := by simp only [IntKind.wrap_i64]; omega
              obtain ⟨t0, t1, t2, t3⟩ : (4 * (j : Int)).toNat = 4 * j ∧ (4 * (j : Int) + 1).toNat = 4 * j + 1 ∧ (4 * (j : Int) + 2).toNat = 4 * j + 2 ∧ (4 * (j : Int) + 3).toNat = 4 * j + 3 := by omega
              obtain ⟨p0, p1, p2, p3⟩ : 0 ≤ 4 * (j : Int) ∧ 0 ≤ 4 * (j : Int) + 1 ∧ 0 ≤ 4 * (j : Int) + 2 ∧ 0 ≤ 4 * (j : Int) + 3 := by omega
              obtain ⟨q0, q1, q2, q3⟩ : 4 * (j : Int) < 32 ∧ 4 * (j : Int) + 1 < 32 ∧ 4 * (j : Int) + 2 < 32 ∧ 4 * (j : Int) + 3 < 32 := by omega
              go_wp2_with (first
                | ((with_reducible refine at_st 5 (.tmp 77) (.tmp 68) ?_); refine store_d rfl (.tmp 77) (.tmp 68) rfl (4 * j) rfl rfl HG.out (by rw [HFL.out _ (by omega)]; omega) ?_; rintro x1 S1; have HS1' := Aside0.mk S1; clear S1)
                | ((with_reducible refine at_st 5 (.tmp 78) (.tmp 71) ?_); refine store_d rfl (.tmp 78) (.tmp 71) rfl (4 * j + 1) rfl rfl HS1'.out.at_ (by simp only [List.length_set]; rw [HFL.out _ (by omega)]; omega) ?_; rintro x2 S2; have HS2' := Aside0.mk S2; clear S2)
                | ((with_reducible refine at_st 5 (.tmp 79) (.tmp 74) ?_); refine store_d rfl (.tmp 79) (.tmp 74) rfl (4 * j + 2) rfl rfl HS2'.out.at_ (by simp only [List.length_set]; rw [HFL.out _ (by omega)]; omega) ?_; rintro x3 S3; have HS3' := Aside0.mk S3; clear S3)
                | ((with_reducible refine at_st 5 (.tmp 80) (.tmp 76) ?_); refine store_d rfl (.tmp 80) (.tmp 76) rfl (4 * j + 3) rfl rfl HS3'.out.at_ (by simp only [List.length_set]; rw [HFL.out _ (by omega)]; omega) ?_; rintro x4 S4; have HS4' := Aside0.mk S4; clear S4))
              (try simp only [Act.put, List.setIfInBounds_toArray, List.set_cons_zero, List.set_cons_succ])
              go_roundw
              case rel => exact ⟨j + 1, by omega, by go_num, by rw [← h4.out]; exact HS4'.out.at_, (((HBB.out.trans (HS1'.out.below (Nat.le_refl _))).trans (HS2'.out.below (Nat.le_refl _))).trans (HS3'.out.below (Nat.le_refl _))).trans (HS4'.out.below (Nat.le_refl _))⟩
              case measure => simp [intOf]; omega
            · obtain rfl : j = 8 := by omega
              have eF : fillN (dgt H) 32 (4 * 8) = dgt H := by
                show fillN (dgt H) 32 32 = dgt H
                unfold fillN
                rw [List.take_of_length_le (by rw [hDL]; exact Nat.le_refl _)]
                simp
              rw [eF] at HG
              have hlt9 := blk_lt HR9.out
              have HR10 : Aside0 (wr.heap[w.heap.size]? = some (.cells (Nm (List.replicate 32 0)).toArray 40 (0, 0))) := ⟨blk_below HBB.out HR9.out⟩
              have hst := st_row (P := Tryd.prog) HR10.out 40 (Nm (dgt H)) (by rw [List.size_toArray, Nm_len, Nm_len, hDL, List.length_replicate]) (size_d _ hDL) (Nm_one _)
              have hld := ld_row (P := Tryd.prog) HG.out 40 _ Tryd.underlying40 rfl (by rw [List.size_toArray]; exact size_d _ hDL)
              have hset := setBlk_cells HR10.out (Nm (dgt H)) (by rw [List.size_toArray, Nm_len, Nm_len, hDL, List.length_replicate])
              generalize wr.setCells w.heap.size 0 (Nm (dgt H)) = w2 at *
              have HST' := Aside0.mk hst
              have HLD := Aside0.mk hld
              have H2 := Aside0.mk hset
              clear hst hld hset
              go_wp2_with (first | (refine load_arm rfl 40 (.tmp 7) rfl rfl HLD.out ?_) | (refine store_arm rfl 40 (.tmp 2) (.tmp 82) rfl rfl rfl HST'.out ?_))
              (try simp only [Exit.inBlock, Exit.then])
              refine bodyPost_ret (v := .agg (Nm (shaL xs)).toArray) (results_cell_row rfl _ _ w.heap.size _ _ _ _ rfl (by rw [HSW.out]; exact H2.out.at_) Tryd.underlying40 rfl ?_) rfl ⟨rfl, ((below_tr HB9.out HBB.out HB9.out.size)).trans (H2.out.below (Nat.le_refl _))⟩
              rw [size_d _ (shaL_len xs), List.size_toArray]
end Go.Proofs.YtnkkjmbpopodlaaDoor
