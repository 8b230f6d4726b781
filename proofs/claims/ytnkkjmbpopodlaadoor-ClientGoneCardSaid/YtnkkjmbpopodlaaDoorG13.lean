/- Plain lemmas and contracts, several texts in one: Wire3, Wire5, Wire6. Conditions: their own. -/
import Derived.Test.YtnkkjmbpopodlaaDoorG12
import Derived.Test.YtnkkjmbpopodlaaDoorG1
import Derived.Laws.Cover3
namespace Go.Proofs.YtnkkjmbpopodlaaDoor
open Go.RowKit Go.Proofs.YtnkkjmbpopodlaaDoorW.PrintWords Go.Proofs.YtnkkjmbpopodlaaDoorW.PrintMore
set_option linter.unusedVariables false
set_option linter.unusedSimpArgs false
theorem Z32_len : Z32.length = 32 := rfl
end Go.Proofs.YtnkkjmbpopodlaaDoor
namespace Go.Proofs.YtnkkjmbpopodlaaDoor
open Go.RowKit Go.Proofs.YtnkkjmbpopodlaaDoorW.PrintWords Go.Proofs.YtnkkjmbpopodlaaDoorW.PrintMore
set_option linter.unusedVariables false
set_option linter.unusedSimpArgs false
/-- The four bytes' number. -/
def wseq (y : List Int) : Int := rd y 1 + 256 * rd y 2 + 65536 * rd y 3 + 16777216 * rd y 4
/-- What the bytes say: kind, number, name, body, error. -/
def WR (xs : List Int) : Int × Int × List Int × List Int × Int :=
  if (ctake xs).2 ≠ 0 then (0, 0, Z32, [], (ctake xs).2)
  else if (ctake xs).1.length < 37 then (0, 0, Z32, [], 2)
  else if mayB (rd (ctake xs).1 0) (wseq (ctake xs).1) ((ctake xs).1.length - 37) then (rd (ctake xs).1 0, wseq (ctake xs).1, ((ctake xs).1.drop 5).take 32, (ctake xs).1.drop 37, 0)
  else (0, 0, Z32, [], 2)
theorem WR_err {xs y : List Int} {e : Int} (h : ctake xs = (y, e)) (he : e ≠ 0) : WR xs = (0, 0, Z32, [], e) := by
  unfold WR; rw [h]; rw [if_pos he]
theorem WR_short {xs y : List Int} {e : Int} (h : ctake xs = (y, e)) (he : e = 0) (hl : y.length < 37) : WR xs = (0, 0, Z32, [], 2) := by
  subst he; unfold WR; rw [h]; rw [if_neg (by simp), if_pos hl]
theorem WR_no {xs y : List Int} {e : Int} (h : ctake xs = (y, e)) (he : e = 0) (hl : ¬ y.length < 37) (hm : mayB (rd y 0) (wseq y) (y.length - 37) = false) : WR xs = (0, 0, Z32, [], 2) := by
  subst he; unfold WR; rw [h]; rw [if_neg (by simp), if_neg hl, if_neg (by simp [hm])]
theorem WR_ok {xs y : List Int} {e : Int} (h : ctake xs = (y, e)) (he : e = 0) (hl : ¬ y.length < 37) (hm : mayB (rd y 0) (wseq y) (y.length - 37) = true) : WR xs = (rd y 0, wseq y, (y.drop 5).take 32, y.drop 37, 0) := by
  subst he; unfold WR; rw [h]; rw [if_neg (by simp), if_neg hl, if_pos hm]
/-- One byte of what is read. -/
theorem rd_at {w : World} {ad : Addr} {n : Nat} {xs : List Int} (h : RdB w (some ad) n xs) (i : Nat) (hi : i < n) : w.cell? (ad.add i) = some (.int .u8 (rd xs i)) := by
  obtain ⟨ad', e, hx⟩ := Kd.at_int h (i : Int) (by omega) (by omega)
  cases e
  exact hx
/-- b[i:j], of some that are read. -/
theorem cutMidW {w : World} {ad : Addr} {n c : Nat} {xs : List Int} (h : RdB w (some ad) n xs) (hc : n ≤ c) (i j : Nat) (hi : i < j) (hj : j ≤ n) :
    (∀ W : World, (Instr.slice 37 (.slice (some ad) n c) (some (.int .i64 i)) (some (.int .i64 j)) none).run Tryd.prog W = .ok (.slice (some (ad.add i)) (j - i) (c - i)) W) ∧ RdB w (some (ad.add i)) (j - i) ((xs.drop i).take (j - i)) := by
  obtain ⟨i0, hinf, _, hsz, _⟩ := info_parts infoB
  constructor
  · intro W
    have hel : Tryd.prog.elem 37 = 5 := by simp [Program.elem, Tryd.underlying37]
    have hu : Tryd.prog.underlying 37 = some (.slice (Tryd.prog.elem 37)) := by rw [hel]; exact Tryd.underlying37
    rw [run_slice_lh W 37 (some ad) n c hu .i64 .i64 i j (by omega) (by omega) (by omega), hel]
    have hne : ¬ c = i := by omega
    simp [sizeOf, typeInfo, hinf, hsz, sliced, Result.andThen, hne]
  · have h1 := (Kd.reads_of_C (d := (0 : Int)) h).drop_ i (by omega) hc
    rw [if_neg (by omega)] at h1
    exact Kd.C_of_reads (h1.take_ (j - i) (by omega))
def RPost (xs : List Int) (w : World) (e : Ending) (w' : World) : Prop :=
  ∃ (k s : Int) (nm ys : List Int) (er : Int), nm.length = 32 ∧ e = .returned (.tuple #[.agg (Mc k s nm (.string (strOfNums ys))).toArray, .int .i64 er]) ∧ Aside0 ((k, s, nm, ys, er) = WR xs) ∧ Below w.heap.size w w'
end Go.Proofs.YtnkkjmbpopodlaaDoor
namespace Go.Proofs.YtnkkjmbpopodlaaDoor
open Go.Proofs.YtnkkjmbpopodlaaDoorW.PrintLast (i64_w i32_w)
open Go.RowKit Go.Proofs.YtnkkjmbpopodlaaDoorW.PrintWords Go.Proofs.YtnkkjmbpopodlaaDoorW.PrintMore
set_option linter.unusedVariables false
set_option linter.unusedSimpArgs false
theorem ofInt_i64 (a : Nat) (h : a < 18446744073709551616) : (BitVec.ofInt 64 (a : Int)).toNat = a := by
  simp [BitVec.toNat_ofInt]
  omega
theorem i64_or_nat (a b : Nat) (ha : a < 9223372036854775808) (hb : b < 9223372036854775808) : Go.bits .or .i64 (a : Int) (b : Int) = ((a ||| b : Nat) : Int) := by
  have hx : a ||| b < 2 ^ 63 := Nat.or_lt_two_pow (by omega) (by omega)
  show IntKind.i64.wrap ((BitVec.ofInt 64 (a : Int) ||| BitVec.ofInt 64 (b : Int)).toNat : Int) = _
  rw [BitVec.toNat_or, ofInt_i64 a (by omega), ofInt_i64 b (by omega), IntKind.wrap_i64]
  omega
theorem i64_join8 (s x : Int) (h0 : 0 ≤ s) (h1 : s < 16777216) (h2 : 0 ≤ x) (h3 : x < 256) : Go.bits .or .i64 (256 * s) x = 256 * s + x := by
  obtain ⟨a, rfl⟩ := Int.eq_ofNat_of_zero_le h0
  obtain ⟨b, rfl⟩ := Int.eq_ofNat_of_zero_le h2
  have := i64_or_nat (256 * a) b (by omega) (by omega)
  rw [show (256 * (a : Int)) = ((256 * a : Nat) : Int) by omega, this, nat_join 8 (256 * a) b (by omega) (by omega)]
  omega
/-- The number behind j of its bytes, the highest one first. -/
def sqv (y : List Int) : Nat → Int
  | 0 => 0
  | j + 1 => 256 * sqv y j + rd y (4 - j)
theorem sqv4 (y : List Int) : sqv y 4 = wseq y := by
  simp only [sqv, wseq]
  simp
  omega
theorem sqv_range {y : List Int} (h : Bytes y) : ∀ j, j < 4 → 0 ≤ sqv y j ∧ sqv y j < 16777216 := by
  intro j hj
  have b1 := h.at_ 4
  have b2 := h.at_ 3
  have b3 := h.at_ 2
  have e1 : sqv y 1 = rd y 4 := by simp [sqv]
  have e2 : sqv y 2 = 256 * rd y 4 + rd y 3 := by simp [sqv]
  have e3 : sqv y 3 = 256 * (256 * rd y 4 + rd y 3) + rd y 2 := by simp [sqv]
  obtain rfl | rfl | rfl | rfl : j = 0 ∨ j = 1 ∨ j = 2 ∨ j = 3 := by omega
  · simp [sqv]
  · rw [e1]; omega
  · rw [e2]; omega
  · rw [e3]; omega
theorem rng_rdW {w : World} {g o n : Nat} {xs : List Int} (h : RdB w (some ⟨g, o, none⟩) n xs) : w.rangeAt g o (Nm xs) := by
  intro i v hv
  simp only [Nm, List.getElem?_map] at hv
  have hl := h.1
  rcases hx : xs[i]? with _ | x
  · rw [hx] at hv; cases hv
  · rw [hx] at hv
    obtain rfl := Option.some.inj hv
    have hi := (List.getElem?_eq_some_iff.1 hx).1
    have := rd_at h i (by omega)
    rw [show (Addr.add ⟨g, o, none⟩ i) = ⟨g, o + i, none⟩ from by unfold Addr.add; split <;> simp_all] at this
    rw [this]
    simp [rd, List.getD_eq_getElem?_getD, hx]
theorem ctake_len (l : List Int) : (ctake l).1.length ≤ l.length := by
  unfold ctake
  split
  · simp
  · split
    · simp
    · simp
def WPost (xs : List Int) (w : World) (e : Ending) (w' : World) : Prop :=
  ∃ (k s : Int) (nm ys : List Int) (er : Int) (A : Option Addr) (n c : Nat), nm.length = 32 ∧ e = .returned (.tuple #[.agg (Mc k s nm (.slice A n c)).toArray, .int .i64 er]) ∧ Aside0 (RdB w' A n ys ∧ n ≤ c) ∧ Aside0 ((k, s, nm, ys, er) = WR xs) ∧ Below w.heap.size w w'
set_option maxHeartbeats 3200000 in
set_option maxRecDepth 20000 in
/-- wire.Read -/
theorem wread_calls (A : Option Addr) (n c : Nat) (xs : List Int) (w : World) (h : RdB w A n xs) (hc : n ≤ c) (hb : Bytes xs) (hn : n ≤ 70368744177664) :
    Calls Tryd.prog 29 #[.slice A n c] w fun e w' => WPost xs w e w' := by
  have HX := Aside0.mk h
  have HXB := Aside0.mk hb
  obtain rfl : xs.length = n := h.1
  clear h hb
  have Q0 : Aside0 (∀ o, Bag w (w.alloc (.cells o 66)) [(w.heap.size, .cells o 66 (0, 0))]) := ⟨fun o => (Bag.nil w).box o 66⟩
  rcases hT : ctake xs with ⟨y, er⟩
  have HT := Aside0.mk hT
  have hyb : Bytes y := by have := ctake_bytes HXB.out; rwa [hT] at this
  clear hT
  by_cases her : er = 0
  · by_cases hl : y.length < 37
    · have HW := Aside0.mk (WR_short HT.out her hl)
      subst er
      go_enter Tryd.func29, Tryd.ntmps29
      go_wp2_with (first
        | (go_at_call 56; refine (take_calls A xs.length c xs _ (Kd.C_below HX.out (Q0.out _).below) hc HXB.out hn).mono ?_; rw [HT.out]; rintro e w1 ⟨v1, rfl, hO, hB1⟩; have Q1 := (Q0.out _).call hB1; obtain ⟨B1, d1, hv1, hd1, hr1⟩ := OwB.reads hO; clear hd1 hr1 hO hB1; subst hv1)
        | ((with_reducible refine at_bd 66 ?_); refine build_arm rfl 66 _ rfl built_wz ?_; simp only [Act.put, List.setIfInBounds_toArray, List.set_cons_zero, List.set_cons_succ])
        | ((with_reducible refine at_st 66 (.tmp 2) (.tmp 20) ?_); have hq := Q1.at 0 rfl; refine store_blk rfl 66 (.tmp 2) (.tmp 20) rfl rfl rfl hq (by rw [Mc_len Z32_len]; rfl) (size_w Z32_len) (Mc_one rfl) ?_; clear hq; rintro w7 HS))
      have Q7 := Q1.set 0 rfl HS
      (try simp only [Exit.inBlock, Exit.then])
      refine bodyPost_ret (v := .tuple #[.agg _, _]) (results_cell_tmp rfl _ _ w.heap.size _ _ _ _ rfl HS.at_ Tryd.underlying66 rfl ?_) rfl (show WPost xs w _ _ from ⟨0, 0, Z32, [], 2, none, 0, 0, Z32_len, rfl, ⟨Kd.C_nil _ _, Nat.le_refl _⟩, ⟨HW.out.symm⟩, Q7.below⟩)
      · rw [size_w Z32_len, List.size_toArray]
    · have h37 : 37 ≤ y.length := by omega
      have hnl : ((y.drop 5).take 32).length = 32 := by rw [List.length_take, List.length_drop]; omega
      have HNL := Aside0.mk hnl
      clear hnl
      have b0 := hyb.at_ 0
      have HW0 : Aside0 (WR xs = if mayB (rd y 0) (wseq y) (y.length - 37) then (rd y 0, wseq y, (y.drop 5).take 32, y.drop 37, 0) else (0, 0, Z32, [], 2)) := ⟨by
        rcases hm : mayB (rd y 0) (wseq y) (y.length - 37) with _ | _
        · rw [WR_no HT.out her hl hm]; rfl
        · rw [WR_ok HT.out her hl hm]; rfl⟩
      clear hl
      subst er
      obtain ⟨nm, HNM⟩ : ∃ nm, Aside0 (nm = (y.drop 5).take 32) := ⟨_, ⟨rfl⟩⟩
      rw [← HNM.out] at HNL HW0
      go_enter Tryd.func29, Tryd.ntmps29
      go_wp2_with (go_at_call 56; refine (take_calls A xs.length c xs _ (Kd.C_below HX.out (Q0.out _).below) hc HXB.out hn).mono ?_; rw [HT.out]; rintro e w1 ⟨v1, rfl, hO, hB1⟩; have Q1 := (Q0.out _).call hB1; obtain ⟨g, d, hv1, hg1, hg2⟩ := OwB.place hO (show 0 < y.length by omega); have HG := Aside0.mk hg1; have HO := Aside0.mk hO; clear hO hB1; subst hv1)
      obtain ⟨hd, HR⟩ : y.length ≤ d ∧ Aside0 (RdB w1 (some ⟨g, 0, none⟩) y.length y) := ⟨(OwB.parts HO.out).1, ⟨(OwB.parts HO.out).2⟩⟩
      have i0 : 0 < y.length := by omega
      have HYL : Aside0 (y.length ≤ 140737488355328) := ⟨by have h2 := ctake_len xs; rw [HT.out] at h2; exact Nat.le_trans h2 (by omega)⟩
      have f0 : IntKind.i64.wrap (rd y 0) = rd y 0 := by rw [IntKind.wrap_i64]; omega
      have hs1 : ∀ W : World, (Instr.slice 37 (.slice (some ⟨g, 0, none⟩) y.length d) (some (.int .i64 5)) (some (.int .i64 37)) none).run Tryd.prog W = .ok (.slice (some ⟨g, 5, none⟩) 32 (d - 5)) W := (cutMidW HR.out hd 5 37 (by omega) (by omega)).1
      have HR5 : Aside0 (RdB w1 (some ⟨g, 5, none⟩) 32 nm) := ⟨by rw [HNM.out]; exact (cutMidW HR.out hd 5 37 (by omega) (by omega)).2⟩
      have hat : ∀ W : World, (Instr.arrayAt 40 (.slice (some ⟨g, 5, none⟩) 32 (d - 5))).run Tryd.prog W = .ok (.pointer (some ⟨g, 5, none⟩)) W := fun W => run_arrayAt W 40 _ 32 _ 32 (d - 5) Tryd.underlying40 (Nat.le_refl _)
      refine seq_start [10] (.take 0 (.take 1 (.take 2 (.take 3 (.take 4 (.take 5 (.take 6 (.take 7 (.take 8 (.run 9 (.run 10 .done))))))))))) (by kernel_rfl) (by kernel_rfl) (fun _ _ d _ _ h => by cases d <;> exact h) ?_
      refine seq_take (v := ?_) (a' := ?_) rfl rfl (by rfl) (fun w' hw' => ?_) ?_ ?_
      rotate_left 2
      · go_simp
        with_reducible rfl
      · simp only [Act.put, List.setIfInBounds_toArray, List.set_cons_zero, List.set_cons_succ, i64_w, i32_w]
        rfl
      refine seq_take (v := ?_) (a' := ?_) rfl rfl (by rfl) (fun w' hw' => ?_) ?_ ?_
      rotate_left 2
      · go_simp
        with_reducible rfl
      · simp only [Act.put, List.setIfInBounds_toArray, List.set_cons_zero, List.set_cons_succ, i64_w, i32_w]
        rfl
      refine seq_take (v := ?_) (a' := ?_) rfl rfl (by rfl) (fun w' hw' => ?_) ?_ ?_
      rotate_left 2
      · have hx : w'.cell? ⟨g, 0, none⟩ = some (.int .u8 (rd y 0)) := rd_at (Kd.C_below (Kd.C_drew HR.out) hw') 0 (by omega); go_simp
        with_reducible rfl
      · simp only [Act.put, List.setIfInBounds_toArray, List.set_cons_zero, List.set_cons_succ, i64_w, i32_w]
        rfl
      refine seq_take (v := ?_) (a' := ?_) rfl rfl (by rfl) (fun w' hw' => ?_) ?_ ?_
      rotate_left 2
      · go_simp
        with_reducible rfl
      · simp only [Act.put, List.setIfInBounds_toArray, List.set_cons_zero, List.set_cons_succ, i64_w, i32_w]
        rfl
      refine seq_take (v := ?_) (a' := ?_) rfl rfl (by rfl) (fun w' hw' => ?_) ?_ ?_
      rotate_left 2
      · go_simp
        with_reducible rfl
      · simp only [Act.put, List.setIfInBounds_toArray, List.set_cons_zero, List.set_cons_succ, i64_w, i32_w]
        rfl
      refine seq_take (v := ?_) (a' := ?_) rfl rfl (by rfl) (fun w' hw' => ?_) ?_ ?_
      rotate_left 2
      · go_simp
        with_reducible rfl
      · simp only [Act.put, List.setIfInBounds_toArray, List.set_cons_zero, List.set_cons_succ, i64_w, i32_w]
        rfl
      refine seq_take (v := ?_) (a' := ?_) rfl rfl (by rfl) (fun w' hw' => ?_) ?_ ?_
      rotate_left 2
      · go_simp
        with_reducible rfl
      · simp only [Act.put, List.setIfInBounds_toArray, List.set_cons_zero, List.set_cons_succ, i64_w, i32_w]
        rfl
      refine seq_take (v := _) (a' := ?_) rfl rfl (by rfl) (fun w' hw' => load_run rfl (p := .pointer (some ⟨g, 5, none⟩)) rfl (run_loadAt_mid _ g 5 40 (Nm nm) _ (rng_rdW (Kd.C_below (Kd.C_drew HR5.out) hw')) Tryd.underlying40 rfl (size_d nm HNL.out))) ?_ ?_
      rotate_left
      · simp only [Act.put, List.setIfInBounds_toArray, List.set_cons_zero, List.set_cons_succ, i64_w, i32_w]
        rfl
      refine seq_take (v := _) (a' := ?_) rfl rfl (by rfl) (fun w' hw' => build_run _ _ rfl (built_w02 (rd y 0) 0 nm HNL.out)) ?_ ?_
      rotate_left
      · simp only [Act.put, List.setIfInBounds_toArray, List.set_cons_zero, List.set_cons_succ, i64_w, i32_w]
        rfl
      refine seq_run ?_
      refine do_val (v := ?_) (a' := ?_) (w1 := ?_) rfl rfl (by rfl) ?_ ?_ ?_
      rotate_left 3
      · go_simp
        constructor <;> rfl
      · simp only [Act.put, List.setIfInBounds_toArray, List.set_cons_zero, List.set_cons_succ, i64_w, i32_w]
        rfl
      refine ⟨fun _ => below_alloc (Below.refl _ _) _, ?_⟩
      refine seq_run ?_
      refine do_blk rfl rfl (by rfl) 66 (.tmp 6) (.tmp 29) rfl rfl rfl (blk_new w1.drew _) (by rw [Mc_len HNL.out]; rfl) (size_w HNL.out) (Mc_one rfl) ?_
      rintro w3 HS
      refine ⟨fun h => absurd (by simp) h, ?_⟩
      refine seq_end ?_
      have Q3 := (Q1.drew.box _ _).set 1 rfl HS
      have D3 : Below w1.heap.size w1 w3 := (Below.alloc (Below.drew (Below.refl w1.heap.size w1)) (Nat.le_refl _) _).trans (HS.below (Nat.le_refl _))
      go_wp2
      obtain ⟨o0, ho0, Q4⟩ : ∃ o, o.size = 35 ∧ Bag w w3 [(w.heap.size, .cells o 66 (0, 0)), (w1.heap.size, .cells (Mc (rd y 0) (sqv y 0) nm (.slice none 0 0)).toArray 66 (0, 0))] := ⟨_, rfl, Q3⟩
      clear Q1 Q3 HS hs1 hat HR5 i0
      go_loopw [7] (fun i wr => ∃ j : Nat, j ≤ 4 ∧ i = .int .i64 (4 - (j : Int)) ∧ Bag w wr [(w.heap.size, .cells o0 66 (0, 0)), (w1.heap.size, .cells (Mc (rd y 0) (sqv y j) nm (.slice none 0 0)).toArray 66 (0, 0))] ∧ Below w1.heap.size w1 wr) (fun i _ => (intOf i).toNat)
      case atStart => exact ⟨0, by omega, rfl, Q4, D3⟩
      case round =>
        obtain ⟨j, hj, rfl, Q5, D5⟩ := hrel
        have HQ5 := Aside0.mk Q5
        have HD5 := Aside0.mk D5
        clear Q5 D5 Q4 D3
        by_cases hlt : j < 4
        · obtain ⟨r0, r1⟩ := sqv_range hyb j hlt
          have bj := hyb.at_ (4 - (j : Int))
          have HSV : Aside0 (sqv y (j + 1) = 256 * sqv y j + rd y (4 - (j : Int))) := ⟨rfl⟩
          have hjn := i64_join8 (sqv y j) (rd y (4 - (j : Int))) r0 r1 bj.1 bj.2
          have HX4 : Aside0 (∀ W, Later wr.drew W → W.cell? ⟨g, 4 - j, none⟩ = some (.int .u8 (rd y (4 - (j : Int))))) := ⟨fun W hW => by
            have := rd_at (Kd.C_below (Kd.C_drew (Kd.C_below HR.out HD5.out)) hW) (4 - j) (by omega)
            rw [show (((4 - j : Nat) : Int)) = 4 - (j : Int) by omega] at this
            rw [← this]
            congr 1
            simp [Addr.add]
            omega⟩
          have HL1 : Aside0 (∀ W, Later wr.drew W → (Instr.loadAt 3 (.pointer (some ⟨w1.heap.size, 1, none⟩))).run Tryd.prog W = .ok (.int .i64 (sqv y j)) W) := ⟨fun W hW => ld_f1 (hW.heap (w := wr.drew) (HQ5.out.at 1 rfl)) HNL.out⟩
          generalize sqv y j = sv at *
          generalize rd y (4 - (j : Int)) = x at *
          have fx : IntKind.i64.wrap x = x := by rw [IntKind.wrap_i64]; omega
          have fs : IntKind.i64.wrap (sv * 256) = 256 * sv := by rw [IntKind.wrap_i64]; omega
          go_wp2
          refine seq_start [10] (.take 0 (.take 1 (.take 2 (.take 3 (.take 4 (.take 5 (.take 6 (.take 7 (.take 8 (.take 9 (.run 10 .done))))))))))) (by kernel_rfl) (by kernel_rfl) (fun _ _ d _ _ h => by cases d <;> exact h) ?_
          refine seq_take (v := ?_) (a' := ?_) rfl rfl (by rfl) (fun w' hw' => ?_) ?_ ?_
          rotate_left 2
          · go_simp
            with_reducible rfl
          · simp only [Act.put, List.setIfInBounds_toArray, List.set_cons_zero, List.set_cons_succ, i64_w, i32_w]
            rfl
          refine seq_take (v := _) (a' := ?_) rfl rfl (by rfl) (fun w' hw' => load_run rfl (p := .pointer (some ⟨w1.heap.size, 1, none⟩)) rfl (HL1.out w' hw')) ?_ ?_
          rotate_left
          · simp only [Act.put, List.setIfInBounds_toArray, List.set_cons_zero, List.set_cons_succ, i64_w, i32_w]
            rfl
          refine seq_take (v := ?_) (a' := ?_) rfl rfl (by rfl) (fun w' hw' => ?_) ?_ ?_
          rotate_left 2
          · go_simp
            with_reducible rfl
          · simp only [Act.put, List.setIfInBounds_toArray, List.set_cons_zero, List.set_cons_succ, i64_w, i32_w]
            rfl
          refine seq_take (v := ?_) (a' := ?_) rfl rfl (by rfl) (fun w' hw' => ?_) ?_ ?_
          rotate_left 2
          · go_simp
            with_reducible rfl
          · simp only [Act.put, List.setIfInBounds_toArray, List.set_cons_zero, List.set_cons_succ, i64_w, i32_w]
            rfl
          refine seq_take (v := ?_) (a' := ?_) rfl rfl (by rfl) (fun w' hw' => ?_) ?_ ?_
          rotate_left 2
          · go_simp
            with_reducible rfl
          · simp only [Act.put, List.setIfInBounds_toArray, List.set_cons_zero, List.set_cons_succ, i64_w, i32_w]
            rfl
          refine seq_take (v := ?_) (a' := ?_) rfl rfl (by rfl) (fun w' hw' => ?_) ?_ ?_
          rotate_left 2
          · have hx := HX4.out w' hw'; have hti : (4 - (j : Int)).toNat = 4 - j := (by omega); have hb1 : (j : Int) ≤ 4 := (by omega); have hb2 : 4 - (j : Int) < (y.length : Int) := (by omega); go_simp
            with_reducible rfl
          · simp only [Act.put, List.setIfInBounds_toArray, List.set_cons_zero, List.set_cons_succ, i64_w, i32_w]
            rfl
          refine seq_take (v := ?_) (a' := ?_) rfl rfl (by rfl) (fun w' hw' => ?_) ?_ ?_
          rotate_left 2
          · have hx := HX4.out w' hw'; go_simp
            with_reducible rfl
          · simp only [Act.put, List.setIfInBounds_toArray, List.set_cons_zero, List.set_cons_succ, i64_w, i32_w]
            rfl
          refine seq_take (v := ?_) (a' := ?_) rfl rfl (by rfl) (fun w' hw' => ?_) ?_ ?_
          rotate_left 2
          · go_simp
            with_reducible rfl
          · simp only [Act.put, List.setIfInBounds_toArray, List.set_cons_zero, List.set_cons_succ, i64_w, i32_w]
            rfl
          refine seq_take (v := ?_) (a' := ?_) rfl rfl (by rfl) (fun w' hw' => ?_) ?_ ?_
          rotate_left 2
          · go_simp
            with_reducible rfl
          · simp only [Act.put, List.setIfInBounds_toArray, List.set_cons_zero, List.set_cons_succ, i64_w, i32_w]
            rfl
          refine seq_take (v := ?_) (a' := ?_) rfl rfl (by rfl) (fun w' hw' => ?_) ?_ ?_
          rotate_left 2
          · go_simp
            with_reducible rfl
          · simp only [Act.put, List.setIfInBounds_toArray, List.set_cons_zero, List.set_cons_succ, i64_w, i32_w]
            rfl
          refine seq_run ?_
          refine do_store (w1 := ?_) rfl rfl (by rfl) ?_ ?_
          rotate_left
          · obtain ⟨⟨u, hc⟩, hf⟩ := st_there (w := wr.drew) (HQ5.out.at 1 rfl) HNL.out 1 (by omega); go_simp
            rfl
          refine ⟨fun h => absurd (by simp) h, ?_⟩
          refine seq_end ?_
          have S := setBlk_cell (HQ5.out.at 1 rfl) (.int .i64 (256 * sv + x)) (i := 1)
          rw [mc_set1, ← HSV.out] at S
          rw [← HSV.out]
          have Q6 := (HQ5.out.set 1 rfl S).drew
          have D6 := Below.drew (HD5.out.trans (S.below (Nat.le_refl _)))
          go_wp2
          go_roundw
          case rel => exact ⟨j + 1, by omega, by go_num, Q6, D6⟩
          case measure => simp [intOf]; omega
        · obtain rfl : j = 4 := by omega
          rw [sqv4] at HQ5
          obtain ⟨B37, hs2, HR37⟩ : ∃ B, (∀ W : World, (Instr.slice 37 (.slice (some ⟨g, 0, none⟩) y.length d) (some (.int .i64 37)) none none).run Tryd.prog W = .ok (.slice B (y.length - 37) (d - 37)) W) ∧ Aside0 (RdB wr B (y.length - 37) (y.drop 37)) := ⟨_, (cutFrom (Kd.C_below HR.out HD5.out) hd 37 (by omega) (by omega)).1, ⟨(cutFrom (Kd.C_below HR.out HD5.out) hd 37 (by omega) (by omega)).2⟩⟩
          obtain ⟨bd, HBD⟩ : ∃ bd, Aside0 (bd = y.drop 37) := ⟨_, ⟨rfl⟩⟩
          rw [← HBD.out] at HR37
          have HBL : Aside0 (bd.length = y.length - 37) := ⟨by rw [HBD.out, List.length_drop]⟩
          have hyl : y.length ≤ 140737488355328 := HYL.out
          have hbl : bd.length ≤ 140737488355328 := by rw [HBL.out]; omega
          rcases hm : mayB (rd y 0) (wseq y) (y.length - 37) with _ | _
          · have HM := Aside0.mk hm
            clear hm
            go_wp2_with (first
              | (go_at_call 57; refine (clone_calls B37 (y.length - 37) (d - 37) bd _ HR37.out (by omega)).mono ?_; rintro e w5 ⟨v2, rfl, hO2, hB2⟩; have Q7 := HQ5.out.call hB2; obtain ⟨A2, c2, hv2, hc2, hr2⟩ := OwB.reads hO2; have HO2 := Aside0.mk hO2; have HB2 := Aside0.mk hB2; clear hc2 hr2 hO2 hB2; subst hv2)
              | ((with_reducible refine at_st 37 (.tmp 47) (.tmp 46) ?_); refine store_f3b rfl (.tmp 47) (.tmp 46) rfl rfl rfl (Q7.at 1 rfl) HNL.out ?_; rintro w6 S2; have Q8 := Q7.set 1 rfl S2)
              | ((with_reducible refine at_ld (w := w6) 66 (.tmp 6) ?_); have hq := Q8.at 1 rfl; refine load_arm rfl 66 (.tmp 6) rfl rfl (ld_w hq HNL.out) ?_; clear hq; simp only [Act.put, List.setIfInBounds_toArray, List.set_cons_zero, List.set_cons_succ])
              | (go_at_call 58; refine (wmay_calls (rd y 0) (wseq y) nm A2 bd.length c2 _ w6 rfl HNL.out (by omega)).mono ?_; rw [HBL.out, HM.out]; rintro e w7 ⟨rfl, hB7⟩; have Q9 := Q8.call hB7; have HB7 := Aside0.mk hB7; clear hB7)
              | ((with_reducible refine at_bd 66 ?_); refine build_arm rfl 66 _ rfl built_wz ?_; simp only [Act.put, List.setIfInBounds_toArray, List.set_cons_zero, List.set_cons_succ])
              | ((with_reducible refine at_st 66 (.tmp 2) (.tmp 51) ?_); have hq := Q9.at 0 rfl; refine store_blk rfl 66 (.tmp 2) (.tmp 51) rfl rfl rfl hq (by rw [Mc_len Z32_len]; exact ho0) (size_w Z32_len) (Mc_one rfl) ?_; clear hq; rintro w8 HS))
            have Q10 := Q9.set 0 rfl HS
            (try simp only [Exit.inBlock, Exit.then])
            refine bodyPost_ret (v := .tuple #[.agg _, _]) (results_cell_tmp rfl _ _ w.heap.size _ _ _ _ rfl HS.at_ Tryd.underlying66 rfl ?_) rfl (show WPost xs w _ _ from ⟨0, 0, Z32, [], 2, none, 0, 0, Z32_len, rfl, ⟨Kd.C_nil _ _, Nat.le_refl _⟩, ⟨by rw [HW0.out, HM.out]; rfl⟩, Q10.below⟩)
            · rw [size_w Z32_len, List.size_toArray]
          · have HM := Aside0.mk hm
            clear hm
            go_wp2_with (first
              | (go_at_call 57; refine (clone_calls B37 (y.length - 37) (d - 37) bd _ HR37.out (by omega)).mono ?_; rintro e w5 ⟨v2, rfl, hO2, hB2⟩; have Q7 := HQ5.out.call hB2; obtain ⟨A2, c2, hv2, hc2, hr2⟩ := OwB.reads hO2; have HO2 := Aside0.mk hO2; have HB2 := Aside0.mk hB2; clear hc2 hr2 hO2 hB2; subst hv2)
              | ((with_reducible refine at_st 37 (.tmp 47) (.tmp 46) ?_); refine store_f3b rfl (.tmp 47) (.tmp 46) rfl rfl rfl (Q7.at 1 rfl) HNL.out ?_; rintro w6 S2; have Q8 := Q7.set 1 rfl S2)
              | ((with_reducible refine at_ld (w := w6) 66 (.tmp 6) ?_); have hq := Q8.at 1 rfl; refine load_arm rfl 66 (.tmp 6) rfl rfl (ld_w hq HNL.out) ?_; clear hq; simp only [Act.put, List.setIfInBounds_toArray, List.set_cons_zero, List.set_cons_succ])
              | (go_at_call 58; refine (wmay_calls (rd y 0) (wseq y) nm A2 bd.length c2 _ w6 rfl HNL.out (by omega)).mono ?_; rw [HBL.out, HM.out]; rintro e w7 ⟨rfl, hB7⟩; have Q9 := Q8.call hB7; have HB7 := Aside0.mk hB7; clear hB7)
              | ((with_reducible refine at_ld (w := w7) 66 (.tmp 6) ?_); have hq := Q9.at 1 rfl; refine load_arm rfl 66 (.tmp 6) rfl rfl (ld_w hq HNL.out) ?_; clear hq; simp only [Act.put, List.setIfInBounds_toArray, List.set_cons_zero, List.set_cons_succ])
              | ((with_reducible refine at_st 66 (.tmp 2) (.tmp 52) ?_); have hq := Q9.at 0 rfl; refine store_blk rfl 66 (.tmp 2) (.tmp 52) rfl rfl rfl hq (by rw [Mc_len HNL.out]; exact ho0) (size_w HNL.out) (Mc_one rfl) ?_; clear hq; rintro w8 HS))
            have Q10 := Q9.set 0 rfl HS
            (try simp only [Exit.inBlock, Exit.then])
            refine bodyPost_ret (v := .tuple #[.agg _, _]) (results_cell_tmp rfl _ _ w.heap.size _ _ _ _ rfl HS.at_ Tryd.underlying66 rfl ?_) rfl (show WPost xs w _ _ from ⟨rd y 0, wseq y, nm, bd, 0, A2, bd.length, c2, HNL.out, rfl, ⟨?_, (OwB.parts HO2.out).1⟩, ⟨by rw [HW0.out, HM.out, HBD.out]; rfl⟩, Q10.below⟩)
            · rw [size_w HNL.out, List.size_toArray]
            · refine rd_far HO2.out fun k hk1 hk2 => ?_
              have l1 := blk_lt (HQ5.out.at 1 rfl)
              have l2 := blk_lt (HQ5.out.at 0 rfl)
              have z2 := S2.size
              rw [HS.else_ k (by omega), HB7.out.block k (by omega), S2.else_ k (by omega)]
  · have HW := Aside0.mk (WR_err HT.out her)
    have her' : (er != 0) = true := by simpa using her
    go_enter Tryd.func29, Tryd.ntmps29
    go_wp2_with (first
      | (go_at_call 56; refine (take_calls A xs.length c xs _ (Kd.C_below HX.out (Q0.out _).below) hc HXB.out hn).mono ?_; rw [HT.out]; rintro e w1 ⟨v1, rfl, hO, hB1⟩; have Q1 := (Q0.out _).call hB1; obtain ⟨B1, d1, hv1, hd1, hr1⟩ := OwB.reads hO; clear hd1 hr1 hO hB1; subst hv1)
      | ((with_reducible refine at_bd 66 ?_); refine build_arm rfl 66 _ rfl built_wz ?_; simp only [Act.put, List.setIfInBounds_toArray, List.set_cons_zero, List.set_cons_succ])
      | ((with_reducible refine at_st 66 (.tmp 2) (.tmp 15) ?_); have hq := Q1.at 0 rfl; refine store_blk rfl 66 (.tmp 2) (.tmp 15) rfl rfl rfl hq (by rw [Mc_len Z32_len]; rfl) (size_w Z32_len) (Mc_one rfl) ?_; clear hq; rintro w7 HS))
    have Q7 := Q1.set 0 rfl HS
    (try simp only [Exit.inBlock, Exit.then])
    refine bodyPost_ret (v := .tuple #[.agg _, _]) (results_cell_tmp rfl _ _ w.heap.size _ _ _ _ rfl HS.at_ Tryd.underlying66 rfl ?_) rfl (show WPost xs w _ _ from ⟨0, 0, Z32, [], er, none, 0, 0, Z32_len, rfl, ⟨Kd.C_nil _ _, Nat.le_refl _⟩, ⟨HW.out.symm⟩, Q7.below⟩)
    · rw [size_w Z32_len, List.size_toArray]
end Go.Proofs.YtnkkjmbpopodlaaDoor
