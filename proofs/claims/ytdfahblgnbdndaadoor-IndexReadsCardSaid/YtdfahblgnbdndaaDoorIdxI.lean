/- lighterageref11.Read: what it computes. Conditions: bytes that are read. -/
import Derived.Test.YtdfahblgnbdndaaDoorIdxG
import Derived.Test.YtdfahblgnbdndaaDoorIdxD
import Derived.Test.YtdfahblgnbdndaaDoorIdxH
import Derived.Deep.CutBlock
import Derived.Deep.DeepCutAuto
namespace Go.Proofs.YtdfahblgnbdndaaDoor
open Go.RowKit Go.Shelf Go.Proofs.YtdfahblgnbdndaaDoorW.PrintWords Go.Proofs.YtdfahblgnbdndaaDoorW.PrintMore
set_option linter.unusedVariables false
set_option linter.unusedSimpArgs false
theorem cut32 {w : World} {A : Option Addr} {n c : Nat} {xs : List Int} (h : RdB w A n xs) (hc : n ≤ c) (p : Nat) (hp : p + 32 ≤ n) :
    ∃ B' d', (∀ W : World, (Instr.slice 33 (.slice A n c) (some (.int .i64 (p : Int))) (some (.int .i64 ((p : Int) + 32))) none).run Tryd.prog W = .ok (.slice B' 32 d') W) ∧ ∀ W', RdB W' A n xs → RdB W' B' 32 ((xs.drop p).take 32) := by
  have h1 := fun (W' : World) (h : RdB W' A n xs) => cutMid h hc (p : Int) ((p : Int) + 32) (by omega) (by omega) (by omega)
  have e1 : (p : Int).toNat = p := by omega
  have e2 : ((p : Int) + 32).toNat = p + 32 := by omega
  simp only [e1, e2, show p + 32 - p = 32 by omega] at h1
  refine ⟨_, _, (h1 w h).1, fun W' hW => ?_⟩
  have h2 := (h1 W' hW).2
  have e3 : midL xs p (p + 32) = (xs.drop p).take 32 := by
    unfold midL
    rw [List.drop_take]
    congr 1
    omega
  rwa [e3] at h2
theorem rnumI_calls (A : Option Addr) (n c : Nat) (xs : List Int) (I : Int) (i : Nat) (w : World) (hI : I = (i : Int)) (h : RdB w A n xs) (hb : Bytes xs) (hi : i + 4 ≤ n) (hn : n ≤ 1099511627776) :
    Calls Tryd.prog 53 #[.slice A n c, .int .i64 I] w fun e w' => e = .returned (.int .i64 (num xs i)) ∧ Below w.heap.size w w' := by
  subst hI
  exact rnum_calls A n c xs i w h hb hi hn
def RPost (xs : List Int) (w : World) (e : Ending) (w' : World) : Prop :=
  ∃ (a b c : Int) (im : List Int) (its : List Itm) (er : Int) (A : Option Addr) (n cp : Nat), im.length = 32 ∧ n ≤ 4096 ∧ e = .returned (.tuple #[.agg (Xc a b c im (.slice A n cp)).toArray, .int .i64 er]) ∧ Aside0 (RdI w' A n its) ∧ Aside0 ((a, b, c, im, its, er) = XR xs) ∧ Below w.heap.size w w'
set_option maxRecDepth 20000 in
set_option maxHeartbeats 6400000 in
/-- lighterageref11.Read -/
theorem rread_calls (A : Option Addr) (n c : Nat) (xs : List Int) (w : World) (h : RdB w A n xs) (hc : n ≤ c) (hb : Bytes xs) (hn : n ≤ 1099511627776) :
    Calls Tryd.prog 32 #[.slice A n c] w fun e w' => RPost xs w e w' := by
  have HX := Aside0.mk h
  have HXB := Aside0.mk hb
  obtain rfl : xs.length = n := h.1
  clear h hb
  have Q0 : Aside0 (∀ o, Bag w (w.alloc (.cells o 38)) [(w.heap.size, .cells o 38 (0, 0))]) := ⟨fun o => (Bag.nil w).box o 38⟩
  rcases hT : ctake xs with ⟨y, er⟩
  have HT := Aside0.mk hT
  have hyb : Bytes y := by have := ctake_bytes HXB.out; rwa [hT] at this
  have HYB := Aside0.mk hyb
  obtain ⟨L, hL⟩ : ∃ L, y.length = L := ⟨_, rfl⟩
  have hyl : L ≤ 1099511627776 := by
    have h2 : (ctake xs).1.length ≤ xs.length := by
      unfold ctake
      split
      · simp
      · split <;> simp
    rw [hT, hL] at h2
    exact Nat.le_trans h2 hn
  have HL := Aside0.mk hL
  clear hT hyb hL
  by_cases her : er = 0
  · subst er
    by_cases h52 : L < 52
    · have HW : Aside0 (XR xs = XZ 2) := ⟨XR_no HT.out (fun hh => by have := of_decide_eq_true hh.1; have := HL.out; omega)⟩
      have h52I : (L : Int) < 52 := by omega
      go_enter Tryd.func32, Tryd.ntmps32
      go_wp2_with (first
        | (go_at_call 52; refine (rtake_calls A xs.length c xs _ (Kd.C_below HX.out (Q0.out _).below) hc HXB.out (by omega)).mono ?_; rw [HT.out]; rintro e w1 ⟨B1, m1, d1, rfl, hR, hd1, hB1⟩; have Q1 := (Q0.out _).call hB1; obtain rfl : L = m1 := HL.out.symm.trans hR.1; have HR1 : Aside0 (RdB w1 B1 L y) := ⟨Kd.C_below hR hB1⟩; clear hR hB1)
        | ((with_reducible refine at_bd 38 ?_); refine build_arm rfl 38 _ rfl built_rx0 ?_; simp only [Act.put, List.setIfInBounds_toArray, List.set_cons_zero, List.set_cons_succ])
        | ((with_reducible refine at_st 38 (.tmp 2) (.tmp 28) ?_); have hq := Q1.at 0 rfl; refine store_blk rfl 38 (.tmp 2) (.tmp 28) rfl rfl rfl hq (by rw [Xc_len Z32_len]; rfl) (size_RX Z32_len) (Xc_one rfl) ?_; clear hq; rintro w7 HS)
        | fail)
      have Q7 := Q1.set 0 rfl HS
      (try simp only [Exit.inBlock, Exit.then])
      refine bodyPost_ret (v := .tuple #[.agg _, _]) (results_cell_tmp rfl _ _ w.heap.size _ _ _ _ rfl HS.at_ Tryd.underlying38 rfl ?_) rfl (show RPost xs w _ _ from ⟨0, 0, 0, Z32, [], 2, none, 0, 0, Z32_len, by omega, rfl, ⟨Kd.C_nil _ _⟩, ⟨HW.out.symm⟩, Q7.below⟩)
      rw [size_RX Z32_len, List.size_toArray]
    · have hw1 : IntKind.i64.wrap ((L : Int) - 52) = (L : Int) - 52 := by rw [IntKind.wrap_i64]; omega
      obtain ⟨md, hmd⟩ : ∃ md, (L - 52) % 36 = md := ⟨_, rfl⟩
      have hmod : ((L : Int) - 52) % 36 = (md : Int) := by omega
      have h52I : ¬ (L : Int) < 52 := by omega
      have hmn : Aside0 (hdrOk y = true ↔ md = 0) := ⟨by unfold hdrOk; rw [decide_eq_true_iff]; have := HL.out; omega⟩
      have HMD := Aside0.mk hmd
      clear hmd
      by_cases hm0 : md = 0
      · subst hm0
        have hm1 : (((0 : Nat) : Int) != 0) = false := by decide
        obtain ⟨im, him⟩ : ∃ im, (y.drop 16).take 32 = im := ⟨_, rfl⟩
        have HIMD := Aside0.mk him
        have HIM : Aside0 (im.length = 32) := ⟨by rw [← him, List.length_take, List.length_drop]; have := HL.out; omega⟩
        obtain ⟨cn, hcn⟩ : ∃ cn, cnt y = cn := ⟨_, rfl⟩
        have HCC := Aside0.mk hcn
        have HCY : Aside0 (52 + 36 * cn = L) := ⟨by rw [← hcn]; unfold cnt; have := HL.out; have := HMD.out; omega⟩
        have HH : Aside0 (hdrOk y = true) := ⟨hmn.out.2 rfl⟩
        clear him hcn
        go_enter Tryd.func32, Tryd.ntmps32
        go_upto_region 6 with (first
          | (go_at_call 52; refine (rtake_calls A xs.length c xs _ (Kd.C_below HX.out (Q0.out _).below) hc HXB.out (by omega)).mono ?_; rw [HT.out]; rintro e w1 ⟨B1, m1, d1, rfl, hR, hd1, hB1⟩; have Q1 := (Q0.out _).call hB1; obtain rfl : L = m1 := HL.out.symm.trans hR.1; have HR1 : Aside0 (RdB w1 B1 L y) := ⟨Kd.C_below hR hB1⟩; clear hR hB1)
          | fail)
        have QB := Aside0.mk Q1
        clear Q1
        have HRL : Aside0 (∀ W, Below w1.heap.size w1 W → RdB W B1 L y) := ⟨fun W hW => Kd.C_below HR1.out hW⟩
        obtain ⟨B16, d16, hs16, hr16⟩ := cut32 HR1.out hd1 16 (by omega)
        have HS16 : Aside0 (∀ W : World, (Instr.slice 33 (.slice B1 L d1) (some (.int .i64 16)) (some (.int .i64 48)) none).run Tryd.prog W = .ok (.slice B16 32 d16) W) := ⟨hs16⟩
        have HR16 : Aside0 (∀ W, Below w1.heap.size w1 W → RdB W B16 32 im) := ⟨fun W hW => by have h := hr16 W (HRL.out W hW); rwa [HIMD.out] at h⟩
        clear hs16 hr16
        (try simp only [Act.put, List.setIfInBounds_toArray, List.set_cons_zero, List.set_cons_succ])
        go_cut [6] (fun p wx => ∃ g6, p = .pointer (some ⟨g6, 0, none⟩) ∧ w1.heap.size ≤ g6 ∧ wx.heap[g6]? = some (.cells (Xc (num y 4) (num y 8) (num y 12) im (.slice none 0 0)).toArray 38 (0, 0)) ∧ Below w1.heap.size w1 wx)
        case first =>
          refine seq_startN [12] (.take 0 (.take 2 (.take 4 (.take 7 (.take 8 (.fork 1 11 (.fork 3 11 (.fork 5 11 (.take 6 (.fork 9 11 (.take 10 (.run 11 (.run 12 .done))) (.run 9 (.take 10 (.run 12 .done))))) (.run 5 (.take 6 (.run 9 (.take 10 (.run 12 .done)))))) (.run 3 (.run 5 (.take 6 (.run 9 (.take 10 (.run 12 .done))))))) (.run 1 (.run 3 (.run 5 (.take 6 (.run 9 (.take 10 (.run 12 .done))))))))))))) (by kernel_rfl) (by kernel_rfl) ?_
          refine seq_take (v := ?_) (a' := ?_) rfl rfl (by rfl) (fun w' hw' => ?_) ?_ ?_
          rotate_left 2
          · go_simp
            with_reducible rfl
          · simp only [Act.put, List.setIfInBounds_toArray, List.set_cons_zero, List.set_cons_succ, Go.Proofs.YtdfahblgnbdndaaDoorW.PrintLast.i64_w, Go.Proofs.YtdfahblgnbdndaaDoorW.PrintLast.i32_w]
            rfl
          refine seq_take (v := ?_) (a' := ?_) rfl rfl (by rfl) (fun w' hw' => ?_) ?_ ?_
          rotate_left 2
          · go_simp
            with_reducible rfl
          · simp only [Act.put, List.setIfInBounds_toArray, List.set_cons_zero, List.set_cons_succ, Go.Proofs.YtdfahblgnbdndaaDoorW.PrintLast.i64_w, Go.Proofs.YtdfahblgnbdndaaDoorW.PrintLast.i32_w]
            rfl
          refine seq_take (v := ?_) (a' := ?_) rfl rfl (by rfl) (fun w' hw' => ?_) ?_ ?_
          rotate_left 2
          · go_simp
            with_reducible rfl
          · simp only [Act.put, List.setIfInBounds_toArray, List.set_cons_zero, List.set_cons_succ, Go.Proofs.YtdfahblgnbdndaaDoorW.PrintLast.i64_w, Go.Proofs.YtdfahblgnbdndaaDoorW.PrintLast.i32_w]
            rfl
          refine seq_take (v := ?_) (a' := ?_) rfl rfl (by rfl) (fun w' hw' => ?_) ?_ ?_
          rotate_left 2
          · go_simp
            with_reducible rfl
          · simp only [Act.put, List.setIfInBounds_toArray, List.set_cons_zero, List.set_cons_succ, Go.Proofs.YtdfahblgnbdndaaDoorW.PrintLast.i64_w, Go.Proofs.YtdfahblgnbdndaaDoorW.PrintLast.i32_w]
            rfl
          refine seq_take (v := ?_) (a' := ?_) rfl rfl (by rfl) (fun w' hw' => ?_) ?_ ?_
          rotate_left 2
          · have hs := HS16.out w'; go_simp
            with_reducible rfl
          · simp only [Act.put, List.setIfInBounds_toArray, List.set_cons_zero, List.set_cons_succ, Go.Proofs.YtdfahblgnbdndaaDoorW.PrintLast.i64_w, Go.Proofs.YtdfahblgnbdndaaDoorW.PrintLast.i32_w]
            rfl
          refine seq_fork ?_ ?_
          · refine do_call rfl rfl (by rfl) rfl Tryd.func53 (by kernel_rfl) rfl #[.slice B1 L d1, .int .i64 4] (by simp only [List.map_toArray, List.map_cons, List.map_nil]; rfl) ?_
            with_reducible refine (rnumI_calls B1 L d1 y 4 4 _ rfl (HRL.out _ (Below.drew (Below.refl w1.heap.size w1))) HYB.out (by omega) hyl).mono ?_
            rintro e x0 ⟨rfl, hCx0⟩
            refine ⟨_, ?_, rfl, ?_, fun _ => hCx0, ?_⟩
            rotate_left
            · simp only [Act.put, List.setIfInBounds_toArray, List.set_cons_zero, List.set_cons_succ, Go.Proofs.YtdfahblgnbdndaaDoorW.PrintLast.i64_w, Go.Proofs.YtdfahblgnbdndaaDoorW.PrintLast.i32_w]
              rfl
            have Lx0 : Below w1.heap.size w1 x0 := Below.trans (Below.drew (Below.refl w1.heap.size w1)) (hCx0.mono (Below.size (Below.drew (Below.refl w1.heap.size w1))))
            refine seq_fork ?_ ?_
            · refine do_call rfl rfl (by rfl) rfl Tryd.func53 (by kernel_rfl) rfl #[.slice B1 L d1, .int .i64 8] (by simp only [List.map_toArray, List.map_cons, List.map_nil]; rfl) ?_
              with_reducible refine (rnumI_calls B1 L d1 y 8 8 _ rfl (HRL.out _ Lx0) HYB.out (by omega) hyl).mono ?_
              rintro e x1 ⟨rfl, hCx1⟩
              refine ⟨_, ?_, rfl, ?_, fun _ => hCx1, ?_⟩
              rotate_left
              · simp only [Act.put, List.setIfInBounds_toArray, List.set_cons_zero, List.set_cons_succ, Go.Proofs.YtdfahblgnbdndaaDoorW.PrintLast.i64_w, Go.Proofs.YtdfahblgnbdndaaDoorW.PrintLast.i32_w]
                rfl
              have Lx1 : Below w1.heap.size w1 x1 := Below.trans Lx0 (hCx1.mono (Below.size Lx0))
              refine seq_fork ?_ ?_
              · refine do_call rfl rfl (by rfl) rfl Tryd.func53 (by kernel_rfl) rfl #[.slice B1 L d1, .int .i64 12] (by simp only [List.map_toArray, List.map_cons, List.map_nil]; rfl) ?_
                with_reducible refine (rnumI_calls B1 L d1 y 12 12 _ rfl (HRL.out _ Lx1) HYB.out (by omega) hyl).mono ?_
                rintro e x2 ⟨rfl, hCx2⟩
                refine ⟨_, ?_, rfl, ?_, fun _ => hCx2, ?_⟩
                rotate_left
                · simp only [Act.put, List.setIfInBounds_toArray, List.set_cons_zero, List.set_cons_succ, Go.Proofs.YtdfahblgnbdndaaDoorW.PrintLast.i64_w, Go.Proofs.YtdfahblgnbdndaaDoorW.PrintLast.i32_w]
                  rfl
                have Lx2 : Below w1.heap.size w1 x2 := Below.trans Lx1 (hCx2.mono (Below.size Lx1))
                refine seq_take (v := _) (a' := ?_) rfl rfl (by rfl) (fun w' hw' => build_run 24 #[(0, .tmp 30), (1, .tmp 32), (2, .tmp 34)] rfl (built_p _ _ _)) ?_ ?_
                rotate_left
                · simp only [Act.put, List.setIfInBounds_toArray, List.set_cons_zero, List.set_cons_succ, Go.Proofs.YtdfahblgnbdndaaDoorW.PrintLast.i64_w, Go.Proofs.YtdfahblgnbdndaaDoorW.PrintLast.i32_w]
                  rfl
                refine seq_fork ?_ ?_
                · refine do_call rfl rfl (by rfl) rfl Tryd.func54 (by kernel_rfl) rfl #[.slice B16 32 d16] (by simp only [List.map_toArray, List.map_cons, List.map_nil]; rfl) ?_
                  with_reducible refine (of32_calls im B16 d16 _ (HR16.out _ Lx2)).mono ?_
                  rintro e x3 ⟨rfl, hCx3⟩
                  refine ⟨_, ?_, rfl, ?_, fun _ => hCx3, ?_⟩
                  rotate_left
                  · simp only [Act.put, List.setIfInBounds_toArray, List.set_cons_zero, List.set_cons_succ, Go.Proofs.YtdfahblgnbdndaaDoorW.PrintLast.i64_w, Go.Proofs.YtdfahblgnbdndaaDoorW.PrintLast.i32_w]
                    rfl
                  have Lx3 : Below w1.heap.size w1 x3 := Below.trans Lx2 (hCx3.mono (Below.size Lx2))
                  refine seq_take (v := _) (a' := ?_) rfl rfl (by rfl) (fun w' hw' => build_run 38 #[(0, .tmp 35), (1, .tmp 38)] rfl (built_rx2 _ _ _ im HIM.out)) ?_ ?_
                  rotate_left
                  · simp only [Act.put, List.setIfInBounds_toArray, List.set_cons_zero, List.set_cons_succ, Go.Proofs.YtdfahblgnbdndaaDoorW.PrintLast.i64_w, Go.Proofs.YtdfahblgnbdndaaDoorW.PrintLast.i32_w]
                    rfl
                  refine seq_run ?_
                  refine do_val (v := ?_) (a' := ?_) (w1 := ?_) rfl rfl (by rfl) ?_ ?_ ?_
                  rotate_left 3
                  · go_simp
                    constructor <;> rfl
                  · simp only [Act.put, List.setIfInBounds_toArray, List.set_cons_zero, List.set_cons_succ, Go.Proofs.YtdfahblgnbdndaaDoorW.PrintLast.i64_w, Go.Proofs.YtdfahblgnbdndaaDoorW.PrintLast.i32_w]
                    rfl
                  refine ⟨fun _ => below_alloc (Below.refl _ _) _, ?_⟩
                  have La : ∀ o, Below w1.heap.size w1 (x3.alloc o) := fun o => Below.alloc Lx3 (Below.size Lx3) o
                  refine seq_run ?_
                  refine do_blk rfl rfl (by rfl) 38 (.tmp 6) (.tmp 39) rfl rfl rfl (blk_new x3 _) (by rw [Xc_len HIM.out]; rfl) (size_RX HIM.out) (Xc_one rfl) ?_
                  rintro x9 HS9
                  refine ⟨fun h => absurd (by simp) h, ?_⟩
                  refine seq_endN ?_
                  go_wp2
                  go_meet
                  case rel => exact ⟨_, rfl, (Below.size Lx3), HS9.at_, Below.trans (La _) (HS9.below (Below.size Lx3))⟩
                · refine do_val (v := ?_) (a' := ?_) (w1 := ?_) rfl rfl (by rfl) ?_ ?_ ?_
                  rotate_left 3
                  · go_simp
                    constructor <;> rfl
                  · simp only [Act.put, List.setIfInBounds_toArray, List.set_cons_zero, List.set_cons_succ, Go.Proofs.YtdfahblgnbdndaaDoorW.PrintLast.i64_w, Go.Proofs.YtdfahblgnbdndaaDoorW.PrintLast.i32_w]
                    rfl
                  refine ⟨fun _ => below_alloc (Below.refl _ _) _, ?_⟩
                  have La : ∀ o, Below w1.heap.size w1 (x2.alloc o) := fun o => Below.alloc Lx2 (Below.size Lx2) o
                  refine seq_run ?_
                  refine do_call rfl rfl (by rfl) rfl Tryd.func54 (by kernel_rfl) rfl #[.slice B16 32 d16] (by simp only [List.map_toArray, List.map_cons, List.map_nil]; rfl) ?_
                  with_reducible refine (of32_calls im B16 d16 _ (HR16.out _ (La _))).mono ?_
                  rintro e x3a ⟨rfl, hCx3a⟩
                  refine ⟨_, ?_, rfl, ?_, fun _ => hCx3a, ?_⟩
                  rotate_left
                  · simp only [Act.put, List.setIfInBounds_toArray, List.set_cons_zero, List.set_cons_succ, Go.Proofs.YtdfahblgnbdndaaDoorW.PrintLast.i64_w, Go.Proofs.YtdfahblgnbdndaaDoorW.PrintLast.i32_w]
                    rfl
                  have Lx3a : Below w1.heap.size w1 x3a := Below.trans (La _) (hCx3a.mono (Below.size (La _)))
                  refine seq_take (v := _) (a' := ?_) rfl rfl (by rfl) (fun w' hw' => build_run 38 #[(0, .tmp 35), (1, .tmp 38)] rfl (built_rx2 _ _ _ im HIM.out)) ?_ ?_
                  rotate_left
                  · simp only [Act.put, List.setIfInBounds_toArray, List.set_cons_zero, List.set_cons_succ, Go.Proofs.YtdfahblgnbdndaaDoorW.PrintLast.i64_w, Go.Proofs.YtdfahblgnbdndaaDoorW.PrintLast.i32_w]
                    rfl
                  refine seq_run ?_
                  refine do_blk rfl rfl (by rfl) 38 (.tmp 6) (.tmp 39) rfl rfl rfl (Later.heap hCx3a (blk_new x2 _)) (by rw [Xc_len HIM.out]; rfl) (size_RX HIM.out) (Xc_one rfl) ?_
                  rintro x9 HS9
                  refine ⟨fun h => absurd (by simp) h, ?_⟩
                  refine seq_endN ?_
                  go_wp2
                  go_meet
                  case rel => exact ⟨_, rfl, (Below.size Lx2), HS9.at_, Below.trans Lx3a (HS9.below (Below.size Lx2))⟩
              · refine do_val (v := ?_) (a' := ?_) (w1 := ?_) rfl rfl (by rfl) ?_ ?_ ?_
                rotate_left 3
                · go_simp
                  constructor <;> rfl
                · simp only [Act.put, List.setIfInBounds_toArray, List.set_cons_zero, List.set_cons_succ, Go.Proofs.YtdfahblgnbdndaaDoorW.PrintLast.i64_w, Go.Proofs.YtdfahblgnbdndaaDoorW.PrintLast.i32_w]
                  rfl
                refine ⟨fun _ => below_alloc (Below.refl _ _) _, ?_⟩
                have La : ∀ o, Below w1.heap.size w1 (x1.alloc o) := fun o => Below.alloc Lx1 (Below.size Lx1) o
                refine seq_run ?_
                refine do_call rfl rfl (by rfl) rfl Tryd.func53 (by kernel_rfl) rfl #[.slice B1 L d1, .int .i64 12] (by simp only [List.map_toArray, List.map_cons, List.map_nil]; rfl) ?_
                with_reducible refine (rnumI_calls B1 L d1 y 12 12 _ rfl (HRL.out _ (La _)) HYB.out (by omega) hyl).mono ?_
                rintro e x2a ⟨rfl, hCx2a⟩
                refine ⟨_, ?_, rfl, ?_, fun _ => hCx2a, ?_⟩
                rotate_left
                · simp only [Act.put, List.setIfInBounds_toArray, List.set_cons_zero, List.set_cons_succ, Go.Proofs.YtdfahblgnbdndaaDoorW.PrintLast.i64_w, Go.Proofs.YtdfahblgnbdndaaDoorW.PrintLast.i32_w]
                  rfl
                have Lx2a : Below w1.heap.size w1 x2a := Below.trans (La _) (hCx2a.mono (Below.size (La _)))
                refine seq_take (v := _) (a' := ?_) rfl rfl (by rfl) (fun w' hw' => build_run 24 #[(0, .tmp 30), (1, .tmp 32), (2, .tmp 34)] rfl (built_p _ _ _)) ?_ ?_
                rotate_left
                · simp only [Act.put, List.setIfInBounds_toArray, List.set_cons_zero, List.set_cons_succ, Go.Proofs.YtdfahblgnbdndaaDoorW.PrintLast.i64_w, Go.Proofs.YtdfahblgnbdndaaDoorW.PrintLast.i32_w]
                  rfl
                refine seq_run ?_
                refine do_call rfl rfl (by rfl) rfl Tryd.func54 (by kernel_rfl) rfl #[.slice B16 32 d16] (by simp only [List.map_toArray, List.map_cons, List.map_nil]; rfl) ?_
                with_reducible refine (of32_calls im B16 d16 _ (HR16.out _ Lx2a)).mono ?_
                rintro e x3a ⟨rfl, hCx3a⟩
                refine ⟨_, ?_, rfl, ?_, fun _ => hCx3a, ?_⟩
                rotate_left
                · simp only [Act.put, List.setIfInBounds_toArray, List.set_cons_zero, List.set_cons_succ, Go.Proofs.YtdfahblgnbdndaaDoorW.PrintLast.i64_w, Go.Proofs.YtdfahblgnbdndaaDoorW.PrintLast.i32_w]
                  rfl
                have Lx3a : Below w1.heap.size w1 x3a := Below.trans Lx2a (hCx3a.mono (Below.size Lx2a))
                refine seq_take (v := _) (a' := ?_) rfl rfl (by rfl) (fun w' hw' => build_run 38 #[(0, .tmp 35), (1, .tmp 38)] rfl (built_rx2 _ _ _ im HIM.out)) ?_ ?_
                rotate_left
                · simp only [Act.put, List.setIfInBounds_toArray, List.set_cons_zero, List.set_cons_succ, Go.Proofs.YtdfahblgnbdndaaDoorW.PrintLast.i64_w, Go.Proofs.YtdfahblgnbdndaaDoorW.PrintLast.i32_w]
                  rfl
                refine seq_run ?_
                refine do_blk rfl rfl (by rfl) 38 (.tmp 6) (.tmp 39) rfl rfl rfl (Later.heap hCx3a (Later.heap hCx2a (blk_new x1 _))) (by rw [Xc_len HIM.out]; rfl) (size_RX HIM.out) (Xc_one rfl) ?_
                rintro x9 HS9
                refine ⟨fun h => absurd (by simp) h, ?_⟩
                refine seq_endN ?_
                go_wp2
                go_meet
                case rel => exact ⟨_, rfl, (Below.size Lx1), HS9.at_, Below.trans Lx3a (HS9.below (Below.size Lx1))⟩
            · refine do_val (v := ?_) (a' := ?_) (w1 := ?_) rfl rfl (by rfl) ?_ ?_ ?_
              rotate_left 3
              · go_simp
                constructor <;> rfl
              · simp only [Act.put, List.setIfInBounds_toArray, List.set_cons_zero, List.set_cons_succ, Go.Proofs.YtdfahblgnbdndaaDoorW.PrintLast.i64_w, Go.Proofs.YtdfahblgnbdndaaDoorW.PrintLast.i32_w]
                rfl
              refine ⟨fun _ => below_alloc (Below.refl _ _) _, ?_⟩
              have La : ∀ o, Below w1.heap.size w1 (x0.alloc o) := fun o => Below.alloc Lx0 (Below.size Lx0) o
              refine seq_run ?_
              refine do_call rfl rfl (by rfl) rfl Tryd.func53 (by kernel_rfl) rfl #[.slice B1 L d1, .int .i64 8] (by simp only [List.map_toArray, List.map_cons, List.map_nil]; rfl) ?_
              with_reducible refine (rnumI_calls B1 L d1 y 8 8 _ rfl (HRL.out _ (La _)) HYB.out (by omega) hyl).mono ?_
              rintro e x1a ⟨rfl, hCx1a⟩
              refine ⟨_, ?_, rfl, ?_, fun _ => hCx1a, ?_⟩
              rotate_left
              · simp only [Act.put, List.setIfInBounds_toArray, List.set_cons_zero, List.set_cons_succ, Go.Proofs.YtdfahblgnbdndaaDoorW.PrintLast.i64_w, Go.Proofs.YtdfahblgnbdndaaDoorW.PrintLast.i32_w]
                rfl
              have Lx1a : Below w1.heap.size w1 x1a := Below.trans (La _) (hCx1a.mono (Below.size (La _)))
              refine seq_run ?_
              refine do_call rfl rfl (by rfl) rfl Tryd.func53 (by kernel_rfl) rfl #[.slice B1 L d1, .int .i64 12] (by simp only [List.map_toArray, List.map_cons, List.map_nil]; rfl) ?_
              with_reducible refine (rnumI_calls B1 L d1 y 12 12 _ rfl (HRL.out _ Lx1a) HYB.out (by omega) hyl).mono ?_
              rintro e x2a ⟨rfl, hCx2a⟩
              refine ⟨_, ?_, rfl, ?_, fun _ => hCx2a, ?_⟩
              rotate_left
              · simp only [Act.put, List.setIfInBounds_toArray, List.set_cons_zero, List.set_cons_succ, Go.Proofs.YtdfahblgnbdndaaDoorW.PrintLast.i64_w, Go.Proofs.YtdfahblgnbdndaaDoorW.PrintLast.i32_w]
                rfl
              have Lx2a : Below w1.heap.size w1 x2a := Below.trans Lx1a (hCx2a.mono (Below.size Lx1a))
              refine seq_take (v := _) (a' := ?_) rfl rfl (by rfl) (fun w' hw' => build_run 24 #[(0, .tmp 30), (1, .tmp 32), (2, .tmp 34)] rfl (built_p _ _ _)) ?_ ?_
              rotate_left
              · simp only [Act.put, List.setIfInBounds_toArray, List.set_cons_zero, List.set_cons_succ, Go.Proofs.YtdfahblgnbdndaaDoorW.PrintLast.i64_w, Go.Proofs.YtdfahblgnbdndaaDoorW.PrintLast.i32_w]
                rfl
              refine seq_run ?_
              refine do_call rfl rfl (by rfl) rfl Tryd.func54 (by kernel_rfl) rfl #[.slice B16 32 d16] (by simp only [List.map_toArray, List.map_cons, List.map_nil]; rfl) ?_
              with_reducible refine (of32_calls im B16 d16 _ (HR16.out _ Lx2a)).mono ?_
              rintro e x3a ⟨rfl, hCx3a⟩
              refine ⟨_, ?_, rfl, ?_, fun _ => hCx3a, ?_⟩
              rotate_left
              · simp only [Act.put, List.setIfInBounds_toArray, List.set_cons_zero, List.set_cons_succ, Go.Proofs.YtdfahblgnbdndaaDoorW.PrintLast.i64_w, Go.Proofs.YtdfahblgnbdndaaDoorW.PrintLast.i32_w]
                rfl
              have Lx3a : Below w1.heap.size w1 x3a := Below.trans Lx2a (hCx3a.mono (Below.size Lx2a))
              refine seq_take (v := _) (a' := ?_) rfl rfl (by rfl) (fun w' hw' => build_run 38 #[(0, .tmp 35), (1, .tmp 38)] rfl (built_rx2 _ _ _ im HIM.out)) ?_ ?_
              rotate_left
              · simp only [Act.put, List.setIfInBounds_toArray, List.set_cons_zero, List.set_cons_succ, Go.Proofs.YtdfahblgnbdndaaDoorW.PrintLast.i64_w, Go.Proofs.YtdfahblgnbdndaaDoorW.PrintLast.i32_w]
                rfl
              refine seq_run ?_
              refine do_blk rfl rfl (by rfl) 38 (.tmp 6) (.tmp 39) rfl rfl rfl (Later.heap hCx3a (Later.heap hCx2a (Later.heap hCx1a (blk_new x0 _)))) (by rw [Xc_len HIM.out]; rfl) (size_RX HIM.out) (Xc_one rfl) ?_
              rintro x9 HS9
              refine ⟨fun h => absurd (by simp) h, ?_⟩
              refine seq_endN ?_
              go_wp2
              go_meet
              case rel => exact ⟨_, rfl, (Below.size Lx0), HS9.at_, Below.trans Lx3a (HS9.below (Below.size Lx0))⟩
          · refine do_val (v := ?_) (a' := ?_) (w1 := ?_) rfl rfl (by rfl) ?_ ?_ ?_
            rotate_left 3
            · go_simp
              constructor <;> rfl
            · simp only [Act.put, List.setIfInBounds_toArray, List.set_cons_zero, List.set_cons_succ, Go.Proofs.YtdfahblgnbdndaaDoorW.PrintLast.i64_w, Go.Proofs.YtdfahblgnbdndaaDoorW.PrintLast.i32_w]
              rfl
            refine ⟨fun _ => below_alloc (Below.refl _ _) _, ?_⟩
            have La : ∀ o, Below w1.heap.size w1 (World.drew (w1.alloc o)) := fun o => Below.drew (below_alloc (Below.refl _ w1) o)
            refine seq_run ?_
            refine do_call rfl rfl (by rfl) rfl Tryd.func53 (by kernel_rfl) rfl #[.slice B1 L d1, .int .i64 4] (by simp only [List.map_toArray, List.map_cons, List.map_nil]; rfl) ?_
            with_reducible refine (rnumI_calls B1 L d1 y 4 4 _ rfl (HRL.out _ (La _)) HYB.out (by omega) hyl).mono ?_
            rintro e x0a ⟨rfl, hCx0a⟩
            refine ⟨_, ?_, rfl, ?_, fun _ => hCx0a, ?_⟩
            rotate_left
            · simp only [Act.put, List.setIfInBounds_toArray, List.set_cons_zero, List.set_cons_succ, Go.Proofs.YtdfahblgnbdndaaDoorW.PrintLast.i64_w, Go.Proofs.YtdfahblgnbdndaaDoorW.PrintLast.i32_w]
              rfl
            have Lx0a : Below w1.heap.size w1 x0a := Below.trans (La _) (hCx0a.mono (Below.size (La _)))
            refine seq_run ?_
            refine do_call rfl rfl (by rfl) rfl Tryd.func53 (by kernel_rfl) rfl #[.slice B1 L d1, .int .i64 8] (by simp only [List.map_toArray, List.map_cons, List.map_nil]; rfl) ?_
            with_reducible refine (rnumI_calls B1 L d1 y 8 8 _ rfl (HRL.out _ Lx0a) HYB.out (by omega) hyl).mono ?_
            rintro e x1a ⟨rfl, hCx1a⟩
            refine ⟨_, ?_, rfl, ?_, fun _ => hCx1a, ?_⟩
            rotate_left
            · simp only [Act.put, List.setIfInBounds_toArray, List.set_cons_zero, List.set_cons_succ, Go.Proofs.YtdfahblgnbdndaaDoorW.PrintLast.i64_w, Go.Proofs.YtdfahblgnbdndaaDoorW.PrintLast.i32_w]
              rfl
            have Lx1a : Below w1.heap.size w1 x1a := Below.trans Lx0a (hCx1a.mono (Below.size Lx0a))
            refine seq_run ?_
            refine do_call rfl rfl (by rfl) rfl Tryd.func53 (by kernel_rfl) rfl #[.slice B1 L d1, .int .i64 12] (by simp only [List.map_toArray, List.map_cons, List.map_nil]; rfl) ?_
            with_reducible refine (rnumI_calls B1 L d1 y 12 12 _ rfl (HRL.out _ Lx1a) HYB.out (by omega) hyl).mono ?_
            rintro e x2a ⟨rfl, hCx2a⟩
            refine ⟨_, ?_, rfl, ?_, fun _ => hCx2a, ?_⟩
            rotate_left
            · simp only [Act.put, List.setIfInBounds_toArray, List.set_cons_zero, List.set_cons_succ, Go.Proofs.YtdfahblgnbdndaaDoorW.PrintLast.i64_w, Go.Proofs.YtdfahblgnbdndaaDoorW.PrintLast.i32_w]
              rfl
            have Lx2a : Below w1.heap.size w1 x2a := Below.trans Lx1a (hCx2a.mono (Below.size Lx1a))
            refine seq_take (v := _) (a' := ?_) rfl rfl (by rfl) (fun w' hw' => build_run 24 #[(0, .tmp 30), (1, .tmp 32), (2, .tmp 34)] rfl (built_p _ _ _)) ?_ ?_
            rotate_left
            · simp only [Act.put, List.setIfInBounds_toArray, List.set_cons_zero, List.set_cons_succ, Go.Proofs.YtdfahblgnbdndaaDoorW.PrintLast.i64_w, Go.Proofs.YtdfahblgnbdndaaDoorW.PrintLast.i32_w]
              rfl
            refine seq_run ?_
            refine do_call rfl rfl (by rfl) rfl Tryd.func54 (by kernel_rfl) rfl #[.slice B16 32 d16] (by simp only [List.map_toArray, List.map_cons, List.map_nil]; rfl) ?_
            with_reducible refine (of32_calls im B16 d16 _ (HR16.out _ Lx2a)).mono ?_
            rintro e x3a ⟨rfl, hCx3a⟩
            refine ⟨_, ?_, rfl, ?_, fun _ => hCx3a, ?_⟩
            rotate_left
            · simp only [Act.put, List.setIfInBounds_toArray, List.set_cons_zero, List.set_cons_succ, Go.Proofs.YtdfahblgnbdndaaDoorW.PrintLast.i64_w, Go.Proofs.YtdfahblgnbdndaaDoorW.PrintLast.i32_w]
              rfl
            have Lx3a : Below w1.heap.size w1 x3a := Below.trans Lx2a (hCx3a.mono (Below.size Lx2a))
            refine seq_take (v := _) (a' := ?_) rfl rfl (by rfl) (fun w' hw' => build_run 38 #[(0, .tmp 35), (1, .tmp 38)] rfl (built_rx2 _ _ _ im HIM.out)) ?_ ?_
            rotate_left
            · simp only [Act.put, List.setIfInBounds_toArray, List.set_cons_zero, List.set_cons_succ, Go.Proofs.YtdfahblgnbdndaaDoorW.PrintLast.i64_w, Go.Proofs.YtdfahblgnbdndaaDoorW.PrintLast.i32_w]
              rfl
            refine seq_run ?_
            refine do_blk rfl rfl (by rfl) 38 (.tmp 6) (.tmp 39) rfl rfl rfl (Later.heap hCx3a (Later.heap hCx2a (Later.heap hCx1a (Later.heap hCx0a (blk_new w1 _))))) (by rw [Xc_len HIM.out]; rfl) (size_RX HIM.out) (Xc_one rfl) ?_
            rintro x9 HS9
            refine ⟨fun h => absurd (by simp) h, ?_⟩
            refine seq_endN ?_
            go_wp2
            go_meet
            case rel => exact ⟨_, rfl, (Nat.le_refl _), HS9.at_, Below.trans Lx3a (HS9.below (Nat.le_refl _))⟩
        case rest =>
        obtain ⟨g6, rfl, hg6, hG6, hBC⟩ := hcut
        have HG6 := Aside0.mk hG6
        have HBC := Aside0.mk hBC
        have HWL : Aside0 (w.heap.size < w1.heap.size) := ⟨blk_lt (QB.out.at 0 rfl)⟩
        clear hG6 hBC
        have HXO : Aside0 (∀ a b c : Nat, num y 4 = (a : Int) → num y 8 = (b : Int) → num y 12 = (c : Int) → mayX (num y 4) (num y 8) (num y 12) (pits y cn) = true → (xbytes a b c im (pits y cn) = xs → XR xs = (num y 4, num y 8, num y 12, im, pits y cn, 0)) ∧ (xbytes a b c im (pits y cn) ≠ xs → XR xs = XZ 2)) := ⟨fun a b c ha hb hc hm => by
          have hcn : cnt y < 4294967296 := by rw [HCC.out]; have := (mayX_spec hm).2.1; rw [pits_len] at this; omega
          have hq := xbody_eq HYB.out HH.out hcn
          rw [ha, hb, hc, HIMD.out, HCC.out] at hq
          simp only [Int.toNat_natCast] at hq
          have hx : xbytes a b c im (pits y cn) = xs ↔ (y.take 4 = [76, 84, 73, 49] ∧ num y 48 = (cn : Int)) := by
            rw [← hq]
            constructor
            · intro h
              exact cput_inj (h.trans (ctake_ok HT.out).symm)
            · intro h
              show cput (xbody a b c im (pits y cn)) = xs
              rw [h]
              exact ctake_ok HT.out
          constructor
          · intro h
            have h2 := XR_ok HT.out ⟨HH.out, (hx.1 h).1, by rw [(hx.1 h).2, HCC.out], by rw [HCC.out]; exact hm⟩
            rw [HIMD.out, HCC.out] at h2
            exact h2
          · intro h
            exact XR_no HT.out (fun hh => h (hx.2 ⟨hh.2.1, by rw [hh.2.2.1, HCC.out]⟩))⟩
        have HXN : Aside0 (mayX (num y 4) (num y 8) (num y 12) (pits y cn) = false → XR xs = XZ 2) := ⟨fun hm => XR_no HT.out (fun hh => by
          have h := hh.2.2.2
          rw [HCC.out, hm] at h
          exact absurd h (by decide))⟩
        generalize num y 4 = pa at *
        generalize num y 8 = pb at *
        generalize num y 12 = pc at *
        go_wp2
        go_loopw [7] (fun i wr => ∃ (k : Nat) (v : Value), k ≤ cn ∧ i = .int .i64 ((52 + 36 * k : Nat) : Int) ∧ wr.heap[g6]? = some (.cells (Xc pa pb pc im v).toArray 38 (0, 0)) ∧ OwI wr w1.heap.size v (pits y k) ∧ Below w1.heap.size w1 wr) (fun i _ => L - (intOf i).toNat)
        case atStart => exact ⟨0, _, Nat.zero_le _, rfl, HG6.out, Kd.R_nil _ _ _ _ _, HBC.out⟩
        case round =>
          obtain ⟨k, v, hk, rfl, hG, hO, hB⟩ := hrel
          have HG := Aside0.mk hG
          have HB := Aside0.mk hB
          obtain ⟨VA, vc, rfl, -, -⟩ := Kd.R_reads hO
          have HO := Aside0.mk hO
          clear hG hO hB
          obtain ⟨p, hp⟩ : ∃ p, 52 + 36 * k = p := ⟨_, rfl⟩
          have HP := Aside0.mk hp
          have hcy := HCY.out
          by_cases hlt : k < cn
          · have hpl2 : p + 36 ≤ L := by omega
            have hltI : (p : Int) < (L : Int) := by omega
            have HT2 := Aside0.mk (pits_succ y k)
            rw [show 84 + 36 * k = p + 32 by omega, hp] at HT2
            have hpl := pits_len y k
            obtain ⟨R, hR⟩ : ∃ R, pits y k = R := ⟨_, rfl⟩
            rw [hR] at HT2 HO HG hpl
            have hRl : R.length ≤ 1099511627776 := by omega
            obtain ⟨nm, hnm⟩ : ∃ nm, (y.drop p).take 32 = nm := ⟨_, rfl⟩
            obtain ⟨sv, hsv⟩ : ∃ sv, num y (p + 32) = sv := ⟨_, rfl⟩
            have HSV := Aside0.mk hsv
            have HNL : Aside0 (nm.length = 32) := ⟨by rw [← hnm, List.length_take, List.length_drop]; have := HL.out; omega⟩
            rw [hnm, hsv] at HT2
            obtain ⟨Bp, dp, hsp, hrp⟩ := cut32 HR1.out hd1 p (by omega)
            rw [hnm] at hrp
            have HSP := Aside0.mk hsp
            have HRP := Aside0.mk hrp
            have HW1 : Aside0 (IntKind.i64.wrap ((p : Int) + 32) = (p : Int) + 32) := ⟨by rw [IntKind.wrap_i64]; omega⟩
            have hw36 : IntKind.i64.wrap ((p : Int) + 36) = (p : Int) + 36 := by rw [IntKind.wrap_i64]; omega
            have HALL : Aside0 (∀ W, Later wr.drew W → W.cell? ⟨g6, 35, none⟩ = some (.slice VA R.length vc)) := ⟨fun W hW => x_items (Later.heap hW (show wr.drew.heap[g6]? = _ from HG.out)) HIM.out⟩
            have HBD : Aside0 (Below w1.heap.size w1 wr.drew) := ⟨Below.drew HB.out⟩
            clear hnm hsv hR hpl hsp hrp hcy
            go_upto_region 10 with fail
            refine seq_startN [14, 16] (.take 0 (.take 1 (.take 2 (.take 3 (.take 4 (.take 5 (.take 6 (.take 8 (.take 9 (.take 10 (.run 7 (.run 11 (.take 12 (.run 13 (.run 14 (.take 15 (.run 16 .done))))))))))))))))) (by kernel_rfl) (by kernel_rfl) ?_
            refine seq_take (v := ?_) (a' := ?_) rfl rfl (by rfl) (fun w' hw' => ?_) ?_ ?_
            rotate_left 2
            · go_simp
              with_reducible rfl
            · simp only [Act.put, List.setIfInBounds_toArray, List.set_cons_zero, List.set_cons_succ, Go.Proofs.YtdfahblgnbdndaaDoorW.PrintLast.i64_w, Go.Proofs.YtdfahblgnbdndaaDoorW.PrintLast.i32_w]
              rfl
            refine seq_take (v := ?_) (a' := ?_) rfl rfl (by rfl) (fun w' hw' => ?_) ?_ ?_
            rotate_left 2
            · have hx := HALL.out w' hw'; go_simp
              with_reducible rfl
            · simp only [Act.put, List.setIfInBounds_toArray, List.set_cons_zero, List.set_cons_succ, Go.Proofs.YtdfahblgnbdndaaDoorW.PrintLast.i64_w, Go.Proofs.YtdfahblgnbdndaaDoorW.PrintLast.i32_w]
              rfl
            refine seq_take (v := ?_) (a' := ?_) rfl rfl (by rfl) (fun w' hw' => ?_) ?_ ?_
            rotate_left 2
            · go_simp
              with_reducible rfl
            · simp only [Act.put, List.setIfInBounds_toArray, List.set_cons_zero, List.set_cons_succ, Go.Proofs.YtdfahblgnbdndaaDoorW.PrintLast.i64_w, Go.Proofs.YtdfahblgnbdndaaDoorW.PrintLast.i32_w]
              rfl
            refine seq_take (v := ?_) (a' := ?_) rfl rfl (by rfl) (fun w' hw' => ?_) ?_ ?_
            rotate_left 2
            · go_simp
              with_reducible rfl
            · simp only [Act.put, List.setIfInBounds_toArray, List.set_cons_zero, List.set_cons_succ, Go.Proofs.YtdfahblgnbdndaaDoorW.PrintLast.i64_w, Go.Proofs.YtdfahblgnbdndaaDoorW.PrintLast.i32_w]
              rfl
            refine seq_take (v := ?_) (a' := ?_) rfl rfl (by rfl) (fun w' hw' => ?_) ?_ ?_
            rotate_left 2
            · go_simp
              with_reducible rfl
            · simp only [Act.put, List.setIfInBounds_toArray, List.set_cons_zero, List.set_cons_succ, Go.Proofs.YtdfahblgnbdndaaDoorW.PrintLast.i64_w, Go.Proofs.YtdfahblgnbdndaaDoorW.PrintLast.i32_w]
              rfl
            refine seq_take (v := ?_) (a' := ?_) rfl rfl (by rfl) (fun w' hw' => ?_) ?_ ?_
            rotate_left 2
            · have hx := HW1.out; go_simp
              with_reducible rfl
            · simp only [Act.put, List.setIfInBounds_toArray, List.set_cons_zero, List.set_cons_succ, Go.Proofs.YtdfahblgnbdndaaDoorW.PrintLast.i64_w, Go.Proofs.YtdfahblgnbdndaaDoorW.PrintLast.i32_w]
              rfl
            refine seq_take (v := ?_) (a' := ?_) rfl rfl (by rfl) (fun w' hw' => ?_) ?_ ?_
            rotate_left 2
            · have hx := HSP.out w'; go_simp
              with_reducible rfl
            · simp only [Act.put, List.setIfInBounds_toArray, List.set_cons_zero, List.set_cons_succ, Go.Proofs.YtdfahblgnbdndaaDoorW.PrintLast.i64_w, Go.Proofs.YtdfahblgnbdndaaDoorW.PrintLast.i32_w]
              rfl
            refine seq_take (v := ?_) (a' := ?_) rfl rfl (by rfl) (fun w' hw' => ?_) ?_ ?_
            rotate_left 2
            · go_simp
              with_reducible rfl
            · simp only [Act.put, List.setIfInBounds_toArray, List.set_cons_zero, List.set_cons_succ, Go.Proofs.YtdfahblgnbdndaaDoorW.PrintLast.i64_w, Go.Proofs.YtdfahblgnbdndaaDoorW.PrintLast.i32_w]
              rfl
            refine seq_take (v := ?_) (a' := ?_) rfl rfl (by rfl) (fun w' hw' => ?_) ?_ ?_
            rotate_left 2
            · go_simp
              with_reducible rfl
            · simp only [Act.put, List.setIfInBounds_toArray, List.set_cons_zero, List.set_cons_succ, Go.Proofs.YtdfahblgnbdndaaDoorW.PrintLast.i64_w, Go.Proofs.YtdfahblgnbdndaaDoorW.PrintLast.i32_w]
              rfl
            refine seq_take (v := ?_) (a' := ?_) rfl rfl (by rfl) (fun w' hw' => ?_) ?_ ?_
            rotate_left 2
            · have hx := HW1.out; go_simp
              with_reducible rfl
            · simp only [Act.put, List.setIfInBounds_toArray, List.set_cons_zero, List.set_cons_succ, Go.Proofs.YtdfahblgnbdndaaDoorW.PrintLast.i64_w, Go.Proofs.YtdfahblgnbdndaaDoorW.PrintLast.i32_w]
              rfl
            refine seq_run ?_
            refine do_call rfl rfl (by rfl) rfl Tryd.func54 (by kernel_rfl) rfl #[.slice Bp 32 dp] (by simp only [List.map_toArray, List.map_cons, List.map_nil]; rfl) ?_
            with_reducible refine (of32_calls nm Bp dp _ (HRP.out _ (HRL.out _ HBD.out))).mono ?_
            rintro e x1 ⟨rfl, hC1⟩
            refine ⟨_, ?_, rfl, ?_, fun _ => hC1, ?_⟩
            rotate_left
            · simp only [Act.put, List.setIfInBounds_toArray, List.set_cons_zero, List.set_cons_succ, Go.Proofs.YtdfahblgnbdndaaDoorW.PrintLast.i64_w, Go.Proofs.YtdfahblgnbdndaaDoorW.PrintLast.i32_w]
              rfl
            have L1 : Aside0 (Below w1.heap.size w1 x1) := ⟨HBD.out.trans (hC1.mono HBD.out.size)⟩
            refine seq_run ?_
            refine do_call rfl rfl (by rfl) rfl Tryd.func53 (by kernel_rfl) rfl #[.slice B1 L d1, .int .i64 ((p : Int) + 32)] (by simp only [List.map_toArray, List.map_cons, List.map_nil]; rfl) ?_
            with_reducible refine (rnumI_calls B1 L d1 y ((p : Int) + 32) (p + 32) _ (by omega) (HRL.out _ L1.out) HYB.out (by omega) hyl).mono ?_
            rintro e x2 ⟨rfl, hC2⟩
            refine ⟨_, ?_, rfl, ?_, fun _ => hC2, ?_⟩
            rotate_left
            · simp only [Act.put, List.setIfInBounds_toArray, List.set_cons_zero, List.set_cons_succ, Go.Proofs.YtdfahblgnbdndaaDoorW.PrintLast.i64_w, Go.Proofs.YtdfahblgnbdndaaDoorW.PrintLast.i32_w]
              rfl
            have L2 : Aside0 (Below w1.heap.size w1 x2) := ⟨L1.out.trans (hC2.mono L1.out.size)⟩
            have LX2 : Below wr.drew.heap.size wr.drew x2 := below_tr hC1 hC2 hC1.size
            rw [HSV.out]
            refine seq_take (v := _) (a' := ?_) rfl rfl (by rfl) (fun w' hw' => build_run 41 #[(0, .tmp 53), (1, .tmp 57)] rfl (built_it nm sv HNL.out)) ?_ ?_
            rotate_left
            · simp only [Act.put, List.setIfInBounds_toArray, List.set_cons_zero, List.set_cons_succ, Go.Proofs.YtdfahblgnbdndaaDoorW.PrintLast.i64_w, Go.Proofs.YtdfahblgnbdndaaDoorW.PrintLast.i32_w]
              rfl
            refine seq_run ?_
            refine do_val (v := _) (a' := ?_) (w1 := _) rfl rfl (by rfl) (row1_exec #[(0, .tmp 58)] rfl Tryd.underlying27 infoI (icells (nm, sv)) (icells_len HNL.out) (by decide) (by decide) rfl) ?_ ?_
            rotate_left
            · simp only [Act.put, List.setIfInBounds_toArray, List.set_cons_zero, List.set_cons_succ, Go.Proofs.YtdfahblgnbdndaaDoorW.PrintLast.i64_w, Go.Proofs.YtdfahblgnbdndaaDoorW.PrintLast.i32_w]
              rfl
            refine ⟨fun _ => below_alloc (Below.refl _ _) _, ?_⟩
            have HO2 : Aside0 (OwI x2 w1.heap.size (.slice VA R.length vc) R) := ⟨Kd.R_below (Kd.R_below HO.out (Below.drew (Below.refl _ _))) LX2⟩
            have HGX2 : Aside0 (x2.heap[g6]? = some (.cells (Xc pa pb pc im (.slice VA R.length vc)).toArray 38 (0, 0))) := ⟨Later.heap LX2 (show wr.drew.heap[g6]? = _ from HG.out)⟩
            clear hC1 hC2 LX2
            refine seq_run ?_
            refine do_appR KI (w0 := x2) (W := x2) w1.heap.size rfl rfl (by rfl) (.tmp 47) (.tmp 59) 27 41 zI 40 rfl Tryd.underlying27 infoI zI_size (by decide) (by decide) (.slice VA R.length vc) R (nm, sv) (icells (nm, sv)) rfl rfl ⟨HNL.out, rfl⟩ HO2.out (Below.refl _ _) L2.out.size (by omega) ?_
            intro v2 w2 hO2 hB2 hG2 hAt2
            refine ⟨fun h => absurd (by simp) h, ?_⟩
            have hgb : w2.heap[g6]? = some (.cells (Xc pa pb pc im (.slice VA R.length vc)).toArray 38 (0, 0)) := (hG2.block g6 (blk_lt HGX2.out) (Kd.R_ne HO2.out HGX2.out (by decide))).trans HGX2.out
            obtain ⟨WA, wcc, rfl, -, -⟩ := Kd.R_reads hO2
            have hc35 := x_items hgb HIM.out
            have hf35 : w2.frozen? ⟨g6, 35, none⟩ = false := blk_frozen hgb 35
            have HS2 : Aside0 (SetBlk w2 (w2.setCell ⟨g6, 35, none⟩ (.slice WA (R ++ [(nm, sv)]).length wcc)) g6 (.cells (Xc pa pb pc im (.slice WA (R ++ [(nm, sv)]).length wcc)).toArray 38 (0, 0))) := ⟨by have h := setBlk_cell (i := 35) hgb (.slice WA (R ++ [(nm, sv)]).length wcc); rwa [Xc_set _ _ _ _ _ _ HIM.out] at h⟩
            have HOW := Aside0.mk hO2
            have HGW := Aside0.mk hgb
            have HBW : Aside0 (Below w1.heap.size w1 w2) := ⟨L2.out.trans hB2⟩
            rw [show (R ++ [(nm, sv)]).length = R.length + 1 by simp] at HS2 ⊢
            clear hgb hO2 hB2 hG2 hAt2
            refine seq_take (v := ?_) (a' := ?_) rfl rfl (by rfl) (fun w' hw' => ?_) ?_ ?_
            rotate_left 2
            · go_simp
              with_reducible rfl
            · simp only [Act.put, List.setIfInBounds_toArray, List.set_cons_zero, List.set_cons_succ, Go.Proofs.YtdfahblgnbdndaaDoorW.PrintLast.i64_w, Go.Proofs.YtdfahblgnbdndaaDoorW.PrintLast.i32_w]
              rfl
            refine seq_run ?_
            refine do_store (w1 := ?_) rfl rfl (by rfl) ?_ ?_
            rotate_left
            · go_simp
              rfl
            refine ⟨fun h => absurd (by simp) h, ?_⟩
            refine seq_endN ?_
            have HO3 : Aside0 (OwI (w2.setCell ⟨g6, 35, none⟩ (.slice WA (R.length + 1) wcc)) w1.heap.size (.slice WA (R.length + 1) wcc) (pits y (k + 1))) := ⟨by
              rw [HT2.out]
              have h := HOW.out
              rw [show (R ++ [(nm, sv)]).length = R.length + 1 by simp] at h
              exact owI_set h HS2.out HGW.out (by decide)⟩
            have HB3 : Aside0 (Below w1.heap.size w1 (w2.setCell ⟨g6, 35, none⟩ (.slice WA (R.length + 1) wcc))) := ⟨HBW.out.trans (HS2.out.below hg6)⟩
            go_wp2
            go_roundw
            case rel => exact ⟨k + 1, _, by omega, by rw [show 52 + 36 * (k + 1) = p + 36 by omega]; go_num, HS2.out.at_, HO3.out, HB3.out⟩
            case measure => simp [intOf]; omega
          · obtain rfl : k = cn := by omega
            have hpL : p = L := by omega
            have hltI : ¬ (p : Int) < (L : Int) := by omega
            have hltN : ¬ p < L := by omega
            have hltJ : ¬ 52 + 36 * (k : Int) < (L : Int) := by omega
            have HQR : Aside0 (wr.heap[w.heap.size]? = some (.cells (Xc 0 0 0 Z32 (.slice none 0 0)).toArray 38 (0, 0))) := ⟨(HB.out.block w.heap.size HWL.out).trans (QB.out.at 0 rfl)⟩
            have BW : Aside0 (Below w.heap.size w wr) := ⟨QB.out.below.trans (HB.out.mono QB.out.below.size)⟩
            have HRI : Aside0 (RdI wr VA (pits y k).length (pits y k)) := ⟨by
              obtain ⟨_, _, e, _, hr⟩ := Kd.R_reads HO.out
              injection e with e1 e2 e3
              rw [e1]; exact hr⟩
            have hkk : k ≤ 1099511627776 := by omega
            clear hpL hcy hp
            by_cases hm : mayX pa pb pc (pits y k) = true
            · obtain ⟨a9, b9, c9, ea, eb, ec, -⟩ := mayB_nat (mayX_spec hm).1
              subst ea
              subst eb
              subst ec
              have HM := Aside0.mk hm
              have H4 : Aside0 ((pits y k).length ≤ 4096) := ⟨(mayX_spec hm).2.1⟩
              have hxo := HXO.out a9 b9 c9 rfl rfl rfl hm
              have HXA := Aside0.mk hxo.1
              have HXB2 := Aside0.mk hxo.2
              clear hm hxo
              have HNB := Aside0.mk (pits_bytes HYB.out k)
              have HIMB : Aside0 (Bytes im) := ⟨by rw [← HIMD.out]; exact (HYB.out.drop _).take _⟩
              obtain ⟨xb, hxb⟩ : ∃ xb, xbytes a9 b9 c9 im (pits y k) = xb := ⟨_, rfl⟩
              have HXBE := Aside0.mk hxb
              have hxbb : Bytes xb := by rw [← hxb]; exact cput_bytes (xbody_bytes HIMB.out HNB.out)
              have HXBB := Aside0.mk hxbb
              rw [hxb] at HXA HXB2
              clear hxb hxbb
              go_upto_region 12 with (first
                | ((with_reducible refine at_ld (w := wr) 38 (.tmp 6) ?_); refine load_arm rfl 38 (.tmp 6) rfl rfl (ld_rx HG.out HIM.out) ?_; simp only [Act.put, List.setIfInBounds_toArray, List.set_cons_zero, List.set_cons_succ])
                | (go_at_call 16; (with_reducible refine at_cw wr ?_); refine (rimay_calls a9 b9 c9 im VA (pits y k).length vc (pits y k) _ wr rfl HIM.out HRI.out (by rw [pits_len]; omega)).mono ?_; rw [HM.out]; rintro e x3 ⟨rfl, hB⟩; have HB3 := Aside0.mk hB; clear hB)
                | fail)
              have HB3D : Aside0 (Below wr.heap.size wr x3.drew) := ⟨Below.drew HB3.out⟩
              have BW3 : Aside0 (Below w.heap.size w x3.drew) := ⟨BW.out.trans (HB3D.out.mono BW.out.size)⟩
              go_cut [73] (fun q wx => q = .bool (decide (xb ≠ xs)) ∧ Below x3.drew.heap.size x3.drew wx)
              case first =>
                refine seq_startN [] (.take 0 (.take 1 (.take 2 (.take 3 (.take 6 (.take 7 (.run 4 (.take 5 (.take 8 (.take 9 .done)))))))))) (by kernel_rfl) (by kernel_rfl) ?_
                refine seq_take (v := ?_) (a' := ?_) rfl rfl (by rfl) (fun w' hw' => ?_) ?_ ?_
                rotate_left 2
                · go_simp
                  with_reducible rfl
                · simp only [Act.put, List.setIfInBounds_toArray, List.set_cons_zero, List.set_cons_succ, Go.Proofs.YtdfahblgnbdndaaDoorW.PrintLast.i64_w, Go.Proofs.YtdfahblgnbdndaaDoorW.PrintLast.i32_w]
                  rfl
                refine seq_take (v := ?_) (a' := ?_) rfl rfl (by rfl) (fun w' hw' => ?_) ?_ ?_
                rotate_left 2
                · go_simp
                  with_reducible rfl
                · simp only [Act.put, List.setIfInBounds_toArray, List.set_cons_zero, List.set_cons_succ, Go.Proofs.YtdfahblgnbdndaaDoorW.PrintLast.i64_w, Go.Proofs.YtdfahblgnbdndaaDoorW.PrintLast.i32_w]
                  rfl
                refine seq_take (v := ?_) (a' := ?_) rfl rfl (by rfl) (fun w' hw' => ?_) ?_ ?_
                rotate_left 2
                · go_simp
                  with_reducible rfl
                · simp only [Act.put, List.setIfInBounds_toArray, List.set_cons_zero, List.set_cons_succ, Go.Proofs.YtdfahblgnbdndaaDoorW.PrintLast.i64_w, Go.Proofs.YtdfahblgnbdndaaDoorW.PrintLast.i32_w]
                  rfl
                refine seq_take (v := _) (a' := ?_) rfl rfl (by rfl) (fun w' hw' => load_run rfl rfl (ld_rx (Later.heap hw' (blk_below HB3D.out HG.out)) HIM.out)) ?_ ?_
                rotate_left
                · simp only [Act.put, List.setIfInBounds_toArray, List.set_cons_zero, List.set_cons_succ, Go.Proofs.YtdfahblgnbdndaaDoorW.PrintLast.i64_w, Go.Proofs.YtdfahblgnbdndaaDoorW.PrintLast.i32_w]
                  rfl
                refine seq_take (v := ?_) (a' := ?_) rfl rfl (by rfl) (fun w' hw' => ?_) ?_ ?_
                rotate_left 2
                · go_simp
                  with_reducible rfl
                · simp only [Act.put, List.setIfInBounds_toArray, List.set_cons_zero, List.set_cons_succ, Go.Proofs.YtdfahblgnbdndaaDoorW.PrintLast.i64_w, Go.Proofs.YtdfahblgnbdndaaDoorW.PrintLast.i32_w]
                  rfl
                refine seq_take (v := _) (a' := ?_) rfl rfl (by rfl) (fun w' hw' => conv_run _ _ _ rfl rfl (conv_str (Kd.C_below HX.out (BW3.out.trans (Below.mono hw' BW3.out.size))) c)) ?_ ?_
                rotate_left
                · simp only [Act.put, List.setIfInBounds_toArray, List.set_cons_zero, List.set_cons_succ, Go.Proofs.YtdfahblgnbdndaaDoorW.PrintLast.i64_w, Go.Proofs.YtdfahblgnbdndaaDoorW.PrintLast.i32_w]
                  rfl
                refine seq_run ?_
                refine do_call rfl rfl (by rfl) rfl Tryd.func20 (by kernel_rfl) rfl #[.agg (Xc a9 b9 c9 im (.slice VA (pits y k).length vc)).toArray] (by simp only [List.map_toArray, List.map_cons, List.map_nil]; rfl) ?_
                with_reducible refine (rbytes_calls a9 b9 c9 im VA (pits y k).length vc (pits y k) _ _ rfl HIM.out (Kd.C_below HRI.out HB3D.out) HM.out HIMB.out HNB.out).mono ?_
                rintro e x6 ⟨v6, rfl, hO6, hC6⟩
                refine ⟨_, ?_, rfl, ?_, fun _ => hC6, ?_⟩
                rotate_left
                · simp only [Act.put, List.setIfInBounds_toArray, List.set_cons_zero, List.set_cons_succ, Go.Proofs.YtdfahblgnbdndaaDoorW.PrintLast.i64_w, Go.Proofs.YtdfahblgnbdndaaDoorW.PrintLast.i32_w]
                  rfl
                rw [HXBE.out] at hO6
                obtain ⟨A9, c9', hv6, hc6, hr6⟩ := OwB.reads hO6
                subst hv6
                refine seq_take (v := _) (a' := ?_) rfl rfl (by rfl) (fun w' hw' => conv_run _ _ _ rfl rfl (conv_str (Kd.C_below hr6 hw') c9')) ?_ ?_
                rotate_left
                · simp only [Act.put, List.setIfInBounds_toArray, List.set_cons_zero, List.set_cons_succ, Go.Proofs.YtdfahblgnbdndaaDoorW.PrintLast.i64_w, Go.Proofs.YtdfahblgnbdndaaDoorW.PrintLast.i32_w]
                  rfl
                have hbe : ((strOfNums xb).toList == (strOfNums xs).toList) = decide (xb = xs) := by
                  rw [bytes_beq]
                  by_cases he : xb = xs
                  · simp [he]
                  · rw [decide_eq_false he, decide_eq_false (fun h => he (str_inj HXBB.out HXB.out h))]
                clear hO6 hc6 hr6
                refine seq_take (v := ?_) (a' := ?_) rfl rfl (by rfl) (fun w' hw' => ?_) ?_ ?_
                rotate_left 2
                · go_simp
                  with_reducible rfl
                · simp only [Act.put, List.setIfInBounds_toArray, List.set_cons_zero, List.set_cons_succ, Go.Proofs.YtdfahblgnbdndaaDoorW.PrintLast.i64_w, Go.Proofs.YtdfahblgnbdndaaDoorW.PrintLast.i32_w]
                  rfl
                refine seq_take (v := ?_) (a' := ?_) rfl rfl (by rfl) (fun w' hw' => ?_) ?_ ?_
                rotate_left 2
                · go_simp
                  with_reducible rfl
                · simp only [Act.put, List.setIfInBounds_toArray, List.set_cons_zero, List.set_cons_succ, Go.Proofs.YtdfahblgnbdndaaDoorW.PrintLast.i64_w, Go.Proofs.YtdfahblgnbdndaaDoorW.PrintLast.i32_w]
                  rfl
                refine seq_endN ?_
                go_wp2
                go_meet
                case rel => exact ⟨by by_cases he : xb = xs <;> simp_all, hC6⟩
              case rest =>
                obtain ⟨rfl, hC⟩ := hcut
                have HBW : Aside0 (Below wr.heap.size wr wc) := ⟨HB3D.out.trans (hC.mono HB3D.out.size)⟩
                clear hC
                by_cases he : xb = xs
                · have HW := Aside0.mk (HXA.out he)
                  rw [decide_eq_false (show ¬ xb ≠ xs from fun h => h he)]
                  clear he
                  go_wp2_with (first
                    | ((with_reducible refine at_ld (w := wc) 38 (.tmp 6) ?_); refine load_arm rfl 38 (.tmp 6) rfl rfl (ld_rx (blk_below HBW.out HG.out) HIM.out) ?_; simp only [Act.put, List.setIfInBounds_toArray, List.set_cons_zero, List.set_cons_succ])
                    | ((with_reducible refine at_st 38 (.tmp 2) (.tmp 75) ?_); refine store_blk rfl 38 (.tmp 2) (.tmp 75) rfl rfl rfl (blk_below HBW.out HQR.out) (by rw [List.size_toArray, Xc_len Z32_len, Xc_len HIM.out]) (size_RX HIM.out) (Xc_one rfl) ?_; rintro w7 HS)
                    | fail)
                  have hbw : Below w.heap.size w w7 := (BW.out.trans (HBW.out.mono BW.out.size)).trans (HS.below (Nat.le_refl _))
                  have hrd : RdI w7 VA (pits y k).length (pits y k) := by
                    have h := owI_set (Kd.R_below HO.out HBW.out) HS (blk_below HBW.out HQR.out) (by decide)
                    obtain ⟨_, _, e, _, hr⟩ := Kd.R_reads h
                    injection e with e1 e2 e3
                    rw [e1]; exact hr
                  (try simp only [Exit.inBlock, Exit.then])
                  refine bodyPost_ret (v := .tuple #[.agg _, _]) (results_cell_tmp rfl _ _ w.heap.size _ _ _ _ rfl HS.at_ Tryd.underlying38 rfl ?_) rfl (show RPost xs w _ _ from ⟨a9, b9, c9, im, pits y k, 0, VA, (pits y k).length, vc, HIM.out, H4.out, rfl, ⟨hrd⟩, ⟨HW.out.symm⟩, hbw⟩)
                  rw [size_RX HIM.out, List.size_toArray]
                · have HW := Aside0.mk (HXB2.out he)
                  rw [decide_eq_true (show xb ≠ xs from he)]
                  clear he
                  go_wp2_with (first
                    | ((with_reducible refine at_bd 38 ?_); refine build_arm rfl 38 _ rfl built_rx0 ?_; simp only [Act.put, List.setIfInBounds_toArray, List.set_cons_zero, List.set_cons_succ])
                    | ((with_reducible refine at_st 38 (.tmp 2) (.tmp 74) ?_); refine store_blk rfl 38 (.tmp 2) (.tmp 74) rfl rfl rfl (blk_below HBW.out HQR.out) (by rw [List.size_toArray]) (size_RX Z32_len) (Xc_one rfl) ?_; rintro w7 HS)
                    | fail)
                  have hbw : Below w.heap.size w w7 := (BW.out.trans (HBW.out.mono BW.out.size)).trans (HS.below (Nat.le_refl _))
                  (try simp only [Exit.inBlock, Exit.then])
                  refine bodyPost_ret (v := .tuple #[.agg _, _]) (results_cell_tmp rfl _ _ w.heap.size _ _ _ _ rfl HS.at_ Tryd.underlying38 rfl ?_) rfl (show RPost xs w _ _ from ⟨0, 0, 0, Z32, [], 2, none, 0, 0, Z32_len, by omega, rfl, ⟨Kd.C_nil _ _⟩, ⟨HW.out.symm⟩, hbw⟩)
                  rw [size_RX Z32_len, List.size_toArray]
            · have HM : Aside0 (mayX pa pb pc (pits y k) = false) := ⟨by simpa using hm⟩
              have HW := Aside0.mk (HXN.out HM.out)
              clear hm
              go_upto_region 12 with (first
                | ((with_reducible refine at_ld (w := wr) 38 (.tmp 6) ?_); refine load_arm rfl 38 (.tmp 6) rfl rfl (ld_rx HG.out HIM.out) ?_; simp only [Act.put, List.setIfInBounds_toArray, List.set_cons_zero, List.set_cons_succ])
                | (go_at_call 16; (with_reducible refine at_cw wr ?_); refine (rimay_calls pa pb pc im VA (pits y k).length vc (pits y k) _ wr rfl HIM.out HRI.out (by rw [pits_len]; omega)).mono ?_; rw [HM.out]; rintro e x3 ⟨rfl, hB⟩; have HB3 := Aside0.mk hB; clear hB)
                | fail)
              have HB3D : Aside0 (Below wr.heap.size wr x3.drew) := ⟨Below.drew HB3.out⟩
              refine seq_startN [] (.take 0 (.take 1 (.take 2 (.take 3 (.take 4 (.take 5 (.take 6 (.take 7 (.take 8 (.take 9 .done)))))))))) (by kernel_rfl) (by kernel_rfl) ?_
              refine seq_take (v := ?_) (a' := ?_) rfl rfl (by rfl) (fun w' hw' => ?_) ?_ ?_
              rotate_left 2
              · go_simp
                with_reducible rfl
              · simp only [Act.put, List.setIfInBounds_toArray, List.set_cons_zero, List.set_cons_succ, Go.Proofs.YtdfahblgnbdndaaDoorW.PrintLast.i64_w, Go.Proofs.YtdfahblgnbdndaaDoorW.PrintLast.i32_w]
                rfl
              refine seq_take (v := ?_) (a' := ?_) rfl rfl (by rfl) (fun w' hw' => ?_) ?_ ?_
              rotate_left 2
              · go_simp
                with_reducible rfl
              · simp only [Act.put, List.setIfInBounds_toArray, List.set_cons_zero, List.set_cons_succ, Go.Proofs.YtdfahblgnbdndaaDoorW.PrintLast.i64_w, Go.Proofs.YtdfahblgnbdndaaDoorW.PrintLast.i32_w]
                rfl
              refine seq_take (v := ?_) (a' := ?_) rfl rfl (by rfl) (fun w' hw' => ?_) ?_ ?_
              rotate_left 2
              · go_simp
                with_reducible rfl
              · simp only [Act.put, List.setIfInBounds_toArray, List.set_cons_zero, List.set_cons_succ, Go.Proofs.YtdfahblgnbdndaaDoorW.PrintLast.i64_w, Go.Proofs.YtdfahblgnbdndaaDoorW.PrintLast.i32_w]
                rfl
              refine seq_off (a' := ?_) rfl rfl (by rfl) ?_ ?_
              rotate_left
              · simp only [Act.put, List.setIfInBounds_toArray, List.set_cons_zero, List.set_cons_succ, Go.Proofs.YtdfahblgnbdndaaDoorW.PrintLast.i64_w, Go.Proofs.YtdfahblgnbdndaaDoorW.PrintLast.i32_w]
                rfl
              refine seq_off (a' := ?_) rfl rfl (by rfl) ?_ ?_
              rotate_left
              · simp only [Act.put, List.setIfInBounds_toArray, List.set_cons_zero, List.set_cons_succ, Go.Proofs.YtdfahblgnbdndaaDoorW.PrintLast.i64_w, Go.Proofs.YtdfahblgnbdndaaDoorW.PrintLast.i32_w]
                rfl
              refine seq_off (a' := ?_) rfl rfl (by rfl) ?_ ?_
              rotate_left
              · simp only [Act.put, List.setIfInBounds_toArray, List.set_cons_zero, List.set_cons_succ, Go.Proofs.YtdfahblgnbdndaaDoorW.PrintLast.i64_w, Go.Proofs.YtdfahblgnbdndaaDoorW.PrintLast.i32_w]
                rfl
              refine seq_off (a' := ?_) rfl rfl (by rfl) ?_ ?_
              rotate_left
              · simp only [Act.put, List.setIfInBounds_toArray, List.set_cons_zero, List.set_cons_succ, Go.Proofs.YtdfahblgnbdndaaDoorW.PrintLast.i64_w, Go.Proofs.YtdfahblgnbdndaaDoorW.PrintLast.i32_w]
                rfl
              refine seq_off (a' := ?_) rfl rfl (by rfl) ?_ ?_
              rotate_left
              · simp only [Act.put, List.setIfInBounds_toArray, List.set_cons_zero, List.set_cons_succ, Go.Proofs.YtdfahblgnbdndaaDoorW.PrintLast.i64_w, Go.Proofs.YtdfahblgnbdndaaDoorW.PrintLast.i32_w]
                rfl
              refine seq_off (a' := ?_) rfl rfl (by rfl) ?_ ?_
              rotate_left
              · simp only [Act.put, List.setIfInBounds_toArray, List.set_cons_zero, List.set_cons_succ, Go.Proofs.YtdfahblgnbdndaaDoorW.PrintLast.i64_w, Go.Proofs.YtdfahblgnbdndaaDoorW.PrintLast.i32_w]
                rfl
              refine seq_take (v := ?_) (a' := ?_) rfl rfl (by rfl) (fun w' hw' => ?_) ?_ ?_
              rotate_left 2
              · go_simp
                with_reducible rfl
              · simp only [Act.put, List.setIfInBounds_toArray, List.set_cons_zero, List.set_cons_succ, Go.Proofs.YtdfahblgnbdndaaDoorW.PrintLast.i64_w, Go.Proofs.YtdfahblgnbdndaaDoorW.PrintLast.i32_w]
                rfl
              refine seq_endN ?_
              go_wp2_with (first
                | ((with_reducible refine at_bd 38 ?_); refine build_arm rfl 38 _ rfl built_rx0 ?_; simp only [Act.put, List.setIfInBounds_toArray, List.set_cons_zero, List.set_cons_succ])
                | ((with_reducible refine at_st 38 (.tmp 2) (.tmp 74) ?_); refine store_blk rfl 38 (.tmp 2) (.tmp 74) rfl rfl rfl (blk_below HB3D.out HQR.out) (by rw [List.size_toArray]) (size_RX Z32_len) (Xc_one rfl) ?_; rintro w7 HS)
                | fail)
              have hbw : Below w.heap.size w w7 := (BW.out.trans (HB3D.out.mono BW.out.size)).trans (HS.below (Nat.le_refl _))
              (try simp only [Exit.inBlock, Exit.then])
              refine bodyPost_ret (v := .tuple #[.agg _, _]) (results_cell_tmp rfl _ _ w.heap.size _ _ _ _ rfl HS.at_ Tryd.underlying38 rfl ?_) rfl (show RPost xs w _ _ from ⟨0, 0, 0, Z32, [], 2, none, 0, 0, Z32_len, by omega, rfl, ⟨Kd.C_nil _ _⟩, ⟨HW.out.symm⟩, hbw⟩)
              rw [size_RX Z32_len, List.size_toArray]
      · have HW : Aside0 (XR xs = XZ 2) := ⟨XR_no HT.out (fun hh => hm0 (hmn.out.1 hh.1))⟩
        have hm1 : ((md : Int) != 0) = true := by rw [bne_iff_ne]; omega
        go_enter Tryd.func32, Tryd.ntmps32
        go_wp2_with (first
          | (go_at_call 53; exfalso; have h9 : (52 : Int) ≤ (L : Int) ∧ ((md : Int) != 0) = false := (by assumption); exact absurd h9.2 (by rw [hm1]; decide))
          | (go_at_call 52; refine (rtake_calls A xs.length c xs _ (Kd.C_below HX.out (Q0.out _).below) hc HXB.out (by omega)).mono ?_; rw [HT.out]; rintro e w1 ⟨B1, m1, d1, rfl, hR, hd1, hB1⟩; have Q1 := (Q0.out _).call hB1; obtain rfl : L = m1 := HL.out.symm.trans hR.1; have HR1 : Aside0 (RdB w1 B1 L y) := ⟨Kd.C_below hR hB1⟩; clear hR hB1)
          | ((with_reducible refine at_bd 38 ?_); refine build_arm rfl 38 _ rfl built_rx0 ?_; simp only [Act.put, List.setIfInBounds_toArray, List.set_cons_zero, List.set_cons_succ])
          | ((with_reducible refine at_st 38 (.tmp 2) (.tmp 28) ?_); have hq := Q1.at 0 rfl; refine store_blk rfl 38 (.tmp 2) (.tmp 28) rfl rfl rfl hq (by rw [Xc_len Z32_len]; rfl) (size_RX Z32_len) (Xc_one rfl) ?_; clear hq; rintro w7 HS)
          | fail)
        have Q7 := Q1.set 0 rfl HS
        (try simp only [Exit.inBlock, Exit.then])
        refine bodyPost_ret (v := .tuple #[.agg _, _]) (results_cell_tmp rfl _ _ w.heap.size _ _ _ _ rfl HS.at_ Tryd.underlying38 rfl ?_) rfl (show RPost xs w _ _ from ⟨0, 0, 0, Z32, [], 2, none, 0, 0, Z32_len, by omega, rfl, ⟨Kd.C_nil _ _⟩, ⟨HW.out.symm⟩, Q7.below⟩)
        rw [size_RX Z32_len, List.size_toArray]
  · have HW := Aside0.mk (XR_err HT.out her)
    have her' : (er != 0) = true := by simpa using her
    go_enter Tryd.func32, Tryd.ntmps32
    go_wp2_with (first
      | (go_at_call 52; refine (rtake_calls A xs.length c xs _ (Kd.C_below HX.out (Q0.out _).below) hc HXB.out (by omega)).mono ?_; rw [HT.out]; rintro e w1 ⟨B1, m1, d1, rfl, hR, hd1, hB1⟩; have Q1 := (Q0.out _).call hB1; obtain rfl : L = m1 := HL.out.symm.trans hR.1; have HR1 : Aside0 (RdB w1 B1 L y) := ⟨Kd.C_below hR hB1⟩; clear hR hB1)
      | ((with_reducible refine at_bd 38 ?_); refine build_arm rfl 38 _ rfl built_rx0 ?_; simp only [Act.put, List.setIfInBounds_toArray, List.set_cons_zero, List.set_cons_succ])
      | ((with_reducible refine at_st 38 (.tmp 2) (.tmp 16) ?_); have hq := Q1.at 0 rfl; refine store_blk rfl 38 (.tmp 2) (.tmp 16) rfl rfl rfl hq (by rw [Xc_len Z32_len]; rfl) (size_RX Z32_len) (Xc_one rfl) ?_; clear hq; rintro w7 HS)
      | fail)
    have Q7 := Q1.set 0 rfl HS
    (try simp only [Exit.inBlock, Exit.then])
    refine bodyPost_ret (v := .tuple #[.agg _, _]) (results_cell_tmp rfl _ _ w.heap.size _ _ _ _ rfl HS.at_ Tryd.underlying38 rfl ?_) rfl (show RPost xs w _ _ from ⟨0, 0, 0, Z32, [], er, none, 0, 0, Z32_len, by omega, rfl, ⟨Kd.C_nil _ _⟩, ⟨HW.out.symm⟩, Q7.below⟩)
    rw [size_RX Z32_len, List.size_toArray]
end Go.Proofs.YtdfahblgnbdndaaDoor
