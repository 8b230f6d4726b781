/- index.Read: what it computes. Conditions: bytes that are read. -/
import Derived.Test.YtdfahblgnbdndaaDoorIdxF
import Derived.Test.YtdfahblgnbdndaaDoorG12
import Derived.Test.YtdfahblgnbdndaaDoorIdxC
import Derived.Test.YtdfahblgnbdndaaDoorShelf
import Derived.Deep.CutBlock
import Derived.Deep.DeepCutAuto
namespace Go.Proofs.YtdfahblgnbdndaaDoor
open Go.RowKit Go.Shelf Go.Proofs.YtdfahblgnbdndaaDoorW.PrintWords Go.Proofs.YtdfahblgnbdndaaDoorW.PrintMore
set_option linter.unusedVariables false
set_option linter.unusedSimpArgs false
theorem str_inj {a b : List Int} (ha : Bytes a) (hb : Bytes b) (h : strOfNums a = strOfNums b) : a = b := by
  rw [← bytesOf_str ha, h, bytesOf_str hb]
theorem pre_magic {y : List Int} (hb : Bytes y) : Lib.hasPrefix (strOfNums y).data.toList [76, 84, 73, 49] = decide (y.take 4 = [76, 84, 73, 49]) := by
  have hm : Bytes [76, 84, 73, 49] := by intro x hx; simp at hx; omega
  have e1 : (strOfNums y).data.toList = Lib.bytesOf y := strOfNums_data y
  have e2 : ([76, 84, 73, 49] : List UInt8) = Lib.bytesOf [76, 84, 73, 49] := by decide
  rw [e1, e2, ← Lib.bytes_hasPrefix, Bool.eq_iff_iff]
  simp only [Bool.and_eq_true, decide_eq_true_eq, beq_iff_eq, List.length_cons, List.length_nil, Nat.reduceAdd]
  constructor
  · rintro ⟨h1, h2⟩
    refine str_inj (hb.take _) hm (ba_ext ?_)
    rw [strOfNums_data, strOfNums_data]
    exact h2
  · intro h
    refine ⟨?_, by rw [h]⟩
    have := congrArg List.length h
    rw [List.length_take] at this
    simp at this
    omega
theorem trim_magic (y : List Int) : (⟨((strOfNums y).data.toList.drop 4).toArray⟩ : ByteArray) = strOfNums (y.drop 4) := by
  apply ba_ext
  rw [strOfNums_data (y.drop 4), List.map_drop]
  show (strOfNums y).data.toList.drop 4 = _
  rw [strOfNums_data]
theorem cutp_ok {y : List Int} (w : World) (hb : Bytes y) (h : y.take 4 = [76, 84, 73, 49]) : Calls Tryd.prog 49 #[.string (strOfNums y), .string ⟨#[76, 84, 73, 49]⟩] w fun e w' => e = .returned (.tuple #[.string (strOfNums (y.drop 4)), .bool true]) ∧ w' = w := by
  refine (Tryd.strings_CutPrefix (strOfNums y) ⟨#[76, 84, 73, 49]⟩ w).mono ?_
  rintro e w' ⟨rfl, rfl⟩
  have hp := pre_magic hb
  rw [decide_eq_true h] at hp
  refine ⟨?_, rfl⟩
  rw [show (⟨#[76, 84, 73, 49]⟩ : ByteArray).data.toList = [76, 84, 73, 49] from rfl, hp]
  unfold Lib.trimPrefix
  rw [hp, if_pos rfl, ← trim_magic]
  rfl
theorem cutp_no {y : List Int} (w : World) (hb : Bytes y) (h : y.take 4 ≠ [76, 84, 73, 49]) : Calls Tryd.prog 49 #[.string (strOfNums y), .string ⟨#[76, 84, 73, 49]⟩] w fun e w' => (∃ s, e = .returned (.tuple #[.string s, .bool false])) ∧ w' = w := by
  refine (Tryd.strings_CutPrefix (strOfNums y) ⟨#[76, 84, 73, 49]⟩ w).mono ?_
  rintro e w' ⟨rfl, rfl⟩
  have hp := pre_magic hb
  rw [decide_eq_false h] at hp
  exact ⟨⟨_, by rw [show (⟨#[76, 84, 73, 49]⟩ : ByteArray).data.toList = [76, 84, 73, 49] from rfl, hp]⟩, rfl⟩
/-- The reader's methods, the bytes from k on. -/
theorem rdnum_at (g : Nat) (y : List Int) (k : Nat) (w : World) (hb : Bytes y) (hl : k + 4 ≤ y.length) (h : RdG w g (y.drop k)) :
    Calls Tryd.prog 50 #[.pointer (some ⟨g, 0, none⟩)] w fun e w' => e = .returned (.int .i64 (num y k)) ∧ RdG w' g (y.drop (k + 4)) ∧ Fr w w' (fun k => k = g) := by
  refine (rdnum_calls g (y.drop k) w (hb.drop _) (by rw [List.length_drop]; omega) h).mono ?_
  rintro e w' ⟨rfl, hS⟩
  rw [num_drop, List.drop_drop] at *
  exact ⟨rfl, hS.at_, rdnum_fr hS⟩
theorem rddig_at (g : Nat) (y : List Int) (k : Nat) (w : World) (hb : Bytes y) (hl : k + 32 ≤ y.length) (h : RdG w g (y.drop k)) :
    Calls Tryd.prog 51 #[.pointer (some ⟨g, 0, none⟩)] w fun e w' => e = .returned (.agg (Nm ((y.drop k).take 32)).toArray) ∧ RdG w' g (y.drop (k + 32)) ∧ Fr w w' (fun k => k = g) := by
  refine (rddig_calls g (y.drop k) w (hb.drop _) (by rw [List.length_drop]; omega) h).mono ?_
  rintro e w' ⟨rfl, hR, hF⟩
  rw [List.drop_drop] at hR
  exact ⟨rfl, hR, hF⟩
theorem built_p (a b c : Int) : Tryd.prog.built 24 [(0, .int .i64 a), (1, .int .i64 b), (2, .int .i64 c)] = some #[.int .i64 a, .int .i64 b, .int .i64 c] := by kernel_rfl
theorem RdG.drew {w : World} {g : Nat} {z : List Int} (h : RdG w g z) : RdG w.drew g z := by
  unfold RdG at *
  exact h
theorem Fr.callB {w w1 w2 : World} {S : Nat → Prop} {B : Nat} (h : Fr w w1 S) (k : Below B w1 w2) (hB : w.heap.size ≤ B) : Fr w w2 S :=
  ⟨k.os.trans h.os, k.tape.trans h.tape, k.output.trans h.output, Nat.le_trans h.size k.size, fun i hi hS => (k.block i (by omega)).trans (h.block i hi hS)⟩
def IPost (xs : List Int) (w : World) (e : Ending) (w' : World) : Prop :=
  ∃ (a b c : Int) (im : List Int) (its : List Itm) (er : Int) (A : Option Addr) (n cp : Nat), im.length = 32 ∧ n ≤ 4096 ∧ e = .returned (.tuple #[.agg (Xc a b c im (.slice A n cp)).toArray, .int .i64 er]) ∧ Aside0 (RdI w' A n its) ∧ Aside0 ((a, b, c, im, its, er) = XR xs) ∧ Below w.heap.size w w'
set_option maxRecDepth 20000 in
set_option maxHeartbeats 6400000 in
/-- index.Read -/
theorem iread_calls (A : Option Addr) (n c : Nat) (xs : List Int) (w : World) (h : RdB w A n xs) (hc : n ≤ c) (hb : Bytes xs) (hn : n ≤ 70368744177664) :
    Calls Tryd.prog 31 #[.slice A n c] w fun e w' => IPost xs w e w' := by
  have HX := Aside0.mk h
  have HXB := Aside0.mk hb
  obtain rfl : xs.length = n := h.1
  clear h hb
  have Q0 : Aside0 (∀ o, Bag w (w.alloc (.cells o 29)) [(w.heap.size, .cells o 29 (0, 0))]) := ⟨fun o => (Bag.nil w).box o 29⟩
  rcases hT : ctake xs with ⟨y, er⟩
  have HT := Aside0.mk hT
  have hyb : Bytes y := by have := ctake_bytes HXB.out; rwa [hT] at this
  have HYB := Aside0.mk hyb
  have hyl : y.length ≤ 70368744177664 := by
    have h2 : (ctake xs).1.length ≤ xs.length := by
      unfold ctake
      split
      · simp
      · split <;> simp
    rw [hT] at h2
    exact Nat.le_trans h2 hn
  clear hT hyb
  by_cases her : er = 0
  · subst er
    by_cases hp : y.take 4 = [76, 84, 73, 49]
    · have HP := Aside0.mk hp
      have h4 : 4 ≤ y.length := by
        have := congrArg List.length hp
        rw [List.length_take] at this
        simp at this
        omega
      obtain ⟨rs, hrs⟩ : ∃ rs, y.drop 4 = rs := ⟨_, rfl⟩
      obtain ⟨L, hL⟩ : ∃ L, rs.length = L := ⟨_, rfl⟩
      have HL : Aside0 (rs.length = L ∧ y.length = L + 4) := ⟨hL, by have := congrArg List.length hrs; rw [List.length_drop] at this; omega⟩
      have hLm : L ≤ 70368744177664 := by have := HL.out.2; omega
      have hsz : (strOfNums rs).size = L := by rw [size_str, hL]
      have HRS := Aside0.mk hrs
      clear hp hrs hL
      by_cases h48 : L < 48
      · have HW : Aside0 (XR xs = XZ 2) := ⟨XR_no HT.out (fun hh => by have := of_decide_eq_true hh.1; have := HL.out.2; omega)⟩
        have h48I : (L : Int) < 48 := by omega
        go_enter Tryd.func31, Tryd.ntmps31
        go_wp2_with (first
          | (go_at_call 48; refine (take_calls A xs.length c xs _ (Kd.C_below HX.out (Q0.out _).below) hc HXB.out hn).mono ?_; rw [HT.out]; rintro e w1 ⟨v1, rfl, hO, hB1⟩; have Q1 := (Q0.out _).call hB1; obtain ⟨B1, d1, hv1, hd1, hr1⟩ := OwB.reads hO; have HR1 := Aside0.mk hr1; clear hd1 hr1 hO hB1; subst hv1)
          | ((with_reducible refine at_cv 33 9 ?_); refine conv_arm rfl 33 9 _ rfl rfl (conv_str HR1.out d1) ?_; simp only [Act.put, List.setIfInBounds_toArray, List.set_cons_zero, List.set_cons_succ])
          | (go_at_call 49; refine (cutp_ok w1 HYB.out HP.out).mono ?_; rw [HRS.out]; rintro e u1 ⟨rfl, rfl⟩)
          | ((with_reducible refine at_bd 29 ?_); refine build_arm rfl 29 _ rfl built_x0 ?_; simp only [Act.put, List.setIfInBounds_toArray, List.set_cons_zero, List.set_cons_succ])
          | ((with_reducible refine at_st 29 (.tmp 2) (.tmp 41) ?_); have hq := Q1.at 0 rfl; refine store_blk rfl 29 (.tmp 2) (.tmp 41) rfl rfl rfl hq (by rw [Xc_len Z32_len]; rfl) (size_X Z32_len) (Xc_one rfl) ?_; clear hq; rintro w7 HS)
          | fail)
        have Q7 := Q1.set 0 rfl HS
        (try simp only [Exit.inBlock, Exit.then])
        refine bodyPost_ret (v := .tuple #[.agg _, _]) (results_cell_tmp rfl _ _ w.heap.size _ _ _ _ rfl HS.at_ Tryd.underlying29 rfl ?_) rfl (show IPost xs w _ _ from ⟨0, 0, 0, Z32, [], 2, none, 0, 0, Z32_len, by omega, rfl, ⟨Kd.C_nil _ _⟩, ⟨HW.out.symm⟩, Q7.below⟩)
        rw [size_X Z32_len, List.size_toArray]
      · have hw1 : IntKind.i64.wrap ((L : Int) - 16) = (L : Int) - 16 := by rw [IntKind.wrap_i64]; omega
        have hw2 : IntKind.i64.wrap ((L : Int) - 16 - 32) = (L : Int) - 16 - 32 := by rw [IntKind.wrap_i64]; omega
        obtain ⟨md, hmd⟩ : ∃ md, (L - 48) % 36 = md := ⟨_, rfl⟩
        have hmod : ((L : Int) - 16 - 32) % 36 = (md : Int) := by omega
        have h48I : ¬ (L : Int) < 48 := by omega
        have hmn : Aside0 (hdrOk y = true ↔ md = 0) := ⟨by unfold hdrOk; rw [decide_eq_true_iff]; have := HL.out.2; omega⟩
        have HMD := Aside0.mk hmd
        clear hmd
        by_cases hm0 : md = 0
        · subst hm0
          obtain ⟨im, him⟩ : ∃ im, (y.drop 16).take 32 = im := ⟨_, rfl⟩
          have HIMD := Aside0.mk him
          have HIM : Aside0 (im.length = 32) := ⟨by rw [← him, List.length_take, List.length_drop]; have := HL.out.2; omega⟩
          have hm1 : (((0 : Nat) : Int) != 0) = false := by decide
          obtain ⟨N, hN⟩ : ∃ N, num y 48 = N := ⟨_, rfl⟩
          have HNN := Aside0.mk hN
          have hNr := num_range HYB.out 48
          rw [hN] at hNr
          obtain ⟨M, hM⟩ : ∃ M, L - 48 = M := ⟨_, rfl⟩
          have hsz2 : (strOfNums (y.drop 52)).size = M := by rw [size_str, List.length_drop]; have := HL.out.2; omega
          have hNw : IntKind.i64.wrap (N * 36) = N * 36 := by rw [IntKind.wrap_i64]; omega
          have HC : Aside0 (M = 36 * cnt y) := ⟨by unfold cnt; have := HL.out.2; have := HMD.out; omega⟩
          have HH : Aside0 (hdrOk y = true) := ⟨hmn.out.2 rfl⟩
          clear him hN
          by_cases hNM : N * 36 = (M : Int)
          · have hne : (N * 36 != (M : Int)) = false := by rw [bne_eq_false_iff_eq]; exact hNM
            have HCN : Aside0 (N = (cnt y : Int)) := ⟨by have := HC.out; omega⟩
            have hcm : cnt y ≤ 4294967295 := by have := HCN.out; omega
            have HCY : Aside0 (52 + 36 * cnt y = y.length) := ⟨by have := HC.out; have := HL.out.2; have := HMD.out; omega⟩
            obtain ⟨cn, hcn⟩ : ∃ cn, cnt y = cn := ⟨_, rfl⟩
            rw [hcn] at HCN hcm HCY
            have HCC := Aside0.mk hcn
            clear hcn
            go_enter Tryd.func31, Tryd.ntmps31
            go_wp2_with (first
              | (go_at_call 48; refine (take_calls A xs.length c xs _ (Kd.C_below HX.out (Q0.out _).below) hc HXB.out hn).mono ?_; rw [HT.out]; rintro e w1 ⟨v1, rfl, hO, hB1⟩; have Q1 := (Q0.out _).call hB1; obtain ⟨B1, d1, hv1, hd1, hr1⟩ := OwB.reads hO; have HR1 := Aside0.mk hr1; clear hd1 hr1 hO hB1; subst hv1)
              | ((with_reducible refine at_cv 33 9 ?_); refine conv_arm rfl 33 9 _ rfl rfl (conv_str HR1.out d1) ?_; simp only [Act.put, List.setIfInBounds_toArray, List.set_cons_zero, List.set_cons_succ])
              | (go_at_call 49; refine (cutp_ok w1 HYB.out HP.out).mono ?_; rw [HRS.out]; rintro e u1 ⟨rfl, rfl⟩; have R0 : Aside0 (RdG (u1.alloc (.cells #[.string (strOfNums rs)] 87)) u1.heap.size (y.drop 4)) := ⟨by rw [HRS.out]; exact blk_new u1 _⟩)
              | (go_at_call 50; (with_reducible refine at_cw (u1.alloc (.cells #[.string (strOfNums rs)] 87)) ?_); refine (rdnum_at u1.heap.size y 4 (u1.alloc (.cells #[.string (strOfNums rs)] 87)) HYB.out (by have := HL.out.2; omega) R0.out).mono ?_; rintro e u2 ⟨rfl, hr, hf⟩; have Ru2 := Aside0.mk hr; have Fu2 : Aside0 (Fr (u1.alloc (.cells #[.string (strOfNums rs)] 87)) u2 (fun k => k = u1.heap.size)) := ⟨hf⟩; clear hr hf)
              | (go_at_call 50; (with_reducible refine at_cw u2 ?_); refine (rdnum_at u1.heap.size y 8 u2 HYB.out (by have := HL.out.2; omega) Ru2.out).mono ?_; rintro e u3 ⟨rfl, hr, hf⟩; have Ru3 := Aside0.mk hr; have Fu3 : Aside0 (Fr (u1.alloc (.cells #[.string (strOfNums rs)] 87)) u3 (fun k => k = u1.heap.size)) := ⟨Fu2.out.trans hf⟩; clear hr hf)
              | (go_at_call 50; (with_reducible refine at_cw u3 ?_); refine (rdnum_at u1.heap.size y 12 u3 HYB.out (by have := HL.out.2; omega) Ru3.out).mono ?_; rintro e u4 ⟨rfl, hr, hf⟩; have Ru4 := Aside0.mk hr; have Fu4 : Aside0 (Fr (u1.alloc (.cells #[.string (strOfNums rs)] 87)) u4 (fun k => k = u1.heap.size)) := ⟨Fu3.out.trans hf⟩; clear hr hf)
              | ((with_reducible refine at_bd 24 ?_); refine build_arm rfl 24 _ rfl (built_p _ _ _) ?_; simp only [Act.put, List.setIfInBounds_toArray, List.set_cons_zero, List.set_cons_succ])
              | (go_at_call 51; (with_reducible refine at_cw u4 ?_); refine (rddig_at u1.heap.size y 16 u4 HYB.out (by have := HL.out.2; omega) Ru4.out).mono ?_; rw [HIMD.out]; rintro e u5 ⟨rfl, hr, hf⟩; have Ru5 := Aside0.mk hr; have Fu5 : Aside0 (Fr (u1.alloc (.cells #[.string (strOfNums rs)] 87)) u5 (fun k => k = u1.heap.size)) := ⟨Fu4.out.trans hf⟩; clear hr hf)
              | ((with_reducible refine at_bd 29 ?_); refine build_arm rfl 29 _ rfl (built_x2 _ _ _ im HIM.out) ?_; simp only [Act.put, List.setIfInBounds_toArray, List.set_cons_zero, List.set_cons_succ])
              | ((with_reducible refine at_al 29 ?_); refine new_x rfl rfl rfl rfl (.tmp 54) rfl (of_decide_eq_true rfl) rfl HIM.out rfl ?_; rintro u6 gx N6; have Fu6 : Aside0 (Fr (u1.alloc (.cells #[.string (strOfNums rs)] 87)) u6 (fun k => k = u1.heap.size)) := ⟨Fu5.out.call N6.below⟩; have Ru6 : Aside0 (RdG u6 u1.heap.size (y.drop 48)) := ⟨N6.blk Ru5.out⟩; have GX6 := Aside0.mk N6.at_; have GE6 : Aside0 ((u1.alloc (.cells #[.string (strOfNums rs)] 87)).heap.size ≤ gx) := ⟨Nat.le_trans Fu5.out.size N6.ge⟩; clear N6)
              | (go_at_call 50; (with_reducible refine at_cw u6 ?_); refine (rdnum_at u1.heap.size y 48 u6 HYB.out (by have := HL.out.2; omega) Ru6.out).mono ?_; rw [HNN.out]; rintro e u7 ⟨rfl, hr, hf⟩; have Ru7 := Aside0.mk hr; have hc7 := hr.cell; have GX7 : Aside0 (u7.heap[gx]? = some (.cells (Xc (num y 4) (num y 8) (num y 12) im (.slice none 0 0)).toArray 29 (0, 0))) := ⟨(hf.block gx (blk_lt GX6.out) (by have h1 := GE6.out; have h2 : u1.heap.size < (u1.alloc (.cells #[.string (strOfNums rs)] 87)).heap.size := (by simp); omega)).trans GX6.out⟩; have Fu7 : Aside0 (Fr (u1.alloc (.cells #[.string (strOfNums rs)] 87)) u7 (fun k => k = u1.heap.size)) := ⟨Fu6.out.trans hf⟩; clear hr hf)
              | fail)
            obtain ⟨ub, hub⟩ : ∃ ub, ub = (u1.alloc (.cells #[.string (strOfNums rs)] 87)) := ⟨_, rfl⟩
            rw [← hub] at Fu7 GE6
            have QB : Aside0 (Bag w ub [(w.heap.size, .cells (Xc 0 0 0 Z32 (.slice none 0 0)).toArray 29 (0, 0)), (u1.heap.size, .cells #[.string (strOfNums rs)] 87 (0, 0))]) := ⟨by rw [hub]; exact Q1.box _ _⟩
            have HUS : Aside0 (ub.heap.size = u1.heap.size + 1) := ⟨by rw [hub]; simp⟩
            have HWS : Aside0 (w.heap.size < u1.heap.size) := ⟨blk_lt (Q1.at 0 rfl)⟩
            clear hub Q1 R0 Ru2 Ru3 Ru4 Ru5 Ru6 Fu2 Fu3 Fu4 Fu5 Fu6 GX6 hc7 HR1
            have HXO : Aside0 (mayX (num y 4) (num y 8) (num y 12) (pits y cn) = true → XR xs = (num y 4, num y 8, num y 12, im, pits y cn, 0)) := ⟨fun hm => by
              have h := XR_ok HT.out ⟨HH.out, HP.out, by rw [HNN.out, HCN.out, HCC.out], by rw [HCC.out]; exact hm⟩
              rw [HIMD.out, HCC.out] at h
              exact h⟩
            have HXN : Aside0 (mayX (num y 4) (num y 8) (num y 12) (pits y cn) = false → XR xs = XZ 2) := ⟨fun hm => XR_no HT.out (fun hh => by
              have h := hh.2.2.2
              rw [HCC.out, hm] at h
              exact absurd h (by decide))⟩
            generalize num y 4 = pa at *
            generalize num y 8 = pb at *
            generalize num y 12 = pc at *
            generalize u1.heap.size = g at *
            go_loopw [67] (fun i wr => ∃ (k : Nat) (v : Value), k ≤ cn ∧ i = .int .i64 k ∧ RdG wr g (y.drop (52 + 36 * k)) ∧ wr.heap[gx]? = some (.cells (Xc pa pb pc im v).toArray 29 (0, 0)) ∧ OwI wr ub.heap.size v (pits y k) ∧ Fr ub wr (fun k => k = g)) (fun i _ => cn - (intOf i).toNat)
            case atStart => exact ⟨0, _, Nat.zero_le _, rfl, Ru7.out, GX7.out, Kd.R_nil _ _ _ _ _, Fu7.out⟩
            case round =>
              obtain ⟨k, v, hk, rfl, hRd, hG, hO, hF⟩ := hrel
              have HRD := Aside0.mk hRd
              have HG := Aside0.mk hG
              have HF := Aside0.mk hF
              obtain ⟨VA, vc, rfl, -, -⟩ := Kd.R_reads hO
              have HO := Aside0.mk hO
              clear hRd hG hO hF
              by_cases hlt : k < cn
              · have hltI : (k : Int) < N := by rw [HCN.out]; omega
                have HT := Aside0.mk (pits_succ y k)
                have hpl := pits_len y k
                obtain ⟨R, hR⟩ : ∃ R, pits y k = R := ⟨_, rfl⟩
                rw [hR] at HT HO HG hpl
                have hRl : R.length ≤ 4294967295 := by omega
                have hl1 : 52 + 36 * k + 32 ≤ y.length := by have := HCY.out; omega
                have hl2 : 84 + 36 * k + 4 ≤ y.length := by have := HCY.out; omega
                obtain ⟨nm, hnm⟩ : ∃ nm, (y.drop (52 + 36 * k)).take 32 = nm := ⟨_, rfl⟩
                obtain ⟨sv, hsv⟩ : ∃ sv, num y (84 + 36 * k) = sv := ⟨_, rfl⟩
                have HNM := Aside0.mk hnm
                have HSV := Aside0.mk hsv
                have HNL : Aside0 (nm.length = 32) := ⟨by rw [← hnm, List.length_take, List.length_drop]; omega⟩
                rw [hnm, hsv] at HT
                have hgg : gx ≠ g := by have := GE6.out; have := HUS.out; omega
                have HGG := Aside0.mk hgg
                have HALL : Aside0 (∀ W, Fr wr.drew W (fun k => k = g) → W.cell? ⟨gx, 35, none⟩ = some (.slice VA R.length vc)) := ⟨fun W hW => x_items ((hW.block gx (blk_lt (show wr.drew.heap[gx]? = _ from HG.out)) HGG.out).trans HG.out) HIM.out⟩
                clear hnm hsv hR hgg hpl
                go_upto_region 14 with fail
                refine seqX_startN [8, 10] (fun k => k = g) (.take 0 (.take 1 (.take 2 (.take 4 (.run 3 (.run 5 (.take 6 (.run 7 (.run 8 (.take 9 (.run 10 .done))))))))))) (by kernel_rfl) (by kernel_rfl) ?_
                refine seqX_take (v := ?_) (a' := ?_) rfl rfl (by rfl) (fun w' hw' => ?_) ?_ ?_
                rotate_left 2
                · go_simp
                  with_reducible rfl
                · simp only [Act.put, List.setIfInBounds_toArray, List.set_cons_zero, List.set_cons_succ, Go.Proofs.YtdfahblgnbdndaaDoorW.PrintLast.i64_w, Go.Proofs.YtdfahblgnbdndaaDoorW.PrintLast.i32_w]
                  rfl
                refine seqX_take (v := ?_) (a' := ?_) rfl rfl (by rfl) (fun w' hw' => ?_) ?_ ?_
                rotate_left 2
                · have hx := HALL.out w' hw'; go_simp
                  with_reducible rfl
                · simp only [Act.put, List.setIfInBounds_toArray, List.set_cons_zero, List.set_cons_succ, Go.Proofs.YtdfahblgnbdndaaDoorW.PrintLast.i64_w, Go.Proofs.YtdfahblgnbdndaaDoorW.PrintLast.i32_w]
                  rfl
                refine seqX_take (v := ?_) (a' := ?_) rfl rfl (by rfl) (fun w' hw' => ?_) ?_ ?_
                rotate_left 2
                · go_simp
                  with_reducible rfl
                · simp only [Act.put, List.setIfInBounds_toArray, List.set_cons_zero, List.set_cons_succ, Go.Proofs.YtdfahblgnbdndaaDoorW.PrintLast.i64_w, Go.Proofs.YtdfahblgnbdndaaDoorW.PrintLast.i32_w]
                  rfl
                refine seqX_take (v := ?_) (a' := ?_) rfl rfl (by rfl) (fun w' hw' => ?_) ?_ ?_
                rotate_left 2
                · go_simp
                  with_reducible rfl
                · simp only [Act.put, List.setIfInBounds_toArray, List.set_cons_zero, List.set_cons_succ, Go.Proofs.YtdfahblgnbdndaaDoorW.PrintLast.i64_w, Go.Proofs.YtdfahblgnbdndaaDoorW.PrintLast.i32_w]
                  rfl
                refine seqX_run ?_
                refine do_call rfl rfl (by rfl) rfl Tryd.func51 (by kernel_rfl) rfl #[.pointer (some ⟨g, 0, none⟩)] (by simp only [List.map_toArray, List.map_cons, List.map_nil]; rfl) ?_
                with_reducible refine (rddig_at g y (52 + 36 * k) wr.drew HYB.out hl1 HRD.out.drew).mono ?_
                rintro e x1 ⟨rfl, hr1, hf1⟩
                refine ⟨_, ?_, rfl, ?_, fun _ => hf1, ?_⟩
                rotate_left
                · simp only [Act.put, List.setIfInBounds_toArray, List.set_cons_zero, List.set_cons_succ, Go.Proofs.YtdfahblgnbdndaaDoorW.PrintLast.i64_w, Go.Proofs.YtdfahblgnbdndaaDoorW.PrintLast.i32_w]
                  rfl
                rw [show 52 + 36 * k + 32 = 84 + 36 * k by omega] at hr1
                have HR1 := Aside0.mk hr1
                have HF1 := Aside0.mk hf1
                clear hr1 hf1
                refine seqX_run ?_
                refine do_call rfl rfl (by rfl) rfl Tryd.func50 (by kernel_rfl) rfl #[.pointer (some ⟨g, 0, none⟩)] (by simp only [List.map_toArray, List.map_cons, List.map_nil]; rfl) ?_
                with_reducible refine (rdnum_at g y (84 + 36 * k) x1 HYB.out hl2 HR1.out).mono ?_
                rintro e x2 ⟨rfl, hr2, hf2⟩
                refine ⟨_, ?_, rfl, ?_, fun _ => hf2, ?_⟩
                rotate_left
                · simp only [Act.put, List.setIfInBounds_toArray, List.set_cons_zero, List.set_cons_succ, Go.Proofs.YtdfahblgnbdndaaDoorW.PrintLast.i64_w, Go.Proofs.YtdfahblgnbdndaaDoorW.PrintLast.i32_w]
                  rfl
                rw [show 84 + 36 * k + 4 = 52 + 36 * (k + 1) by omega] at hr2
                have HR2 := Aside0.mk hr2
                have HF2 : Aside0 (Fr wr.drew x2 (fun k => k = g)) := ⟨HF1.out.trans hf2⟩
                have FB2 : Aside0 (Fr ub x2 (fun k => k = g)) := ⟨HF.out.drew.trans HF2.out⟩
                clear hr2 hf2
                rw [HNM.out, HSV.out]
                refine seqX_take (v := _) (a' := ?_) rfl rfl (by rfl) (fun w' hw' => build_run 41 #[(0, .tmp 72), (1, .tmp 74)] rfl (built_it nm sv HNL.out)) ?_ ?_
                rotate_left
                · simp only [Act.put, List.setIfInBounds_toArray, List.set_cons_zero, List.set_cons_succ, Go.Proofs.YtdfahblgnbdndaaDoorW.PrintLast.i64_w, Go.Proofs.YtdfahblgnbdndaaDoorW.PrintLast.i32_w]
                  rfl
                refine seqX_run ?_
                refine do_val (v := _) (a' := ?_) (w1 := _) rfl rfl (by rfl) (row1_exec #[(0, .tmp 75)] rfl Tryd.underlying27 infoI (icells (nm, sv)) (icells_len HNL.out) (by decide) (by decide) rfl) ?_ ?_
                rotate_left
                · simp only [Act.put, List.setIfInBounds_toArray, List.set_cons_zero, List.set_cons_succ, Go.Proofs.YtdfahblgnbdndaaDoorW.PrintLast.i64_w, Go.Proofs.YtdfahblgnbdndaaDoorW.PrintLast.i32_w]
                  rfl
                refine ⟨fun _ => (Fr.later (below_alloc (Below.refl _ _) _)), ?_⟩
                have HO2 : Aside0 (OwI x2 ub.heap.size (.slice VA R.length vc) R) := ⟨kf_move HO.out fun q cells hq hc => HF2.out.block q (blk_lt (show wr.drew.heap[q]? = _ from hc)) (fun e => by have := HUS.out; omega)⟩
                have HGX2 : Aside0 (x2.heap[gx]? = some (.cells (Xc pa pb pc im (.slice VA R.length vc)).toArray 29 (0, 0))) := ⟨(HF2.out.block gx (blk_lt (show wr.drew.heap[gx]? = _ from HG.out)) HGG.out).trans HG.out⟩
                refine seqX_run ?_
                refine do_appR KI (w0 := x2) (W := x2) ub.heap.size rfl rfl (by rfl) (.tmp 70) (.tmp 76) 27 41 zI 40 rfl Tryd.underlying27 infoI zI_size (by decide) (by decide) (.slice VA R.length vc) R (nm, sv) (icells (nm, sv)) rfl rfl ⟨HNL.out, rfl⟩ HO2.out (Below.refl _ _) FB2.out.size (by omega) ?_
                intro v2 w2 hO2 hB2 hG2 hAt2
                refine ⟨fun h => absurd (by simp) h, ?_⟩
                have hgb : w2.heap[gx]? = some (.cells (Xc pa pb pc im (.slice VA R.length vc)).toArray 29 (0, 0)) := (hG2.block gx (blk_lt HGX2.out) (Kd.R_ne HO2.out HGX2.out (by decide))).trans HGX2.out
                obtain ⟨WA, wcc, rfl, -, -⟩ := Kd.R_reads hO2
                have hc35 := x_items hgb HIM.out
                have hf35 : w2.frozen? ⟨gx, 35, none⟩ = false := blk_frozen hgb 35
                have HS2 : Aside0 (SetBlk w2 (w2.setCell ⟨gx, 35, none⟩ (.slice WA (R ++ [(nm, sv)]).length wcc)) gx (.cells (Xc pa pb pc im (.slice WA (R ++ [(nm, sv)]).length wcc)).toArray 29 (0, 0))) := ⟨by have h := setBlk_cell (i := 35) hgb (.slice WA (R ++ [(nm, sv)]).length wcc); rwa [Xc_set _ _ _ _ _ _ HIM.out] at h⟩
                have HRW : Aside0 (RdG w2 g (y.drop (52 + 36 * (k + 1)))) := ⟨(hB2.block g (by have := HUS.out; omega)).trans HR2.out⟩
                have FBW : Aside0 (Fr ub w2 (fun k => k = g)) := ⟨FB2.out.callB hB2 (Nat.le_refl _)⟩
                have HOW := Aside0.mk hO2
                have HGW := Aside0.mk hgb
                rw [show (R ++ [(nm, sv)]).length = R.length + 1 by simp] at HS2 ⊢
                clear hgb hO2 hB2 hG2 hAt2
                refine seqX_take (v := ?_) (a' := ?_) rfl rfl (by rfl) (fun w' hw' => ?_) ?_ ?_
                rotate_left 2
                · go_simp
                  with_reducible rfl
                · simp only [Act.put, List.setIfInBounds_toArray, List.set_cons_zero, List.set_cons_succ, Go.Proofs.YtdfahblgnbdndaaDoorW.PrintLast.i64_w, Go.Proofs.YtdfahblgnbdndaaDoorW.PrintLast.i32_w]
                  rfl
                refine seqX_run ?_
                refine do_store (w1 := ?_) rfl rfl (by rfl) ?_ ?_
                rotate_left
                · go_simp
                  rfl
                refine ⟨fun h => absurd (by simp) h, ?_⟩
                refine seqX_endN ?_
                have HO3 : Aside0 (OwI (w2.setCell ⟨gx, 35, none⟩ (.slice WA (R.length + 1) wcc)) ub.heap.size (.slice WA (R.length + 1) wcc) (pits y (k + 1))) := ⟨by
                  rw [HT.out]
                  have h := HOW.out
                  rw [show (R ++ [(nm, sv)]).length = R.length + 1 by simp] at h
                  refine kf_move h fun q cells hq hc => HS2.out.else_ q (fun e => ?_)
                  subst e
                  rw [HGW.out] at hc
                  injection hc with hc
                  injection hc with _ hc
                  exact absurd hc (by decide)⟩
                have HR3 : Aside0 (RdG (w2.setCell ⟨gx, 35, none⟩ (.slice WA (R.length + 1) wcc)) g (y.drop (52 + 36 * (k + 1)))) := ⟨HS2.out.blk (Ne.symm HGG.out) HRW.out⟩
                have HF3 : Aside0 (Fr ub (w2.setCell ⟨gx, 35, none⟩ (.slice WA (R.length + 1) wcc)) (fun k => k = g)) := ⟨FBW.out.set HS2.out (.inr GE6.out)⟩
                go_wp2
                go_roundw
                case rel => exact ⟨k + 1, _, by omega, by go_num, HR3.out, HS2.out.at_, HO3.out, HF3.out⟩
                case measure => simp [intOf]; omega
              · obtain rfl : k = cn := by omega
                have hltI : ¬ (k : Int) < N := by rw [HCN.out]; omega
                have HQR : Aside0 (wr.heap[w.heap.size]? = some (.cells (Xc 0 0 0 Z32 (.slice none 0 0)).toArray 29 (0, 0))) := ⟨(HF.out.block w.heap.size (by have := HUS.out; have := HWS.out; omega) (by have := HWS.out; omega)).trans (QB.out.at 0 rfl)⟩
                have BW : Aside0 (Below w.heap.size w wr) := ⟨QB.out.below.trans (HF.out.below (fun q hq => by rw [hq]; have := HWS.out; omega) QB.out.below.size)⟩
                have HRI : Aside0 (RdI wr VA (pits y k).length (pits y k)) := ⟨by
                  obtain ⟨_, _, e, _, hr⟩ := Kd.R_reads HO.out
                  injection e with e1 e2 e3
                  rw [e1]; exact hr⟩
                have hpk := pits_len y k
                have HPK := Aside0.mk hpk
                clear hpk
                by_cases hm : mayX pa pb pc (pits y k) = true
                · have HW := Aside0.mk (HXO.out hm)
                  have HM := Aside0.mk hm
                  have H4 : Aside0 ((pits y k).length ≤ 4096) := ⟨(mayX_spec hm).2.1⟩
                  clear hm
                  go_wp2_with (first
                    | ((with_reducible refine at_ld (w := wr) 29 (.tmp 9) ?_); refine load_arm rfl 29 (.tmp 9) rfl rfl (ld_row HG.out 29 _ Tryd.underlying29 rfl (by rw [List.size_toArray]; exact size_X HIM.out)) ?_; simp only [Act.put, List.setIfInBounds_toArray, List.set_cons_zero, List.set_cons_succ])
                    | (go_at_call 19; (with_reducible refine at_cw wr ?_); refine (imay_calls pa pb pc im VA (pits y k).length vc (pits y k) _ wr rfl HIM.out HRI.out (by rw [pits_len]; omega)).mono ?_; rw [HM.out]; rintro e x3 ⟨rfl, hB⟩; have HB3 := Aside0.mk hB; clear hB)
                    | ((with_reducible refine at_ld (w := x3) 29 (.tmp 9) ?_); refine load_arm rfl 29 (.tmp 9) rfl rfl (ld_row (blk_below HB3.out HG.out) 29 _ Tryd.underlying29 rfl (by rw [List.size_toArray]; exact size_X HIM.out)) ?_; simp only [Act.put, List.setIfInBounds_toArray, List.set_cons_zero, List.set_cons_succ])
                    | ((with_reducible refine at_st 29 (.tmp 2) (.tmp 84) ?_); refine store_blk rfl 29 (.tmp 2) (.tmp 84) rfl rfl rfl (blk_below HB3.out HQR.out) (by rw [List.size_toArray, Xc_len Z32_len, Xc_len HIM.out]) (size_X HIM.out) (Xc_one rfl) ?_; rintro w7 HS)
                    | fail)
                  have hbw : Below w.heap.size w w7 := (below_tr BW.out HB3.out BW.out.size).trans (HS.below (Nat.le_refl _))
                  have hrd : RdI w7 VA (pits y k).length (pits y k) := by
                    have h := kf_move (Kd.R_below HO.out HB3.out) (w1 := w7) fun q cells hq hc => HS.else_ q (fun e => by have := HUS.out; have := HWS.out; omega)
                    obtain ⟨_, _, e, _, hr⟩ := Kd.R_reads h
                    injection e with e1 e2 e3
                    rw [e1]; exact hr
                  (try simp only [Exit.inBlock, Exit.then])
                  refine bodyPost_ret (v := .tuple #[.agg _, _]) (results_cell_tmp rfl _ _ w.heap.size _ _ _ _ rfl HS.at_ Tryd.underlying29 rfl ?_) rfl (show IPost xs w _ _ from ⟨pa, pb, pc, im, pits y k, 0, VA, (pits y k).length, vc, HIM.out, H4.out, rfl, ⟨hrd⟩, ⟨HW.out.symm⟩, hbw⟩)
                  rw [size_X HIM.out, List.size_toArray]
                · have HM : Aside0 (mayX pa pb pc (pits y k) = false) := ⟨by simpa using hm⟩
                  have HW := Aside0.mk (HXN.out HM.out)
                  clear hm
                  go_wp2_with (first
                    | ((with_reducible refine at_ld (w := wr) 29 (.tmp 9) ?_); refine load_arm rfl 29 (.tmp 9) rfl rfl (ld_row HG.out 29 _ Tryd.underlying29 rfl (by rw [List.size_toArray]; exact size_X HIM.out)) ?_; simp only [Act.put, List.setIfInBounds_toArray, List.set_cons_zero, List.set_cons_succ])
                    | (go_at_call 19; (with_reducible refine at_cw wr ?_); refine (imay_calls pa pb pc im VA (pits y k).length vc (pits y k) _ wr rfl HIM.out HRI.out (by rw [pits_len]; omega)).mono ?_; rw [HM.out]; rintro e x3 ⟨rfl, hB⟩; have HB3 := Aside0.mk hB; clear hB)
                    | ((with_reducible refine at_bd 29 ?_); refine build_arm rfl 29 _ rfl built_x0 ?_; simp only [Act.put, List.setIfInBounds_toArray, List.set_cons_zero, List.set_cons_succ])
                    | ((with_reducible refine at_st 29 (.tmp 2) (.tmp 83) ?_); refine store_blk rfl 29 (.tmp 2) (.tmp 83) rfl rfl rfl (blk_below HB3.out HQR.out) (by rw [List.size_toArray]) (size_X Z32_len) (Xc_one rfl) ?_; rintro w7 HS)
                    | fail)
                  have hbw : Below w.heap.size w w7 := (below_tr BW.out HB3.out BW.out.size).trans (HS.below (Nat.le_refl _))
                  (try simp only [Exit.inBlock, Exit.then])
                  refine bodyPost_ret (v := .tuple #[.agg _, _]) (results_cell_tmp rfl _ _ w.heap.size _ _ _ _ rfl HS.at_ Tryd.underlying29 rfl ?_) rfl (show IPost xs w _ _ from ⟨0, 0, 0, Z32, [], 2, none, 0, 0, Z32_len, by omega, rfl, ⟨Kd.C_nil _ _⟩, ⟨HW.out.symm⟩, hbw⟩)
                  rw [size_X Z32_len, List.size_toArray]
          · have HW : Aside0 (XR xs = XZ 2) := ⟨XR_no HT.out (fun hh => hNM (by have h1 := hh.2.2.1; have h2 := HC.out; rw [HNN.out] at h1; omega))⟩
            have hne : (N * 36 != (M : Int)) = true := by rw [bne_iff_ne]; exact hNM
            go_enter Tryd.func31, Tryd.ntmps31
            go_wp2_with (first
              | (go_at_call 48; refine (take_calls A xs.length c xs _ (Kd.C_below HX.out (Q0.out _).below) hc HXB.out hn).mono ?_; rw [HT.out]; rintro e w1 ⟨v1, rfl, hO, hB1⟩; have Q1 := (Q0.out _).call hB1; obtain ⟨B1, d1, hv1, hd1, hr1⟩ := OwB.reads hO; have HR1 := Aside0.mk hr1; clear hd1 hr1 hO hB1; subst hv1)
              | ((with_reducible refine at_cv 33 9 ?_); refine conv_arm rfl 33 9 _ rfl rfl (conv_str HR1.out d1) ?_; simp only [Act.put, List.setIfInBounds_toArray, List.set_cons_zero, List.set_cons_succ])
              | (go_at_call 49; refine (cutp_ok w1 HYB.out HP.out).mono ?_; rw [HRS.out]; rintro e u1 ⟨rfl, rfl⟩; have R0 : Aside0 (RdG (u1.alloc (.cells #[.string (strOfNums rs)] 87)) u1.heap.size (y.drop 4)) := ⟨by rw [HRS.out]; exact blk_new u1 _⟩)
              | (go_at_call 50; (with_reducible refine at_cw (u1.alloc (.cells #[.string (strOfNums rs)] 87)) ?_); refine (rdnum_at u1.heap.size y 4 (u1.alloc (.cells #[.string (strOfNums rs)] 87)) HYB.out (by have := HL.out.2; omega) R0.out).mono ?_; rintro e u2 ⟨rfl, hr, hf⟩; have Ru2 := Aside0.mk hr; have Fu2 : Aside0 (Fr (u1.alloc (.cells #[.string (strOfNums rs)] 87)) u2 (fun k => k = u1.heap.size)) := ⟨hf⟩; clear hr hf)
              | (go_at_call 50; (with_reducible refine at_cw u2 ?_); refine (rdnum_at u1.heap.size y 8 u2 HYB.out (by have := HL.out.2; omega) Ru2.out).mono ?_; rintro e u3 ⟨rfl, hr, hf⟩; have Ru3 := Aside0.mk hr; have Fu3 : Aside0 (Fr (u1.alloc (.cells #[.string (strOfNums rs)] 87)) u3 (fun k => k = u1.heap.size)) := ⟨Fu2.out.trans hf⟩; clear hr hf)
              | (go_at_call 50; (with_reducible refine at_cw u3 ?_); refine (rdnum_at u1.heap.size y 12 u3 HYB.out (by have := HL.out.2; omega) Ru3.out).mono ?_; rintro e u4 ⟨rfl, hr, hf⟩; have Ru4 := Aside0.mk hr; have Fu4 : Aside0 (Fr (u1.alloc (.cells #[.string (strOfNums rs)] 87)) u4 (fun k => k = u1.heap.size)) := ⟨Fu3.out.trans hf⟩; clear hr hf)
              | ((with_reducible refine at_bd 24 ?_); refine build_arm rfl 24 _ rfl (built_p _ _ _) ?_; simp only [Act.put, List.setIfInBounds_toArray, List.set_cons_zero, List.set_cons_succ])
              | (go_at_call 51; (with_reducible refine at_cw u4 ?_); refine (rddig_at u1.heap.size y 16 u4 HYB.out (by have := HL.out.2; omega) Ru4.out).mono ?_; rw [HIMD.out]; rintro e u5 ⟨rfl, hr, hf⟩; have Ru5 := Aside0.mk hr; have Fu5 : Aside0 (Fr (u1.alloc (.cells #[.string (strOfNums rs)] 87)) u5 (fun k => k = u1.heap.size)) := ⟨Fu4.out.trans hf⟩; clear hr hf)
              | ((with_reducible refine at_bd 29 ?_); refine build_arm rfl 29 _ rfl (built_x2 _ _ _ im HIM.out) ?_; simp only [Act.put, List.setIfInBounds_toArray, List.set_cons_zero, List.set_cons_succ])
              | ((with_reducible refine at_al 29 ?_); refine new_x rfl rfl rfl rfl (.tmp 54) rfl (of_decide_eq_true rfl) rfl HIM.out rfl ?_; rintro u6 gx N6; have Fu6 : Aside0 (Fr (u1.alloc (.cells #[.string (strOfNums rs)] 87)) u6 (fun k => k = u1.heap.size)) := ⟨Fu5.out.call N6.below⟩; have Ru6 : Aside0 (RdG u6 u1.heap.size (y.drop 48)) := ⟨N6.blk Ru5.out⟩; have GX6 := Aside0.mk N6.at_; have GE6 : Aside0 ((u1.alloc (.cells #[.string (strOfNums rs)] 87)).heap.size ≤ gx) := ⟨Nat.le_trans Fu5.out.size N6.ge⟩; clear N6)
              | (go_at_call 50; (with_reducible refine at_cw u6 ?_); refine (rdnum_at u1.heap.size y 48 u6 HYB.out (by have := HL.out.2; omega) Ru6.out).mono ?_; rw [HNN.out]; rintro e u7 ⟨rfl, hr, hf⟩; have Ru7 := Aside0.mk hr; have hc7 := hr.cell; have GX7 : Aside0 (u7.heap[gx]? = some (.cells (Xc (num y 4) (num y 8) (num y 12) im (.slice none 0 0)).toArray 29 (0, 0))) := ⟨(hf.block gx (blk_lt GX6.out) (by have h1 := GE6.out; have h2 : u1.heap.size < (u1.alloc (.cells #[.string (strOfNums rs)] 87)).heap.size := (by simp); omega)).trans GX6.out⟩; have Fu7 : Aside0 (Fr (u1.alloc (.cells #[.string (strOfNums rs)] 87)) u7 (fun k => k = u1.heap.size)) := ⟨Fu6.out.trans hf⟩; clear hr hf)
              | ((with_reducible refine at_bd 29 ?_); refine build_arm rfl 29 _ rfl built_x0 ?_; simp only [Act.put, List.setIfInBounds_toArray, List.set_cons_zero, List.set_cons_succ])
              | ((with_reducible refine at_st 29 (.tmp 2) (.tmp 65) ?_); refine store_blk rfl 29 (.tmp 2) (.tmp 65) rfl rfl rfl ((Fu7.out.block w.heap.size (by have h1 := Q1.below.size; have h2 := blk_lt (Q1.at 0 rfl); simp; omega) (by have h2 := blk_lt (Q1.at 0 rfl); omega)).trans ((Q1.box _ _).at 0 rfl)) (by rw [Xc_len Z32_len]; rfl) (size_X Z32_len) (Xc_one rfl) ?_; rintro w7 HS)
              | fail)
            have hbw : Below w.heap.size w w7 := ((Q1.box _ _).below.trans (Fu7.out.below (fun k hk => by rw [hk]; exact Q1.below.size) (by have := Q1.below.size; simp; omega))).trans (HS.below (Nat.le_refl _))
            (try simp only [Exit.inBlock, Exit.then])
            refine bodyPost_ret (v := .tuple #[.agg _, _]) (results_cell_tmp rfl _ _ w.heap.size _ _ _ _ rfl HS.at_ Tryd.underlying29 rfl ?_) rfl (show IPost xs w _ _ from ⟨0, 0, 0, Z32, [], 2, none, 0, 0, Z32_len, by omega, rfl, ⟨Kd.C_nil _ _⟩, ⟨HW.out.symm⟩, hbw⟩)
            rw [size_X Z32_len, List.size_toArray]
        · have HW : Aside0 (XR xs = XZ 2) := ⟨XR_no HT.out (fun hh => hm0 (hmn.out.1 hh.1))⟩
          have hm1 : ((md : Int) != 0) = true := by rw [bne_iff_ne]; omega
          go_enter Tryd.func31, Tryd.ntmps31
          go_wp2_with (first
            | (go_at_call 50; exfalso; have h9 : (48 : Int) ≤ (L : Int) ∧ ((md : Int) != 0) = false := (by assumption); exact absurd h9.2 (by rw [hm1]; decide))
            | (go_at_call 48; refine (take_calls A xs.length c xs _ (Kd.C_below HX.out (Q0.out _).below) hc HXB.out hn).mono ?_; rw [HT.out]; rintro e w1 ⟨v1, rfl, hO, hB1⟩; have Q1 := (Q0.out _).call hB1; obtain ⟨B1, d1, hv1, hd1, hr1⟩ := OwB.reads hO; have HR1 := Aside0.mk hr1; clear hd1 hr1 hO hB1; subst hv1)
            | ((with_reducible refine at_cv 33 9 ?_); refine conv_arm rfl 33 9 _ rfl rfl (conv_str HR1.out d1) ?_; simp only [Act.put, List.setIfInBounds_toArray, List.set_cons_zero, List.set_cons_succ])
            | (go_at_call 49; refine (cutp_ok w1 HYB.out HP.out).mono ?_; rw [HRS.out]; rintro e u1 ⟨rfl, rfl⟩)
            | ((with_reducible refine at_bd 29 ?_); refine build_arm rfl 29 _ rfl built_x0 ?_; simp only [Act.put, List.setIfInBounds_toArray, List.set_cons_zero, List.set_cons_succ])
            | ((with_reducible refine at_st 29 (.tmp 2) (.tmp 41) ?_); have hq := Q1.at 0 rfl; refine store_blk rfl 29 (.tmp 2) (.tmp 41) rfl rfl rfl hq (by rw [Xc_len Z32_len]; rfl) (size_X Z32_len) (Xc_one rfl) ?_; clear hq; rintro w7 HS)
            | fail)
          have Q7 := Q1.set 0 rfl HS
          (try simp only [Exit.inBlock, Exit.then])
          refine bodyPost_ret (v := .tuple #[.agg _, _]) (results_cell_tmp rfl _ _ w.heap.size _ _ _ _ rfl HS.at_ Tryd.underlying29 rfl ?_) rfl (show IPost xs w _ _ from ⟨0, 0, 0, Z32, [], 2, none, 0, 0, Z32_len, by omega, rfl, ⟨Kd.C_nil _ _⟩, ⟨HW.out.symm⟩, Q7.below⟩)
          rw [size_X Z32_len, List.size_toArray]
    · have HP := Aside0.mk hp
      have HW : Aside0 (XR xs = XZ 2) := ⟨XR_no HT.out (fun hh => hp hh.2.1)⟩
      clear hp
      go_enter Tryd.func31, Tryd.ntmps31
      go_wp2_with (first
        | (go_at_call 48; refine (take_calls A xs.length c xs _ (Kd.C_below HX.out (Q0.out _).below) hc HXB.out hn).mono ?_; rw [HT.out]; rintro e w1 ⟨v1, rfl, hO, hB1⟩; have Q1 := (Q0.out _).call hB1; obtain ⟨B1, d1, hv1, hd1, hr1⟩ := OwB.reads hO; have HR1 := Aside0.mk hr1; clear hd1 hr1 hO hB1; subst hv1)
        | ((with_reducible refine at_cv 33 9 ?_); refine conv_arm rfl 33 9 _ rfl rfl (conv_str HR1.out d1) ?_; simp only [Act.put, List.setIfInBounds_toArray, List.set_cons_zero, List.set_cons_succ])
        | (go_at_call 49; refine (cutp_no w1 HYB.out HP.out).mono ?_; rintro e u1 ⟨⟨s0, rfl⟩, rfl⟩)
        | ((with_reducible refine at_bd 29 ?_); refine build_arm rfl 29 _ rfl built_x0 ?_; simp only [Act.put, List.setIfInBounds_toArray, List.set_cons_zero, List.set_cons_succ])
        | ((with_reducible refine at_st 29 (.tmp 2) (.tmp 41) ?_); have hq := Q1.at 0 rfl; refine store_blk rfl 29 (.tmp 2) (.tmp 41) rfl rfl rfl hq (by rw [Xc_len Z32_len]; rfl) (size_X Z32_len) (Xc_one rfl) ?_; clear hq; rintro w7 HS)
        | fail)
      have Q7 := Q1.set 0 rfl HS
      (try simp only [Exit.inBlock, Exit.then])
      refine bodyPost_ret (v := .tuple #[.agg _, _]) (results_cell_tmp rfl _ _ w.heap.size _ _ _ _ rfl HS.at_ Tryd.underlying29 rfl ?_) rfl (show IPost xs w _ _ from ⟨0, 0, 0, Z32, [], 2, none, 0, 0, Z32_len, by omega, rfl, ⟨Kd.C_nil _ _⟩, ⟨HW.out.symm⟩, Q7.below⟩)
      rw [size_X Z32_len, List.size_toArray]
  · have HW := Aside0.mk (XR_err HT.out her)
    have her' : (er != 0) = true := by simpa using her
    go_enter Tryd.func31, Tryd.ntmps31
    go_wp2_with (first
      | (go_at_call 48; refine (take_calls A xs.length c xs _ (Kd.C_below HX.out (Q0.out _).below) hc HXB.out hn).mono ?_; rw [HT.out]; rintro e w1 ⟨v1, rfl, hO, hB1⟩; have Q1 := (Q0.out _).call hB1; obtain ⟨B1, d1, hv1, hd1, hr1⟩ := OwB.reads hO; have HR1 := Aside0.mk hr1; clear hd1 hr1 hO hB1; subst hv1)
      | ((with_reducible refine at_bd 29 ?_); refine build_arm rfl 29 _ rfl built_x0 ?_; simp only [Act.put, List.setIfInBounds_toArray, List.set_cons_zero, List.set_cons_succ])
      | ((with_reducible refine at_st 29 (.tmp 2) (.tmp 18) ?_); have hq := Q1.at 0 rfl; refine store_blk rfl 29 (.tmp 2) (.tmp 18) rfl rfl rfl hq (by rw [Xc_len Z32_len]; rfl) (size_X Z32_len) (Xc_one rfl) ?_; clear hq; rintro w7 HS)
      | fail)
    have Q7 := Q1.set 0 rfl HS
    (try simp only [Exit.inBlock, Exit.then])
    refine bodyPost_ret (v := .tuple #[.agg _, _]) (results_cell_tmp rfl _ _ w.heap.size _ _ _ _ rfl HS.at_ Tryd.underlying29 rfl ?_) rfl (show IPost xs w _ _ from ⟨0, 0, 0, Z32, [], er, none, 0, 0, Z32_len, by omega, rfl, ⟨Kd.C_nil _ _⟩, ⟨HW.out.symm⟩, Q7.below⟩)
    rw [size_X Z32_len, List.size_toArray]
end Go.Proofs.YtdfahblgnbdndaaDoor
