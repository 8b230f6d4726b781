/- The laws of layer 5: their example; LzMatches. Conditions: what each argument reads. -/
import Derived.Test.YtnohkhaagkkhjaaLz9
import Derived.Test.YtnohkhaagkkhjaaLzMade
import Derived.Test.YtnohkhaagkkhjaaStr
import Derived.Lib.SlBytesConst
namespace Go.Proofs.Ytnohkhaagkkhjaa
open Go.RowKit Go.Shelf Go.Proofs.YtnohkhaagkkhjaaW.PrintWords Go.Proofs.YtnohkhaagkkhjaaW.PrintMore
set_option linter.unusedVariables false
set_option linter.unusedSimpArgs false
theorem lives_val : packL [97, 97, 97, 97, 97, 97, 97, 97] = [0, 97, 131, 0, 0] := by decide +kernel
theorem lives_calls (w : World) : Calls Try.prog 13 #[] w fun e w' => e = .returned (.bool true) ∧ Below w.heap.size w w' := by
  have hbe : ((strOfNums [0, 97, 131, 0, 0]).toList == ([0, 97, 131, 0, 0] : List UInt8)) = true := by decide +kernel
  have kc := fun (w : World) (C : Array Value) (n c : Nat) => Lib.run_convert_bytes_const (P := Try.prog) w 22 5 C n c Try.underlying22 Try.underlying5
  go_enter Try.func13, Try.ntmps13
  go_wp2_with (first
    | (go_at_call 14; refine (pack_calls (some ⟨w.heap.size, 0, none⟩) 8 8 [97, 97, 97, 97, 97, 97, 97, 97] _ (rd_lit w _ _ _ _ rfl rfl (by simp)) (fun _ => ⟨_, _, rfl⟩) (by intro x hx; simp at hx; omega) (by omega) (by omega)).mono ?_; rintro e w2 ⟨v, rfl, hQ, hB⟩; rw [lives_val] at hQ; obtain ⟨A, c, rfl, hc, hr⟩ := hQ.reads; have hcs : (convert 22 9 (.slice A 5 c)).run Try.prog w2 = .ok (.string (strOfNums [0, 97, 131, 0, 0])) w2 := conv_str hr c; have HB := Aside0.mk hB; clear hQ hB hr))

  go_ret
  exact ⟨rfl, (below_alloc (Below.refl _ w) _).trans (HB.out.mono (by simp))⟩
theorem isRowN_read {w : World} {a : Option Addr} {len cap : Nat} {zs : List Int}
    (h : (a = none ∧ len = 0 ∧ cap = 0 ∧ zs = []) ∨ ∃ x, a = some x ∧ len ≤ cap ∧ cap ≤ maxLen ∧ zs.length = cap ∧ (∀ i, i < zs.length → w.cell? (x.add i) = some (.int .i64 (zs.getD i 0))) ∧ ∀ n ∈ zs, (Lit.int .i64 n).wf = true) :
    RdN w a len (zs.take len) ∧ len ≤ cap ∧ (∀ x ∈ zs.take len, -9223372036854775808 ≤ x ∧ x ≤ 9223372036854775807) := by
  rcases h with ⟨rfl, rfl, rfl, rfl⟩ | ⟨x, rfl, hl, hm, hz, hc, hw⟩
  · exact ⟨Kd.C_nil _ _, Nat.le_refl _, by simp⟩
  · refine ⟨Kd.C_of_reads (d := (0 : Int)) ⟨by rw [List.length_take]; omega, by simp only [maxLen] at hm; omega, fun _ => ⟨_, rfl, fun j hj => ?_⟩⟩, hl, ?_⟩
    · rw [hc j (by omega)]
      simp [List.getD_eq_getElem?_getD, List.getElem?_take, hj]
    · intro n hn
      exact wf_i64 (hw n (List.mem_of_mem_take hn))
/-- Bytes that are given. -/
structure Gv (w : World) (B : Option Addr) (d : Nat) (X : List Int) (m : Nat) : Prop where
  rd : RdB w B X.length X
  le : X.length ≤ d
  by_ : Bytes X
  len : X.length ≤ m
  at_ : 0 < X.length → ∃ g o, B = some ⟨g, o, none⟩
theorem Gv.later {w w1 : World} {B : Option Addr} {d : Nat} {X : List Int} {m : Nat} (h : Gv w B d X m) (k : Later w w1) : Gv w1 B d X m := ⟨Kd.C_below h.rd k, h.le, h.by_, h.len, h.at_⟩
theorem OwB.gv {w : World} {base d m : Nat} {B : Option Addr} {X : List Int} (h : OwB w base (.slice B X.length d) X) (hb : Bytes X) (hm : X.length ≤ m) : Gv w B d X m := by
  obtain ⟨A', d', he, hd, hr⟩ := OwB.reads h
  injection he with e1 e2 e3
  subst e1; subst e3
  refine ⟨hr, hd, hb, hm, fun hp => ?_⟩
  obtain ⟨g, c, e, _, _⟩ := OwB.place h hp
  injection e with e
  exact ⟨g, 0, e⟩
set_option maxRecDepth 20000 in
set_option maxHeartbeats 1600000 in
theorem lzMatches_walk (A1 A2 : Option Addr) (n1 c1 n2 c2 : Nat) (xb xl : List Int) (i : Int) (w : World) (h1 : RdB w A1 n1 xb) (hc1 : n1 ≤ c1) (hb1 : Bytes xb) (h2 : RdN w A2 n2 xl) :
    Calls Try.prog 3 #[.slice A1 n1 c1, .slice A2 n2 c2, .int .i64 i] w fun e w' => e = .returned (.bool true) ∧ Below w.heap.size w w' := by
  have H1 := Aside0.mk h1
  have H2 := Aside0.mk h2
  clear h1 h2
  go_enter Try.func3, Try.ntmps3
  go_wp2_with (first
    | (go_at_call 9; (with_reducible refine at_cw w ?_); refine (few_new A1 n1 c1 xb 40 w H1.out hc1 hb1 (by omega) (by omega)).mono ?_; rintro e w1 ⟨BX, dX, X, rfl, E_X, hby, O_X, hd_X, hyl, R_X, hB⟩; have L1 : Aside0 (Later w w1) := ⟨hB⟩; have Y_X : Aside0 (Bytes X ∧ X.length ≤ 40) := ⟨hby, hyl⟩; have D_X := Aside0.mk hd_X; clear hB hby hyl hd_X)
    | (go_at_call 10; (with_reducible refine at_cw w1 ?_); refine (made_calls A2 n2 c2 xl w1 (Kd.C_below H2.out L1.out)).mono ?_; rintro e w2 ⟨BM, dM, M, rfl, hby, O_M, hdM, hlM, R_M, hB⟩; have L2 : Aside0 (Later w1 w2) := ⟨hB⟩; have Y_M := Aside0.mk hby; clear hB hby)
    | (go_at_call 9; (with_reducible refine at_cw w2 ?_); refine (few_new BM M.length dM M 120 w2 R_M.out hdM Y_M.out (by omega) (by omega)).mono ?_; rintro e w3 ⟨BZ, dZ, Z, rfl, E_Z, hby, O_Z, hd_Z, hyl, R_Z, hB⟩; have L3 : Aside0 (Later w2 w3) := ⟨hB⟩; have Y_Z : Aside0 (Bytes Z ∧ Z.length ≤ 120) := ⟨hby, hyl⟩; have D_Z := Aside0.mk hd_Z; clear hB hby hyl hd_Z))
  obtain ⟨w4, hw4, L4, HC4⟩ : ∃ w4, w4 = w3.alloc (.cells #[.slice BX X.length dX, .slice BZ Z.length dZ] 22) ∧ Aside0 (Later w3 w4) ∧ Aside0 (w4.heap[w3.heap.size]? = some (.cells #[.slice BX X.length dX, .slice BZ Z.length dZ] 22 (0, 0))) := ⟨_, rfl, ⟨below_alloc (Below.refl _ _) _⟩, ⟨blk_new w3 _⟩⟩
  rw [← hw4]
  have GX := Aside0.mk ((OwB.gv O_X.out Y_X.out.1 (Nat.le_trans Y_X.out.2 (by omega) : X.length ≤ 120)).later (Later.trans (Later.trans L2.out L3.out) L4.out))
  have GZ := Aside0.mk ((OwB.gv O_Z.out Y_Z.out.1 Y_Z.out.2).later L4.out)
  have GK : Aside0 (∀ k, k < 2 → ∃ B d X, w4.cell? ⟨w3.heap.size, k, none⟩ = some (.slice B X.length d) ∧ Gv w4 B d X 120) := ⟨fun k hk => by
    rcases k with _ | k
    · exact ⟨BX, dX, X, by rw [blk_cell HC4.out]; rfl, GX.out⟩
    · obtain rfl : k = 0 := by omega
      exact ⟨BZ, dZ, Z, by rw [blk_cell HC4.out]; rfl, GZ.out⟩⟩
  have LW : Aside0 (Later w w4) := ⟨(Later.trans (Later.trans (Later.trans L1.out L2.out) L3.out) L4.out)⟩
  clear hw4 GX GZ HC4 O_X O_Z O_M R_X R_Z R_M E_X E_Z L1 L2 L3 L4 Y_X Y_Z Y_M D_X D_Z hdM hlM
  obtain ⟨C, hC, hz⟩ : ∃ C, Aside0 (C = (mcs (0, 0)).toArray) ∧ (Try.prog.info? 30).bind (fun i => i.zero.map (·.cells)) = some C := ⟨_, ⟨rfl⟩, zeroM⟩
  have HZ := Aside0.mk hz
  clear hz
  go_loopw [8, 9, 10, 11, 12, 13] (fun k _ _ _ _ _ wr => ∃ j : Nat, j ≤ 2 ∧ k = .int .i64 j ∧ Below w4.heap.size w4 wr) (fun k _ _ _ _ _ _ => 2 - (intOf k).toNat)
  case atStart => exact ⟨0, by omega, rfl, Below.refl _ _⟩
  case round =>
    obtain ⟨k, hk, rfl, hB⟩ := hrel
    have HB := Aside0.mk hB
    clear hB
    by_cases hk2 : k < 2
    · have hk2I : (k : Int) < 2 := by omega
      obtain ⟨B, d, Y, hcell, hg⟩ := GK.out k hk2
      have HCELL := Aside0.mk hcell
      have HG := Aside0.mk hg
      have hYl := hg.len
      clear hcell hg
      go_wp2
      obtain ⟨wa, rfl⟩ : ∃ wa, wa = wr := ⟨_, rfl⟩
      go_loopw [9, 10, 11, 12, 13] (fun at_ _ _ _ _ wq => ∃ j : Nat, j ≤ Y.length + 3 ∧ at_ = .int .i64 ((j : Int) - 1) ∧ Below w4.heap.size w4 wq) (fun at_ _ _ _ _ _ => Y.length + 4 - (intOf at_ + 1).toNat)
      case atStart => exact ⟨0, by omega, rfl, HB.out⟩
      case round =>
        obtain ⟨j, hj, rfl, hB⟩ := hrel
        have HQ := Aside0.mk hB
        clear hB
        have hcell := pw_cell_below HQ.out HCELL.out
        have HGR := Aside0.mk (HG.out.later HQ.out)
        by_cases hj2 : j < Y.length + 3
        · have hjI : (j : Int) - 1 ≤ (Y.length : Int) + 1 := by omega
          by_cases hj3 : j ≤ Y.length + 1
          · have hj3I : ¬ (Y.length : Int) < (j : Int) - 1 := by omega
            go_wp2_with (first
              | (go_at_call 11; (with_reducible refine at_cw wr ?_); refine (pmatch_calls B Y.length d Y ((j : Int) - 1) wr HGR.out.rd HGR.out.at_ HGR.out.by_ HGR.out.le (by omega)).mono ?_; rintro e w5 ⟨rfl, hB⟩; have L5 : Aside0 (Later wr w5) := ⟨hB⟩; have hcell5 := pw_cell_below hB hcell; clear hB)
              | (go_at_call 12; (with_reducible refine at_cw w5 ?_); refine (rmatch_calls B Y.length d Y ((j : Int) - 1) w5 (Kd.C_below HGR.out.rd L5.out) (by omega)).mono ?_; rintro e w6 ⟨rfl, hB⟩; have L6 : Aside0 (Later w5 w6) := ⟨hB⟩; clear hB; generalize lzMI Y ((j : Int) - 1) = r at *)
              | ((with_reducible refine at_alr 30 ?_); refine alloc_arm rfl rfl 30 rfl HZ.out ?_)
              | ((with_reducible refine at_st 30 (.tmp 13) (.tmp 57) ?_); refine store_blk rfl 30 (.tmp 13) (.tmp 57) rfl rfl rfl (blk_new w6 _) (by rw [hC.out]; rfl) (sizeMcs r) (mcs_one r) ?_; rintro w7 HS7; have hc0 : w7.cell? ⟨w6.heap.size, 0, none⟩ = some (.int .i64 r.1) := (by rw [blk_cell HS7.at_]; rfl) ; have hc1 : w7.cell? ⟨w6.heap.size, 1, none⟩ = some (.int .i64 r.2) := (by rw [blk_cell HS7.at_]; rfl) ; have L7 : Aside0 (Later w6 w7) := ⟨(below_alloc (Below.refl _ w6) _).trans (HS7.below (Nat.le_refl _))⟩))
            go_roundw
            case rel => exact ⟨j + 1, by omega, by go_num, HQ.out.trans (Below.mono (Later.trans L5.out (Later.trans L6.out L7.out)) HQ.out.size)⟩
            case measure => simp [intOf]; omega
          · have hj3I : (Y.length : Int) < (j : Int) - 1 := by omega
            go_wp2_with (first
              | (go_at_call 11; (with_reducible refine at_cw wr ?_); refine (pmatch_calls B Y.length d Y i wr HGR.out.rd HGR.out.at_ HGR.out.by_ HGR.out.le (by omega)).mono ?_; rintro e w5 ⟨rfl, hB⟩; have L5 : Aside0 (Later wr w5) := ⟨hB⟩; have hcell5 := pw_cell_below hB hcell; clear hB)
              | (go_at_call 12; (with_reducible refine at_cw w5 ?_); refine (rmatch_calls B Y.length d Y i w5 (Kd.C_below HGR.out.rd L5.out) (by omega)).mono ?_; rintro e w6 ⟨rfl, hB⟩; have L6 : Aside0 (Later w5 w6) := ⟨hB⟩; clear hB; generalize lzMI Y i = r at *)
              | ((with_reducible refine at_alr 30 ?_); refine alloc_arm rfl rfl 30 rfl HZ.out ?_)
              | ((with_reducible refine at_st 30 (.tmp 13) (.tmp 57) ?_); refine store_blk rfl 30 (.tmp 13) (.tmp 57) rfl rfl rfl (blk_new w6 _) (by rw [hC.out]; rfl) (sizeMcs r) (mcs_one r) ?_; rintro w7 HS7; have hc0 : w7.cell? ⟨w6.heap.size, 0, none⟩ = some (.int .i64 r.1) := (by rw [blk_cell HS7.at_]; rfl) ; have hc1 : w7.cell? ⟨w6.heap.size, 1, none⟩ = some (.int .i64 r.2) := (by rw [blk_cell HS7.at_]; rfl) ; have L7 : Aside0 (Later w6 w7) := ⟨(below_alloc (Below.refl _ w6) _).trans (HS7.below (Nat.le_refl _))⟩))
            go_roundw
            case rel => exact ⟨j + 1, by omega, by go_num, HQ.out.trans (Below.mono (Later.trans L5.out (Later.trans L6.out L7.out)) HQ.out.size)⟩
            case measure => simp [intOf]; omega
        · have hjI : ¬ (j : Int) - 1 ≤ (Y.length : Int) + 1 := by omega
          go_wp2
          go_roundw
          case rel => exact ⟨k + 1, by omega, by go_num, HQ.out⟩
          case measure => simp [intOf]; omega
    · have hk2I : ¬ (k : Int) < 2 := by omega
      go_wp2_with (go_at_call 13; (with_reducible refine at_cw wr ?_); refine (lives_calls wr).mono ?_; rintro e w5 ⟨rfl, hB⟩; have L5 : Aside0 (Later wr w5) := ⟨hB⟩; clear hB)
      (try simp only [Exit.inBlock, Exit.then])
      refine bodyPost_ret (results_tmp rfl _ _ _) rfl ⟨rfl, ?_⟩
      exact Later.trans LW.out (Later.trans HB.out L5.out)
end Go.Proofs.Ytnohkhaagkkhjaa
