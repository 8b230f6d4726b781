/- Contract: lz.Count; the law LzRuns: its walk. Conditions: its own. -/
import Derived.Test.YtnohkhaagkkhjaaLz11
import Derived.Test.YtnohkhaagkkhjaaLzCnt
import Derived.Test.YtnohkhaagkkhjaaFill
namespace Go.Proofs.Ytnohkhaagkkhjaa
open Go.RowKit Go.Shelf Go.Proofs.YtnohkhaagkkhjaaW.PrintWords Go.Proofs.YtnohkhaagkkhjaaW.PrintMore
attribute [local go_sem] max2_int min2_int max_two min_two
set_option linter.unusedVariables false
set_option linter.unusedSimpArgs false
structure CnI (w : World) (N : Nat) (p q : List Int) (A : Option Addr) (c n : Nat) (wr : World) : Prop where
  rd : RdB w A q.length q
  qb : Bytes q
  le : q.length ≤ c
  ln : n + q.length ≤ N
  eq : (cnt q).map (· + n) = cnt p
  below : Below w.heap.size w wr
def CntPost (p : List Int) (e : Ending) : Prop := (∃ k : Nat, cnt p = some k ∧ e = .returned (.tuple #[.int .i64 k, .int .i64 0])) ∨ (cnt p = none ∧ e = .returned (.tuple #[.int .i64 0, .int .i64 2]))
set_option maxRecDepth 20000 in
set_option maxHeartbeats 1600000 in
theorem count_calls (A : Option Addr) (N c : Nat) (p : List Int) (w : World) (h : RdB w A N p) (hb : Bytes p) (hc : N ≤ c) (hN : N ≤ 549755813888) :
    Calls Try.prog 19 #[.slice A N c] w fun e w' => CntPost p e ∧ Below w.heap.size w w' := by
  obtain rfl : p.length = N := h.1
  have HX := Aside0.mk h
  clear h
  go_enter Try.func19, Try.ntmps19
  go_wp2
  go_loopw [0, 4, 5, 6, 7, 8] (fun x m _ _ _ _ wr => ∃ (q : List Int) (A' : Option Addr) (c' n : Nat), x = .slice A' q.length c' ∧ m = .int .i64 n ∧ CnI w p.length p q A' c' n wr) (fun x _ _ _ _ _ _ => slN x)
  case atStart => exact ⟨p, A, c, 0, rfl, rfl, HX.out, hb, hc, by omega, by simp, Below.refl _ _⟩
  case round =>
    obtain ⟨q, A', c', n, rfl, rfl, hI⟩ := hrel
    have HI := Aside0.mk hI
    have hln := hI.ln
    clear hI
    by_cases hq : 0 < q.length
    · have hqI : (0 : Int) < (q.length : Int) := by omega
      have hqn : q ≠ [] := List.length_pos_iff.1 hq
      rcases ht : tk q with _ | ⟨s, m, d⟩
      · have HT := Aside0.mk ht
        clear ht
        go_wp2_with (first
          | (go_at_call 25; (with_reducible refine at_cw wr ?_); refine (token_calls A' q.length c' q wr (Kd.C_below HI.out.rd HI.out.below) HI.out.qb hq (by omega)).mono ?_; rintro e w5 ⟨htk, hB⟩; obtain ⟨s, m, d, rfl⟩ := htk.none_ HT.out; have L5 : Aside0 (Later wr w5) := ⟨hB⟩; clear hB htk))
        (try simp only [Exit.inBlock, Exit.then])
        refine bodyPost_ret (results_tmp2 rfl _ _ _) rfl ?_
        have he := HI.out.eq
        rw [cnt_none hqn HT.out] at he
        exact ⟨.inr ⟨he.symm, rfl⟩, Later.trans HI.out.below L5.out |> fun (h : Later w w5) => h⟩
      · obtain ⟨hs2, hsq⟩ := tk_size ht
        have HE : Aside0 ((cnt (q.drop s)).map (· + (n + 1)) = cnt p) := ⟨by
          rw [← HI.out.eq, cnt_step hqn ht]
          rcases cnt (q.drop s) with _ | x
          · rfl
          · show some _ = some _
            congr 1
            show x + (n + 1) = x + 1 + n
            omega⟩
        have HT := Aside0.mk ht
        clear ht
        obtain ⟨B2, hcut, hr2⟩ : ∃ B2, (∀ W : World, (Instr.slice 22 (.slice A' q.length c') (some (.int .i64 (s : Int))) none none).run Try.prog W = .ok (.slice B2 (q.length - s) (c' - s)) W) ∧ RdB w B2 (q.length - s) (q.drop s) := by
          have := cutFrom HI.out.rd HI.out.le (s : Int) (by omega) (by omega)
          rw [Int.toNat_natCast] at this
          exact ⟨_, this⟩
        have HR2 := Aside0.mk hr2
        have hdl : (q.drop s).length = q.length - s := List.length_drop
        clear hr2
        go_wp2_with (first
          | (go_at_call 25; (with_reducible refine at_cw wr ?_); refine (token_calls A' q.length c' q wr (Kd.C_below HI.out.rd HI.out.below) HI.out.qb hq (by omega)).mono ?_; rintro e w5 ⟨htk, hB⟩; obtain rfl := htk.some_ HT.out; have L5 : Aside0 (Later wr w5) := ⟨hB⟩; clear hB htk))
        go_roundw
        case rel => exact ⟨_, _, _, n + 1, by rw [hdl], by go_num, by rw [hdl]; exact HR2.out, HI.out.qb.drop s, by have := HI.out.le; omega, by omega, HE.out, Later.trans HI.out.below L5.out |> fun (h : Later w w5) => h⟩
        case measure => simp only [slN]; omega
    · have hqI : ¬ (0 : Int) < (q.length : Int) := by omega
      obtain rfl : q = [] := List.eq_nil_of_length_eq_zero (by omega)
      go_wp2
      (try simp only [Exit.inBlock, Exit.then])
      refine bodyPost_ret (results_tmp2 rfl _ _ _) rfl ?_
      have he := HI.out.eq
      rw [cnt_nil] at he
      exact ⟨.inl ⟨n, by rw [← he]; simp, rfl⟩, HI.out.below⟩
theorem fillL_one (c : Int) : ∀ k, fillL [c] k = List.replicate k c
  | 0 => rfl
  | k + 1 => by
    rw [fillL_succ, fillL_one c k, List.replicate_succ']
    congr 1
    unfold fillAt
    rw [if_pos (by simp)]
    simp only [List.length_singleton, Nat.mod_one]
    rfl
theorem fill_one (A : Option Addr) (c : Int) (k : Nat) (w : World) (h : RdB w A 1 [c]) (hc : 0 ≤ c ∧ c < 256) (hk : k ≤ 600) :
    Calls Try.prog 21 #[.slice A 1 1, .int .i64 (k : Int)] w fun e w' => ∃ B d, e = .returned (.slice B k d) ∧ OwB w' w.heap.size (.slice B k d) (List.replicate k c) ∧ k ≤ d ∧ RdB w' B k (List.replicate k c) ∧ Below w.heap.size w w' := by
  refine (fillN_calls A 1 1 [c] (k : Int) w h (Bytes.one hc.1 hc.2) (by omega) (by omega)).mono ?_
  rintro e w' ⟨B, d, he, hO, hd, hr, hB⟩
  rw [Int.toNat_natCast, fillL_one] at hr
  rw [Int.toNat_natCast, fillL_one] at hO
  rw [Int.toNat_natCast] at he hd
  exact ⟨B, d, he, hO.out, hd, hr.out, hB⟩
theorem rep_bytes_ {c : Int} (hc : 0 ≤ c ∧ c < 256) (k : Nat) : Bytes (List.replicate k c) := fun x hx => by
  rw [List.eq_of_mem_replicate hx]
  exact hc
theorem CntPost.some_ {p : List Int} {e : Ending} {k : Nat} (h : CntPost p e) (hk : cnt p = some k) : e = .returned (.tuple #[.int .i64 k, .int .i64 0]) := by
  rcases h with ⟨k', h1, he⟩ | ⟨h1, _⟩
  · rw [hk] at h1
    injection h1 with h1
    subst h1
    exact he
  · rw [hk] at h1; cases h1
theorem OwB.gv_ {w : World} {base k d : Nat} {B : Option Addr} {X : List Int} (h : OwB w base (.slice B k d) X) (hl : X.length = k) (hb : Bytes X) : 0 < k → ∃ g o, B = some ⟨g, o, none⟩ := by
  subst hl
  exact (OwB.gv h hb (Nat.le_refl _)).at_
/-- The numbers of LzRuns. -/
theorem runs_num (k : Nat) (h : k ≤ 600) : wrap64 ((k : Int) - 1) = (k : Int) - 1 ∧ wrap64 ((k : Int) - 1 + 130) = (k : Int) - 1 + 130 ∧ (1 ≤ k → ((k : Int) - 1 + 130).tdiv 131 = (((k - 1 + 130) / 131 : Nat) : Int)) ∧ wrap64 (1 + (((k - 1 + 130) / 131 : Nat) : Int)) = 1 + (((k - 1 + 130) / 131 : Nat) : Int) ∧ wrap64 ((((k - 1 + 130) / 131 : Nat) : Int)) = (((k - 1 + 130) / 131 : Nat) : Int) := by
  refine ⟨by unfold wrap64; omega, by unfold wrap64; omega, fun h1 => ?_, by unfold wrap64; omega, by unfold wrap64; omega⟩
  rw [Int.tdiv_eq_ediv_of_nonneg (by omega)]
  omega
set_option maxRecDepth 20000 in
set_option maxHeartbeats 1600000 in
theorem lzRuns_walk (c n : Int) (w : World) (hc : 0 ≤ c ∧ c < 256) (hn0 : -9223372036854775808 ≤ n) (hn1 : n ≤ 9223372036854775807) :
    Calls Try.prog 8 #[.int .u8 c, .int .i64 n] w fun e w' => e = .returned (.bool true) ∧ Below w.heap.size w w' := by
  have hac := fun (w : World) => around_calls n 601 w hn0 hn1 (by omega) (by omega)
  obtain ⟨hr0, hr1⟩ := around_range n 601 (by omega)
  obtain ⟨k, hk⟩ := Int.eq_ofNat_of_zero_le hr0
  rw [hk] at hr1
  simp only [hk] at hac
  have HAC := Aside0.mk hac
  have hk6 : k ≤ 600 := by omega
  clear hac hr0 hr1 hk hn0 hn1
  have HK6 := Aside0.mk hk6
  have HC := Aside0.mk hc
  have HU : Aside0 (unp 600 (packL (List.replicate k c)) = ⟨List.replicate k c, 0⟩) := ⟨by rw [unp_pack _ (by omega), if_pos (by rw [List.length_replicate]; omega)]⟩
  have HCN := Aside0.mk (cnt_rep (c := c) (k := k))
  have HBY := Aside0.mk (rep_bytes_ hc k)
  have HBL := Aside0.mk (List.length_replicate (n := k) (a := c))
  have HPL : Aside0 ((packL (List.replicate k c)).length ≤ 700) := ⟨by have := pack_len (List.replicate k c); rw [List.length_replicate] at this; omega⟩
  have HPB := Aside0.mk (packL_bytes (rep_bytes_ hc k))
  have hf := fun (A : Option Addr) (w : World) (h : RdB w A 1 [c]) => fill_one A c k w h hc hk6
  have HF := Aside0.mk hf
  clear hf
  have hrn := runs_num k hk6
  generalize List.replicate k c = b at *
  have hmin : (if (1 : Int) < (k : Int) then (1 : Int) else (k : Int)) = ((min k 1 : Nat) : Int) := by split <;> omega
  by_cases h4 : 4 < k
  · have h4I : (4 : Int) < (k : Int) := by omega
    have hcn := HCN.out
    rw [if_pos h4] at hcn
    have HCN := Aside0.mk hcn
    obtain ⟨hw1, hw2, he1, hw3, hw4⟩ := hrn
    have he1 := he1 (by omega)
    clear hcn
    obtain ⟨z, hz⟩ : ∃ z, z = (k - 1 + 130) / 131 := ⟨_, rfl⟩
    rw [← hz] at he1 hw3 hw4 HCN
    clear hz
    go_enter Try.func8, Try.ntmps8
    go_wp2_with (first
      | (go_at_call 17; (with_reducible refine at_cw w ?_); with_reducible refine (HAC.out w).mono ?_; rintro e u0 ⟨rfl, rfl⟩)
      | (go_at_call 21; refine (HF.out (some ⟨w.heap.size, 0, none⟩) _ (rd_lit w _ _ _ _ rfl rfl (by simp))).mono ?_; rintro e w1 ⟨BB, dB, rfl, hO1, hd1, hr1, hB⟩; have L1 : Aside0 (Later w w1) := ⟨(below_alloc (Below.refl _ w) _).trans (hB.mono (by simp))⟩; have G1 := Aside0.mk (OwB.gv_ hO1 HBL.out HBY.out); have R1 := Aside0.mk hr1; clear hO1 hr1 hB)
      | (go_at_call 14; (with_reducible refine at_cw w1 ?_); refine (pack_calls BB k dB b w1 R1.out G1.out HBY.out hd1 (by omega)).mono ?_; rintro e w2 ⟨v, rfl, hQ, hB⟩; obtain ⟨AP, cP, rfl, hcP, hrP⟩ := hQ.reads; have L2 : Aside0 (Later w1 w2) := ⟨hB⟩; have R_P := Aside0.mk hrP; have R12 := Aside0.mk (Kd.C_below R1.out hB); clear hQ hB hrP)
      | (go_at_call 19; (with_reducible refine at_cw w2 ?_); refine (count_calls AP (packL b).length cP (packL b) w2 R_P.out HPB.out hcP (by have := HPL.out; omega)).mono ?_; rintro e w3 ⟨hcn, hB⟩; obtain rfl := hcn.some_ HCN.out; have L3 : Aside0 (Later w2 w3) := ⟨hB⟩; clear hcn hB)
      | (go_at_call 15; (with_reducible refine at_cw w3 ?_); refine (unpack_calls AP (packL b).length cP (packL b) 600 w3 (Kd.C_below R_P.out L3.out) HPB.out hcP (by have := HPL.out; omega)).mono ?_; rw [HU.out]; rintro e w4 hp; obtain ⟨AX, dX, rfl, _, hrX, hbX, hdX, hB⟩ := hp.get; have L4 : Aside0 (Later w3 w4) := ⟨hB⟩; have hs1 := conv_str hrX dX; have hs2 := conv_str (Kd.C_below R12.out (Later.trans L3.out L4.out)) dB; clear hp hB hrX)
      | (go_at_call 13; (with_reducible refine at_cw w4 ?_); refine (lives_calls w4).mono ?_; rintro e w5 ⟨rfl, hB⟩; have L5 : Aside0 (Later w4 w5) := ⟨hB⟩; clear hB))
    (try simp only [Exit.inBlock, Exit.then])
    refine bodyPost_ret (results_tmp rfl _ _ _) rfl ⟨rfl, ?_⟩
    exact Later.trans L1.out (Later.trans L2.out (Later.trans L3.out (Later.trans L4.out L5.out)))
  · have h4I : ¬ (4 : Int) < (k : Int) := by omega
    have hcn := HCN.out
    rw [if_neg h4] at hcn
    have HCN := Aside0.mk hcn
    clear hcn hrn
    go_enter Try.func8, Try.ntmps8
    go_wp2_with (first
      | (go_at_call 17; (with_reducible refine at_cw w ?_); with_reducible refine (HAC.out w).mono ?_; rintro e u0 ⟨rfl, rfl⟩)
      | (go_at_call 21; refine (HF.out (some ⟨w.heap.size, 0, none⟩) _ (rd_lit w _ _ _ _ rfl rfl (by simp))).mono ?_; rintro e w1 ⟨BB, dB, rfl, hO1, hd1, hr1, hB⟩; have L1 : Aside0 (Later w w1) := ⟨(below_alloc (Below.refl _ w) _).trans (hB.mono (by simp))⟩; have G1 := Aside0.mk (OwB.gv_ hO1 HBL.out HBY.out); have R1 := Aside0.mk hr1; clear hO1 hr1 hB)
      | (go_at_call 14; (with_reducible refine at_cw w1 ?_); refine (pack_calls BB k dB b w1 R1.out G1.out HBY.out hd1 (by omega)).mono ?_; rintro e w2 ⟨v, rfl, hQ, hB⟩; obtain ⟨AP, cP, rfl, hcP, hrP⟩ := hQ.reads; have L2 : Aside0 (Later w1 w2) := ⟨hB⟩; have R_P := Aside0.mk hrP; have R12 := Aside0.mk (Kd.C_below R1.out hB); clear hQ hB hrP)
      | (go_at_call 19; (with_reducible refine at_cw w2 ?_); refine (count_calls AP (packL b).length cP (packL b) w2 R_P.out HPB.out hcP (by have := HPL.out; omega)).mono ?_; rintro e w3 ⟨hcn, hB⟩; obtain rfl := hcn.some_ HCN.out; have L3 : Aside0 (Later w2 w3) := ⟨hB⟩; clear hcn hB)
      | (go_at_call 15; (with_reducible refine at_cw w3 ?_); refine (unpack_calls AP (packL b).length cP (packL b) 600 w3 (Kd.C_below R_P.out L3.out) HPB.out hcP (by have := HPL.out; omega)).mono ?_; rw [HU.out]; rintro e w4 hp; obtain ⟨AX, dX, rfl, _, hrX, hbX, hdX, hB⟩ := hp.get; have L4 : Aside0 (Later w3 w4) := ⟨hB⟩; have hs1 := conv_str hrX dX; have hs2 := conv_str (Kd.C_below R12.out (Later.trans L3.out L4.out)) dB; clear hp hB hrX)
      | (go_at_call 13; (with_reducible refine at_cw w4 ?_); refine (lives_calls w4).mono ?_; rintro e w5 ⟨rfl, hB⟩; have L5 : Aside0 (Later w4 w5) := ⟨hB⟩; clear hB))
    (try simp only [Exit.inBlock, Exit.then])
    refine bodyPost_ret (results_tmp rfl _ _ _) rfl ⟨rfl, ?_⟩
    exact Later.trans L1.out (Later.trans L2.out (Later.trans L3.out (Later.trans L4.out L5.out)))
end Go.Proofs.Ytnohkhaagkkhjaa
