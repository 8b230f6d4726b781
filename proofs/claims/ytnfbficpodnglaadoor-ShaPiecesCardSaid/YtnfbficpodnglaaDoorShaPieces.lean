/- The law ShaPieces: its walk. Conditions: what sha's table of roots holds. -/
import Derived.Test.YtnfbficpodnglaaDoorShaClones
import Derived.Test.YtnfbficpodnglaaDoorLists
namespace Go.Proofs.YtnfbficpodnglaaDoor
open Go.RowKit Go.Proofs.YtnfbficpodnglaaDoorW.PrintWords Go.Proofs.YtnfbficpodnglaaDoorW.PrintMore
set_option linter.unusedVariables false
set_option linter.unusedSimpArgs false
/-- What the loop of ShaPieces keeps. -/
def PcInv (w : World) (g : Nat) (T : List Int) (v va : Value) (wr : World) : Prop :=
  Sta wr w.heap.size g v T ∧ QB wr w.heap.size va T ∧ Bytes T ∧ Below w.heap.size w wr ∧ w.heap.size ≤ g ∧ (∀ k, va.ownBlock = some k → k ≠ g ∧ v.ownBlock ≠ some k)
def PcAt (w : World) (g n : Nat) (va i : Value) (wr : World) : Prop := ∃ (j : Nat) (T : List Int) (v : Value) (B : Option Addr) (c : Nat), j ≤ 6 ∧ j ≤ n ∧ i = .int .i64 j ∧ T.length ≤ 80 * j ∧ va = .slice B T.length c ∧ PcInv w g T v va wr
set_option maxRecDepth 20000 in
set_option maxHeartbeats 3200000 in
theorem shaPieces_walk (A : Option Addr) (n c : Nat) (w : World) (h : LsIn w A n) (hm : n ≤ 9223372036854775807) (hk : Roots w) :
    Calls Tryd.prog 6 #[.slice A n c] w fun e w' => e = .returned (.bool true) ∧ Below w.heap.size w w' := by
  have HA := Aside0.mk h
  have HK := Aside0.mk hk
  have HLT := Aside0.mk hk.lt
  have hgd := dig_gd
  clear h hk
  go_enter Tryd.func6, Tryd.ntmps6
  go_wp2_with (first
    | (go_at_call 14; refine (new_calls w).mono ?_; rintro e w2 hN; obtain ⟨g, v, rfl, hg1, hg2, hS, hB2⟩ := hN; have HS := Aside0.mk hS; have HB2 := Aside0.mk hB2; have HG := Aside0.mk (And.intro hg1 hg2); clear hS hB2 hg1 hg2))
  have HI : Aside0 (PcAt w g n (.slice none 0 0) (.int .i64 0) w2) := ⟨0, [], v, none, 0, by omega, by omega, rfl, by simp, rfl, HS.out, QB.nil _ _, Bytes.nil, HB2.out, HG.out.1, fun k hk => by cases hk⟩
  clear HS HB2
  go_loopw [4, 5] (fun va i wr => PcAt w g n va i wr) (fun _ i _ => 6 - (intOf i).toNat)
  case atStart => exact HI.out
  case round =>
    obtain ⟨j, T, v1, B, c1, hj6, hjn, rfl, hTl, rfl, hP⟩ := hrel
    obtain ⟨hSt, hQ, hTb, hBr, hgw, hap⟩ := hP
    have HSt := Aside0.mk hSt
    have HQ := Aside0.mk hQ
    have HTb := Aside0.mk hTb
    have HBr := Aside0.mk hBr
    have HAP := Aside0.mk hap
    have HR := Aside0.mk (HK.out.below hBr)
    clear hSt hQ hTb hBr HI hap
    by_cases hlt : j < n ∧ j < 6
    · obtain ⟨hn, h6⟩ := hlt
      obtain ⟨ad, Bj, mj, cj, ys, rfl, hcj, hrj, hcc, hbj⟩ := (HA.out.below HBr.out) j hn
      have Hrj := Aside0.mk hrj
      have Hbj := Aside0.mk hbj
      clear hrj hbj
      go_wp2_with (first
        | (go_at_call 12; refine (few_new Bj mj cj ys 80 wr Hrj.out hcc Hbj.out (by omega) (by omega)).mono ?_; rintro e w3 ⟨B3, d3, zs, rfl, hz, hbz, hO3, hd3, hzl, hR3, hB3⟩; have S3 := Aside0.mk (HSt.out.below hB3); have Q3 := Aside0.mk (HQ.out.below hB3); have Z3 := Aside0.mk (below_tr HBr.out hB3 HBr.out.size); have HB3 := Aside0.mk hB3; have HZ := Aside0.mk (And.intro hbz (show zs.length ≤ 80 from hzl)); clear hB3 hbz hzl hcj)
        | (go_at_call 15; refine (write_calls g v1 T zs B3 zs.length d3 w3 w.heap.size S3.out hR3.out HTb.out HZ.out.1 (HK.out.below Z3.out) Z3.out.size (by have := HZ.out.2; omega) HLT.out hgw (OwB.apart hO3.out g HSt.out.lt)).mono ?_; rintro e w4 hW; obtain ⟨v4, rfl, hS4, hv4, hF4⟩ := hW; have S4 := Aside0.mk hS4; have Z4 := Aside0.mk (Z3.out.trans (hF4.below (fun q hq => hq.elim (fun e => e ▸ hgw) (fun e => HSt.out.2.ge _ e.symm)) Z3.out.size)); have Q4 : Aside0 (QB w4 w.heap.size (.slice B T.length c1) T) := ⟨Q3.out.move fun q hq => hF4.block q (Q3.out.lt q hq) (fun e => e.elim (HAP.out q hq).1 (fun e => (HAP.out q hq).2 e.symm))⟩; have O4 : Aside0 (QB w4 wr.heap.size (.slice B3 zs.length d3) zs) := ⟨(QB.own hO3.out).move fun q hq => hF4.block q ((QB.own hO3.out).lt q hq) (fun e => by have hge := (QB.own hO3.out).ge q hq; exact e.elim (fun e => by have := HSt.out.lt; omega) (fun e => by have := HSt.out.2.lt q e.symm; omega))⟩; obtain ⟨A4, e4, hv, _, hr⟩ := O4.out.reads; injection hv with hv1 hv2 hv3; subst hv1; have R4 := Aside0.mk hr; have AP4 : Aside0 (∀ k, (Value.slice B T.length c1).ownBlock = some k → k ≠ g ∧ v4.ownBlock ≠ some k) := ⟨fun q hq => ⟨(HAP.out q hq).1, fun e => hv4.elim (fun h => (HAP.out q hq).2 (by rw [← h, e])) (fun ⟨b, h, hb⟩ => by rw [e] at h; injection h with h; have := Q3.out.lt q hq; omega)⟩⟩; clear hS4 hv4 hF4 hv2 hv3 hr)
        | (at_builtin; (with_reducible refine at_w w4 ?_); refine appQ w.heap.size rfl _ _ rfl (.slice B T.length c1) T zs B3 zs.length d3 rfl rfl Q4.out R4.out Z4.out.size (by have := HZ.out.2; omega) ?_; intro va5 w5 hQ5 hg5 ho5; have S5 : Aside0 (Sta w5 w.heap.size g v4 (T ++ zs)) := ⟨S4.out.fr ((Fr.refl w4 (fun q => some q = (Value.slice B T.length c1).ownBlock)).grown hg5 (fun q hq => .inl hq.symm)) (fun e => (AP4.out g e.symm).1 rfl) (fun q hq e => (AP4.out q e.symm).2 hq)⟩; have Z5 := Aside0.mk (Z4.out.trans (((Fr.refl w4 (fun q => some q = (Value.slice B T.length c1).ownBlock)).grown hg5 (fun q hq => .inl hq.symm)).below (fun q hq => Q4.out.ge q hq.symm) Z4.out.size)); have AP5 : Aside0 (∀ k, va5.ownBlock = some k → k ≠ g ∧ v4.ownBlock ≠ some k) := ⟨fun q hq => ho5.elim (fun h => AP4.out q (by rw [← h, hq])) (fun ⟨b, h, hb⟩ => by rw [hq] at h; injection h with h; subst h; exact ⟨by have := S4.out.lt; omega, fun e => by have := S4.out.2.lt q e; omega⟩)⟩; obtain ⟨B5, c5, rfl, hc5, hr5⟩ := hQ5.reads; have Q5 := Aside0.mk hQ5; have R5 := Aside0.mk hr5; clear hQ5 hg5 ho5 hr5; obtain ⟨T5, hT5⟩ : ∃ T5, T5 = T ++ zs := ⟨_, rfl⟩; rw [← hT5] at S5 Q5 R5 hc5 AP5 ⊢; have HT5B := Aside0.mk (show Bytes T5 by rw [hT5]; exact HTb.out.append HZ.out.1); have HT5L : T5.length ≤ 80 * (j + 1) := (by have := HZ.out.2; rw [hT5, List.length_append]; omega); clear hT5)
        | (go_at_call 16; (with_reducible refine at_cw w5 ?_); refine (sumS_calls g v4 T5 w.heap.size w5 S5.out HT5B.out (HK.out.below Z5.out) (by omega)).mono ?_; rintro e w6 ⟨rfl, hB⟩; have Z6 := Aside0.mk (below_tr Z5.out hB Z5.out.size); have S6 := Aside0.mk (S5.out.below hB); have Q6 := Aside0.mk (Q5.out.below hB); have R6 := Aside0.mk (Kd.C_below R5.out hB); clear hB)
        | (go_at_call 11; (with_reducible refine at_cw w6 ?_); refine (rsum_calls B5 T5.length c5 T5 w6 R6.out HT5B.out (by omega)).mono ?_; rintro e w7 ⟨rfl, hB⟩; have Z7 := Aside0.mk (below_tr Z6.out hB Z6.out.size); have S7 := Aside0.mk (S6.out.below hB); have Q7 := Aside0.mk (Q6.out.below hB); clear hB)
        | ((with_reducible refine at_bin .neq 26 ?_); refine val_arm (v := (.bool false)) (by rfl) (bin_run .neq 26 _ _ 26 rfl (p := (.agg (Nm (shaL T5)).toArray)) (q := (.agg (Nm (shaL T5)).toArray)) rfl rfl (run_eqGuard_agg _ .neq _ _ _ _ _ hgd) (by rw [d_neq (shaL_len T5) (shaL_len T5)]; simp)) ?_)
        | (go_at_call 17; refine (len_calls g v4 T5 w.heap.size w7 S7.out).mono ?_; rintro e u1 ⟨rfl, rfl⟩))
      go_roundw
      case rel => exact ⟨j + 1, T5, v4, B5, c5, by omega, by omega, by go_num, HT5L, rfl, S7.out, Q7.out, HT5B.out, Z7.out, hgw, AP5.out⟩
      case measure => simp [intOf]; omega
    · have HRd : Aside0 (∃ B' c', Value.slice B T.length c1 = .slice B' T.length c' ∧ T.length ≤ c' ∧ RdB wr B' T.length T) := ⟨HQ.out.reads⟩
      obtain ⟨B', c', hv, hcc, hrr⟩ := HRd.out
      injection hv with hv1 hv2 hv3
      subst hv1
      have HRR := Aside0.mk hrr
      clear hv2 hv3 hcc hrr HRd
      have hjj : ¬ (j : Int) < n ∨ ¬ (j : Int) < 6 := by omega
      rcases hjj with hjj | hjj
      all_goals
        by_cases hn : (j : Int) < n
        all_goals
          go_wp2_with (first
            | (go_at_call 16; (with_reducible refine at_cw wr ?_); refine (sumS_calls g v1 T w.heap.size wr HSt.out HTb.out HR.out (by omega)).mono ?_; rintro e w6 ⟨rfl, hB⟩; have Z6 := Aside0.mk (below_tr HBr.out hB HBr.out.size); have R6 := Aside0.mk (Kd.C_below HRR.out hB); clear hB)
            | (go_at_call 10; (with_reducible refine at_cw w6 ?_); refine (psum_calls B T.length c1 T w6 R6.out HTb.out (HK.out.below Z6.out) (by omega)).mono ?_; rintro e w7 ⟨rfl, hB⟩; have Z7 := Aside0.mk (below_tr Z6.out hB Z6.out.size); clear hB)
            | ((with_reducible refine at_bin .eql 26 ?_); refine val_arm (v := (.bool true)) (by rfl) (bin_run .eql 26 _ _ 26 rfl (p := (.agg (Nm (shaL T)).toArray)) (q := (.agg (Nm (shaL T)).toArray)) rfl rfl (run_eqGuard_agg _ .eql _ _ _ _ _ hgd) (d_eql_same (shaL_len T))) ?_)
            | (go_at_call 13; refine (lives_calls w7 (HK.out.below Z7.out)).mono ?_; rintro e w8 ⟨rfl, hB8⟩))
          go_ret
          exact ⟨rfl, below_tr Z7.out hB8 Z7.out.size⟩
end Go.Proofs.YtnfbficpodnglaaDoor
