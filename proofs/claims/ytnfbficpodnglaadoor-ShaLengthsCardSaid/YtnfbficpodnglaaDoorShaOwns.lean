/- The law ShaOwns: its walk. Conditions: what sha's table of roots holds. -/
import Derived.Test.YtnfbficpodnglaaDoorShaSums
namespace Go.Proofs.YtnfbficpodnglaaDoor
open Go.RowKit Go.Proofs.YtnfbficpodnglaaDoorW.PrintWords Go.Proofs.YtnfbficpodnglaaDoorW.PrintMore
set_option linter.unusedVariables false
set_option linter.unusedSimpArgs false
theorem Sta.move {w w1 : World} {base g : Nat} {v : Value} {xs : List Int} (h : Sta w base g v xs) (hg : base ≤ g) (hm : ∀ k, base ≤ k → k < w.heap.size → w1.heap[k]? = w.heap[k]?) : Sta w1 base g v xs :=
  ⟨by rw [hm g hg (Array.getElem?_eq_some_iff.1 h.1).1]; exact h.1, h.2.move fun k hk => hm k (h.2.ge k hk) (h.2.lt k hk)⟩
theorem Sta.setCell {w : World} {base g : Nat} {v : Value} {xs : List Int} (h : Sta w base g v xs) (hg : base ≤ g) (p : Addr) (hp : p.block < base) (x : Value) : Sta (w.setCell p x) base g v xs :=
  h.move hg fun k hk _ => by
    unfold World.setCell
    rw [Array.getElem?_modify]
    rw [if_neg (by omega)]
/-- What the loop of ShaOwns keeps. -/
def OwnInv (w : World) (base g : Nat) (v : Value) (xs : List Int) (vo : Value) (L : Nat) (wr : World) : Prop :=
  ∃ zs : List Int, zs.length = L ∧ OwB wr w.heap.size vo zs ∧ Sta wr base g v xs ∧ Below w.heap.size w wr ∧ ∀ k, vo.ownBlock = some k → k < base
set_option maxRecDepth 20000 in
set_option maxHeartbeats 1600000 in
theorem shaOwns_walk (A : Option Addr) (n c : Nat) (xs : List Int) (k : Int) (w : World) (h : RdB w A n xs) (hc : n ≤ c) (hb : Bytes xs) (hk : Roots w) :
    Calls Tryd.prog 5 #[.slice A n c, .int .u8 k] w fun e w' => e = .returned (.bool true) ∧ Below w.heap.size w w' := by
  have HX := Aside0.mk h
  have HK := Aside0.mk hk
  have hgd := dig_gd
  have HLT := Aside0.mk hk.lt
  clear h hk
  go_enter Tryd.func5, Tryd.ntmps5
  go_wp2_with (first
    | (go_at_call 12; refine (few_new A n c xs 70 w HX.out hc hb (by omega) (by omega)).mono ?_; rintro e w1 ⟨B, d, ys, rfl, hY, hby, hO1, hd, hyl, hR1, hB1⟩; have HB1 := Aside0.mk hB1; clear hB1; have HY1 := Aside0.mk (And.intro hby (show ys.length ≤ 70 from hyl)); clear hby hyl)
    | (go_at_call 14; refine (new_calls w1).mono ?_; rintro e w2 hN; obtain ⟨g, v, rfl, hg1, hg2, hS, hB2⟩ := hN; have HS := Aside0.mk hS; have HB2 := Aside0.mk hB2; have HG := Aside0.mk (And.intro hg1 hg2); clear hS hB2 hg1 hg2)
    | (go_at_call 15; refine (write_calls g v [] ys B ys.length d w2 w1.heap.size HS.out (Kd.C_below hR1.out HB2.out) Bytes.nil HY1.out.1 (HK.out.below (below_tr HB1.out HB2.out HB1.out.size)) HB2.out.size (by have := HY1.out.2; simp; omega) (by have := HB1.out.size; have := HLT.out; omega) HG.out.1 (Kd.far_C (0 : Int) hR1.out HG.out.1)).mono ?_; rintro e w3 hW; obtain ⟨v3, rfl, hS3, hv3, hF3⟩ := hW; rw [List.nil_append] at hS3; have HS3 := Aside0.mk hS3; have HF3 := Aside0.mk hF3; clear hS3 hF3))
  have HB3 : Aside0 (Below w1.heap.size w1 w3) := ⟨by
    refine HB2.out.trans (HF3.out.below (fun q hq => ?_) HB2.out.size)
    rcases hq with rfl | hq
    · exact HG.out.1
    · exact HS.out.2.ge _ hq.symm⟩
  have HI : Aside0 (OwnInv w w1.heap.size g v3 ys (.slice B ys.length d) ys.length w3) := ⟨ys, rfl, OwB.below hO1.out HB3.out, HS3.out, HB1.out.trans (HB3.out.mono HB1.out.size), fun q hq => (QB.own hO1.out).lt q hq⟩
  go_loopw [7] (fun i wr => ∃ j : Nat, j ≤ ys.length ∧ i = .int .i64 j ∧ OwnInv w w1.heap.size g v3 ys (.slice B ys.length d) ys.length wr) (fun i _ => ys.length - (intOf i).toNat)
  case atStart => exact ⟨0, by omega, rfl, HI.out⟩
  case round =>
    obtain ⟨j, hj, rfl, hI⟩ := hrel
    obtain ⟨zs, hzl, hO, hSt, hBr, hob⟩ := hI
    have HSR := Aside0.mk hSt
    have HBR := Aside0.mk hBr
    clear hSt hBr hO1 HI hv3 HB3 HF3 HS3 HB2
    by_cases hlt : j < ys.length
    · obtain ⟨go, cap, he, hg0, hg1⟩ := OwB.place hO (by omega)
      injection he with e1 e2 e3
      subst e1
      subst e3
      rw [← hzl] at hO
      obtain ⟨hcell, hfz⟩ := OwB.cell hO (j : Int) (by omega) (by omega)
      rw [Int.toNat_natCast] at hcell hfz
      have HOS := fun x => Aside0.mk (OwB.store hO (j : Int) x)
      have HO := Aside0.mk (hob go rfl)
      have HG0 := Aside0.mk hg0
      clear hO hob hg0 hg1 hR1 e2
      generalize rd zs j = x at *
      have h70 := HY1.out.2
      go_wp2
      go_roundw
      case rel =>
        refine ⟨j + 1, by omega, by go_num, zs.set j (Go.bits .xor .u8 x k), by rw [List.length_set, hzl], ?_, HSR.out.setCell HG.out.1 _ HO.out _, Below.setCell HBR.out (p := ⟨go, j, none⟩) HG0.out _, fun q hq => by
          obtain rfl := Option.some.inj hq
          exact HO.out⟩
        have := (HOS (Go.bits .xor .u8 x k)).out
        rw [Int.toNat_natCast, hzl] at this
        exact this
      case measure => simp [intOf]; omega
    · have HR4 := Aside0.mk (HK.out.below HBR.out)
      clear hO hob hR1
      go_wp2_with (first
        | (go_at_call 16; with_reducible refine (sumS_calls g v3 ys w1.heap.size wr HSR.out HY1.out.1 HR4.out (by have := HY1.out.2; omega)).mono ?_; rintro e w4 ⟨rfl, hB4⟩; have HB4 := Aside0.mk (below_tr HBR.out hB4 HBR.out.size); have HS4 := Aside0.mk (HSR.out.below hB4); clear hB4)
        | (go_at_call 12; refine (few_new A n c xs 70 w4 (Kd.C_below HX.out HB4.out) hc hb (by omega) (by omega)).mono ?_; rintro e w5 ⟨B5, d5, ts, rfl, hY5, hby5, hO5, hd5, htl, hR5, hB5⟩; have HB5 := Aside0.mk (below_tr HB4.out hB5 HB4.out.size); have HS5 := Aside0.mk (HS4.out.below hB5); have HY5 := Aside0.mk (And.intro hby5 (show ts.length ≤ 70 from htl)); clear hB5 hO5 hby5 htl; have HT5 : Aside0 (shaL ts = shaL ys) := ⟨by rw [hY5.out, hY.out]⟩)
        | (go_at_call 11; with_reducible refine (rsum_calls B5 ts.length d5 ts w5 hR5.out HY5.out.1 (by have := HY5.out.2; omega)).mono ?_; rw [HT5.out]; rintro e w6 ⟨rfl, hB6⟩; have HB6 := Aside0.mk (below_tr HB5.out hB6 HB5.out.size); have HS6 := Aside0.mk (HS5.out.below hB6); clear hB6)
        | (go_at_call 16; with_reducible refine (sumS_calls g v3 ys w1.heap.size w6 HS6.out HY1.out.1 (HK.out.below HB6.out) (by have := HY1.out.2; omega)).mono ?_; rintro e w7 ⟨rfl, hB7⟩; have HB7 := Aside0.mk (below_tr HB6.out hB7 HB6.out.size); have HS7 := Aside0.mk (HS6.out.below hB7); clear hB7)
        | (go_at_call 16; with_reducible refine (sumS_calls g v3 ys w1.heap.size w7 HS7.out HY1.out.1 (HK.out.below HB7.out) (by have := HY1.out.2; omega)).mono ?_; rintro e w8 ⟨rfl, hB8⟩; have HB8 := Aside0.mk (below_tr HB7.out hB8 HB7.out.size); clear hB8)
        | ((with_reducible refine at_bin .eql 26 ?_); refine val_arm (v := (.bool true)) (by rfl) (bin_run .eql 26 _ _ 26 rfl (p := (.agg (Nm (shaL ys)).toArray)) (q := (.agg (Nm (shaL ys)).toArray)) rfl rfl (run_eqGuard_agg _ .eql _ _ _ _ _ hgd) (d_eql_same (shaL_len ys))) ?_)
        | ((with_reducible refine at_bing .eql 26 ?_); refine val_arm (v := (.bool true)) (by rfl) (bin_run .eql 26 _ _ 26 rfl (p := (.agg (Nm (shaL ys)).toArray)) (q := (.agg (Nm (shaL ys)).toArray)) rfl rfl (run_eqGuard_agg _ .eql _ _ _ _ _ hgd) (d_eql_same (shaL_len ys))) ?_)
        | (go_at_call 13; refine (lives_calls w8 (HK.out.below HB8.out)).mono ?_; rintro e w9 ⟨rfl, hB9⟩))
      go_ret
      exact ⟨rfl, below_tr HB8.out hB9 HB8.out.size⟩
end Go.Proofs.YtnfbficpodnglaaDoor
