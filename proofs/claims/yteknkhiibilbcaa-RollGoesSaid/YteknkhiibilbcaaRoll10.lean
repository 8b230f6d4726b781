/- The laws RollApart, RollGoes: their walks. Conditions: what each argument reads. -/
import Derived.Test.YteknkhiibilbcaaRoll9
import Derived.Test.YteknkhiibilbcaaCut
namespace Go.Proofs.Yteknkhiibilbcaa
open Go.RowKit Go.Proofs.YteknkhiibilbcaaW.PrintWords Go.Proofs.YteknkhiibilbcaaW.PrintMore
set_option linter.unusedVariables false
set_option linter.unusedSimpArgs false
structure ApInv (w w4 : World) (base g1 g2 : Nat) (P Q : List Int) (wr : World) : Prop where
  p : RSt wr g1 P
  q : RSt wr g2 Q
  below : Below w.heap.size w wr
  far : Far base w4 wr
theorem ApInv.onP {w w4 wr wa : World} {base g1 g2 : Nat} {P Q P' : List Int} {o : Obj} (h : ApInv w w4 base g1 g2 P Q wr) (hne : g2 ≠ g1) (hw : w.heap.size ≤ g1) (hg : g1 < base) (k : RSt wa g1 P') (s : SetBlk wr wa g1 o) : ApInv w w4 base g1 g2 P' Q wa :=
  ⟨k, h.q.move (s.else_ _ hne), h.below.trans (s.below hw), h.far.trans (Far.set s hg)⟩
theorem ApInv.onQ {w w4 wr wa : World} {base g1 g2 : Nat} {P Q Q' : List Int} {o : Obj} (h : ApInv w w4 base g1 g2 P Q wr) (hne : g1 ≠ g2) (hw : w.heap.size ≤ g2) (hg : g2 < base) (k : RSt wa g2 Q') (s : SetBlk wr wa g2 o) : ApInv w w4 base g1 g2 P Q' wa :=
  ⟨h.p.move (s.else_ _ hne), k, h.below.trans (s.below hw), h.far.trans (Far.set s hg)⟩
theorem take_all {xs : List Int} {k : Nat} (h : xs.length ≤ k) : xs.take (k + 1) = xs.take k := by rw [List.take_of_length_le h, List.take_of_length_le (by omega)]
theorem rollApart_walk (A1 A2 : Option Addr) (n1 c1 n2 c2 : Nat) (xa xb : List Int) (w : World) (h1 : RdB w A1 n1 xa) (hc1 : n1 ≤ c1) (hb1 : Bytes xa) (h2 : RdB w A2 n2 xb) (hc2 : n2 ≤ c2) (hb2 : Bytes xb) :
    Calls Try.prog 6 #[.slice A1 n1 c1, .slice A2 n2 c2] w fun e w' => e = .returned (.bool true) ∧ Below w.heap.size w w' := by
  have H1 := Aside0.mk h1
  have H2 := Aside0.mk h2
  clear h1 h2
  go_enter Try.func6, Try.ntmps6
  go_wp2_with (first
    | (go_at_call 17; (with_reducible refine at_cw w ?_); refine (rnew_calls w).mono ?_; rintro e w1 ⟨rfl, hR1, hB, hs1⟩; have L1 : Aside0 (Later w w1) := ⟨hB⟩; clear hB; have R1 := Aside0.mk hR1 ; have S1 := Aside0.mk hs1 ; clear hR1 hs1)
    | (go_at_call 17; (with_reducible refine at_cw w1 ?_); refine (rnew_calls w1).mono ?_; rintro e w2 ⟨rfl, hR2, hB, hs2⟩; have L2 : Aside0 (Later w1 w2) := ⟨hB⟩; clear hB; have R2 := Aside0.mk hR2 ; have S2 := Aside0.mk hs2 ; clear hR2 hs2)
    | (go_at_call 13; (with_reducible refine at_cw w2 ?_); refine (few_new A1 n1 c1 xa 30 w2 (Kd.C_below H1.out (Later.trans L1.out L2.out)) hc1 hb1 (by omega) (by omega)).mono ?_; rintro e w3 ⟨BX, dX, X, rfl, E_X, hby, O_X, hd_X, hyl, R_X, hB⟩; have L3 : Aside0 (Later w2 w3) := ⟨hB⟩; have Y_X : Aside0 (Bytes X ∧ X.length ≤ 30) := ⟨hby, hyl⟩; have D_X := Aside0.mk hd_X; clear hB hby hyl hd_X)
    | (go_at_call 13; (with_reducible refine at_cw w3 ?_); refine (few_new A2 n2 c2 xb 30 w3 (Kd.C_below H2.out (Later.trans (Later.trans L1.out L2.out) L3.out)) hc2 hb2 (by omega) (by omega)).mono ?_; rintro e w4 ⟨BY, dY, Y, rfl, E_Y, hby, O_Y, hd_Y, hyl, R_Y, hB⟩; have L4 : Aside0 (Later w3 w4) := ⟨hB⟩; have Y_Y : Aside0 (Bytes Y ∧ Y.length ≤ 30) := ⟨hby, hyl⟩; have D_Y := Aside0.mk hd_Y; clear hB hby hyl hd_Y))
  have F : Aside0 (∀ wr, Far w2.heap.size w4 wr → RdB wr BX X.length X ∧ RdB wr BY Y.length Y) := ⟨fun wr hf => ⟨hf.rd (Nat.le_refl _) (OwB.below O_X.out L4.out), hf.rd (Later.size L3.out) O_Y.out⟩⟩
  have G : Aside0 (w.heap.size ≤ w.heap.size ∧ w.heap.size < w2.heap.size ∧ w.heap.size ≤ w1.heap.size ∧ w1.heap.size < w2.heap.size ∧ w.heap.size ≠ w1.heap.size) := ⟨by rw [S2.out, S1.out]; omega⟩
  have I4 : Aside0 (ApInv w w4 w2.heap.size w.heap.size w1.heap.size [] [] w4) := ⟨⟨R1.out.below (Later.trans (Later.trans L2.out L3.out) L4.out), R2.out.below (Later.trans L3.out L4.out), (Later.trans (Later.trans (Later.trans L1.out L2.out) L3.out) L4.out), Far.refl _ _⟩⟩
  have hxl := Y_X.out.2
  have hyl := Y_Y.out.2
  have hI0 : ApInv w w4 w2.heap.size w.heap.size w1.heap.size (X.take 0) (Y.take 0) w4 := I4.out
  go_loopw [9] (fun i wr => ∃ k : Nat, k ≤ 30 ∧ i = .int .i64 k ∧ ApInv w w4 w2.heap.size w.heap.size w1.heap.size (X.take k) (Y.take k) wr) (fun i _ => 30 - (intOf i).toNat)
  case atStart => exact ⟨0, by omega, rfl, hI0⟩
  case round =>
    obtain ⟨k, hk, rfl, hI⟩ := hrel
    have I := Aside0.mk hI
    clear hI hI0 I4 R1 R2 O_X O_Y E_X E_Y
    by_cases hlt : k < 30
    · by_cases hx : k < X.length
      · obtain ⟨ad, eX⟩ : ∃ ad, BX = some ad := by obtain ⟨ad, e, _⟩ := Kd.at_int R_X.out 0 (by omega) (by omega); exact ⟨ad, e⟩
        subst eX
        have hcx := rdB_at (F.out wr I.out.far).1 k hx
        have hbx := Y_X.out.1.at_ (k : Int)
        have TX := Aside0.mk (take_snoc_ hx)
        by_cases hy : k < Y.length
        · obtain ⟨ay, eY⟩ : ∃ ad, BY = some ad := by obtain ⟨ad, e, _⟩ := Kd.at_int R_Y.out 0 (by omega) (by omega); exact ⟨ad, e⟩
          subst eY
          have hby := Y_Y.out.1.at_ (k : Int)
          have TY := Aside0.mk (take_snoc_ hy)
          go_wp2_with (first
            | (go_at_call 18; (with_reducible refine at_cw wr ?_); refine (add_calls w.heap.size (X.take k) (rd X k) wr I.out.p (by rw [List.length_take]; omega) hbx.1 hbx.2).mono ?_; rintro e wa ⟨rfl, hP, oo, hS⟩; have J := Aside0.mk (I.out.onP G.out.2.2.2.2.symm G.out.1 G.out.2.1 hP hS); have hcy := rdB_at (F.out wa J.out.far).2 k hy; clear hP hS)
            | (go_at_call 18; (with_reducible refine at_cw wa ?_); refine (add_calls w1.heap.size (Y.take k) (rd Y k) wa J.out.q (by rw [List.length_take]; omega) hby.1 hby.2).mono ?_; rintro e wb ⟨rfl, hQ, oo2, hS⟩; have M := Aside0.mk (J.out.onQ G.out.2.2.2.2 G.out.2.2.1 G.out.2.2.2.1 hQ hS); clear hQ hS))
          go_roundw
          case rel => exact ⟨k + 1, by omega, by go_num, by rw [TX.out, TY.out]; exact M.out⟩
          case measure => simp [intOf]; omega
        · have TY := Aside0.mk (take_all (xs := Y) (k := k) (by omega))
          go_wp2_with (first
            | (go_at_call 18; (with_reducible refine at_cw wr ?_); refine (add_calls w.heap.size (X.take k) (rd X k) wr I.out.p (by rw [List.length_take]; omega) hbx.1 hbx.2).mono ?_; rintro e wa ⟨rfl, hP, oo, hS⟩; have J := Aside0.mk (I.out.onP G.out.2.2.2.2.symm G.out.1 G.out.2.1 hP hS); clear hP hS))
          go_roundw
          case rel => exact ⟨k + 1, by omega, by go_num, by rw [TX.out, TY.out]; exact J.out⟩
          case measure => simp [intOf]; omega
      · have TX := Aside0.mk (take_all (xs := X) (k := k) (by omega))
        by_cases hy : k < Y.length
        · obtain ⟨ay, eY⟩ : ∃ ad, BY = some ad := by obtain ⟨ad, e, _⟩ := Kd.at_int R_Y.out 0 (by omega) (by omega); exact ⟨ad, e⟩
          subst eY
          have hcy := rdB_at (F.out wr I.out.far).2 k hy
          have hby := Y_Y.out.1.at_ (k : Int)
          have TY := Aside0.mk (take_snoc_ hy)
          go_wp2_with (first
            | (go_at_call 18; (with_reducible refine at_cw wr ?_); refine (add_calls w1.heap.size (Y.take k) (rd Y k) wr I.out.q (by rw [List.length_take]; omega) hby.1 hby.2).mono ?_; rintro e wb ⟨rfl, hQ, oo2, hS⟩; have M := Aside0.mk (I.out.onQ G.out.2.2.2.2 G.out.2.2.1 G.out.2.2.2.1 hQ hS); clear hQ hS))
          go_roundw
          case rel => exact ⟨k + 1, by omega, by go_num, by rw [TX.out, TY.out]; exact M.out⟩
          case measure => simp [intOf]; omega
        · have TY := Aside0.mk (take_all (xs := Y) (k := k) (by omega))
          go_wp2
          go_roundw
          case rel => exact ⟨k + 1, by omega, by go_num, by rw [TX.out, TY.out]; exact I.out⟩
          case measure => simp [intOf]; omega
    · obtain rfl : k = 30 := by omega
      have hI5 := I.out
      rw [List.take_of_length_le hxl, List.take_of_length_le hyl] at hI5
      have J := Aside0.mk hI5
      have FF := Aside0.mk (F.out wr hI5.far)
      clear hI5 I F
      have L5 : Aside0 (Below w.heap.size w wr) := ⟨J.out.below⟩
      go_wp2_with (first
        | (go_at_call 19; (with_reducible refine at_cw wr ?_); refine (rsum_calls w.heap.size X wr J.out.p).mono ?_; rintro e u0 ⟨rfl, rfl⟩)
        | (go_at_call 14; (with_reducible refine at_cw wr ?_); refine (phash_calls BX X.length dX X wr FF.out.1 Y_X.out.1 (by omega)).mono ?_; rintro e w6 ⟨rfl, hB⟩; have L6 := Aside0.mk hB; clear hB)
        | (go_at_call 19; (with_reducible refine at_cw w6 ?_); refine (rsum_calls w1.heap.size Y w6 (J.out.q.below L6.out)).mono ?_; rintro e u0 ⟨rfl, rfl⟩)
        | (go_at_call 14; (with_reducible refine at_cw w6 ?_); refine (phash_calls BY Y.length dY Y w6 (Kd.C_below FF.out.2 L6.out) Y_Y.out.1 (by omega)).mono ?_; rintro e w7 ⟨rfl, hB⟩; have L7 : Aside0 (Later w6 w7) := ⟨hB⟩; clear hB)
        | (go_at_call 12; (with_reducible refine at_cw w7 ?_); refine (lives_calls w7).mono ?_; rintro e w8 ⟨rfl, hB⟩; have L8 : Aside0 (Later w7 w8) := ⟨hB⟩; clear hB))
      go_ret
      exact ⟨rfl, L5.out.trans (Below.mono (Later.trans L6.out (Later.trans L7.out L8.out)) L5.out.size)⟩
structure GoInv (w w4 : World) (base g : Nat) (P : List Int) (wr : World) : Prop where
  p : RSt wr g P
  below : Below w.heap.size w wr
  far : Far base w4 wr
theorem GoInv.on {w w4 wr wa : World} {base g : Nat} {P P' : List Int} {o : Obj} (h : GoInv w w4 base g P wr) (hw : w.heap.size ≤ g) (hg : g < base) (k : RSt wa g P') (s : SetBlk wr wa g o) : GoInv w w4 base g P' wa :=
  ⟨k, h.below.trans (s.below hw), h.far.trans (Far.set s hg)⟩
theorem rollGoes_walk (A1 : Option Addr) (n1 c1 : Nat) (xa : List Int) (at_ : Int) (w : World) (h1 : RdB w A1 n1 xa) (hc1 : n1 ≤ c1) (hb1 : Bytes xa) (hn0 : -9223372036854775808 ≤ at_) (hn1 : at_ ≤ 9223372036854775807) :
    Calls Try.prog 8 #[.slice A1 n1 c1, .int .i64 at_] w fun e w' => e = .returned (.bool true) ∧ Below w.heap.size w w' := by
  have H1 := Aside0.mk h1
  have HN := Aside0.mk (And.intro hn0 hn1)
  obtain ⟨hr0, hr1⟩ := around_range at_ 60 (by omega)
  obtain ⟨a, ha⟩ := Int.eq_ofNat_of_zero_le hr0
  have HA := Aside0.mk ha
  have HL := Aside0.mk (WT_len 256)
  clear h1 hr0 hr1 ha hn0 hn1
  go_enter Try.func8, Try.ntmps8
  go_wp2_with (first
    | (go_at_call 17; (with_reducible refine at_cw w ?_); refine (rnew_calls w).mono ?_; rintro e w1 ⟨rfl, hR1, hB, hs1⟩; have L1 : Aside0 (Later w w1) := ⟨hB⟩; clear hB; have R1 := Aside0.mk hR1 ; have S1 := Aside0.mk hs1 ; clear hR1 hs1)
    | (go_at_call 20; (with_reducible refine at_cw w1 ?_); refine (words_calls w1).mono ?_; rintro e w2 ⟨v2, rfl, hO, hB⟩; have L2 : Aside0 (Later w1 w2) := ⟨hB⟩; clear hB; have OW := Aside0.mk hO ; clear hO)
    | (go_at_call 13; (with_reducible refine at_cw w2 ?_); refine (few_new A1 n1 c1 xa 50 w2 (Kd.C_below H1.out (Later.trans L1.out L2.out)) hc1 hb1 (by omega) (by omega)).mono ?_; rintro e w3 ⟨BX, dX, X, rfl, E_X, hby, O_X, hd_X, hyl, R_X, hB⟩; have L3 : Aside0 (Later w2 w3) := ⟨hB⟩; have Y_X : Aside0 (Bytes X ∧ X.length ≤ 50) := ⟨hby, hyl⟩; have D_X := Aside0.mk hd_X; clear hB hby hyl hd_X))
  obtain ⟨BW, cW, rfl, hcW, hrW⟩ := OwW.reads OW.out
  rw [HL.out] at hcW hrW
  rw [HL.out] at OW
  rw [HL.out]
  have F : Aside0 (∀ wr, Far w1.heap.size w3 wr → RdB wr BX X.length X ∧ RdW wr BW 256 (WT 256)) := ⟨fun wr hf => ⟨hf.rd (Later.size L2.out) O_X.out, by
    have h3 := hf.own (Nat.le_refl _) (Kd.R_below OW.out L3.out)
    obtain ⟨A', c', e, hc', hr⟩ := OwW.reads h3
    rw [HL.out] at e hr
    injection e with e1 e2 e3
    rw [e1]
    exact hr⟩⟩
  have G : Aside0 (w.heap.size ≤ w.heap.size ∧ w.heap.size < w1.heap.size) := ⟨by rw [S1.out]; omega⟩
  have hI0 : GoInv w w3 w1.heap.size w.heap.size (midL X 0 0) w3 := ⟨R1.out.below (Later.trans L2.out L3.out), (Later.trans (Later.trans L1.out L2.out) L3.out), Far.refl _ _⟩
  have hxl := Y_X.out.2
  clear hrW
  go_loopw [8, 9, 10] (fun fr i _ wr => ∃ f k : Nat, f ≤ k ∧ k ≤ X.length ∧ fr = .int .i64 f ∧ i = .int .i64 k ∧ GoInv w w3 w1.heap.size w.heap.size (midL X f k) wr) (fun _ i _ _ => X.length - (intOf i).toNat)
  case atStart => exact ⟨0, 0, by omega, by omega, rfl, rfl, hI0⟩
  case round =>
    obtain ⟨f, k, hfk, hk, rfl, rfl, hI⟩ := hrel
    have I := Aside0.mk hI
    clear hI hI0 R1 O_X E_X
    by_cases hx : k < X.length
    · obtain ⟨ad, eX⟩ : ∃ ad, BX = some ad := by obtain ⟨ad, e, _⟩ := Kd.at_int R_X.out 0 (by omega) (by omega); exact ⟨ad, e⟩
      subst eX
      have hbx := Y_X.out.1.at_ (k : Int)
      have hlenm : ∀ f, f ≤ k → (midL X f k).length ≤ 1099511627776 := fun f hf => by rw [midL_len (by omega)]; omega
      have HLM := Aside0.mk hlenm
      clear hlenm
      by_cases hka : k = a
      · subst hka
        have TX := Aside0.mk (midL_snoc (xs := X) (Nat.le_refl k) hx)
        have HS := Aside0.mk (midL_self X k)
        have hcut := fun wr (hf : Far w1.heap.size w3 wr) => cutMid (F.out wr hf).1 D_X.out (k : Int) ((k : Int) + 1) (by omega) (by omega) (by omega)
        have hct := (hcut _ I.out.far).1
        have HC := Aside0.mk fun wr hf => (hcut wr hf).2
        clear hcut
        simp only [Int.toNat_natCast, Int.toNat_natCast_add_one] at hct HC
        generalize (if dX = k then some ad else Option.map (fun x => x.add k) (some ad)) = Ac at hct HC
        rw [show k + 1 - k = 1 by omega] at hct HC
        have hbm := Y_X.out.1.mid k (k + 1)
        rw [TX.out, HS.out, List.nil_append] at HC hbm
        have HBM := Aside0.mk hbm
        have HOV : Aside0 (hov ([] ++ [rd X k]) = hov [rd X k]) := ⟨rfl⟩
        clear hbm
        go_wp2_with (first
          | (go_at_call 16; refine (around_calls at_ 60 _ HN.out.1 HN.out.2 (by omega) (by omega)).mono ?_; rw [HA.out]; rintro e u0 ⟨rfl, rfl⟩)
          | (go_at_call 21; (with_reducible refine at_cw wr ?_); refine (reset_calls w.heap.size _ wr I.out.p).mono ?_; rintro e wa ⟨rfl, hP, oo, hS⟩; have J := Aside0.mk (I.out.on G.out.1 G.out.2 hP hS); have hcx := rdB_at (F.out wa J.out.far).1 k hx; clear hP hS)
          | (go_at_call 19; (with_reducible refine at_cw wa ?_); refine (rsum_calls w.heap.size [] wa J.out.p).mono ?_; rw [hov_nil]; rintro e u0 ⟨rfl, rfl⟩)
          | (go_at_call 18; (with_reducible refine at_cw wa ?_); refine (add_calls w.heap.size [] (rd X k) wa J.out.p (by simp) hbx.1 hbx.2).mono ?_; rw [HOV.out]; rintro e wb ⟨rfl, hP, oo2, hS⟩; have M := Aside0.mk (J.out.on G.out.1 G.out.2 hP hS); clear hP hS)
          | (go_at_call 22; (with_reducible refine at_cw wb ?_); refine (over_calls BW Ac cW 1 (dX - k) [rd X k] wb (F.out wb M.out.far).2 (HC.out wb M.out.far) HBM.out (by omega)).mono ?_; rintro e u0 ⟨rfl, rfl⟩)
          | (go_at_call 19; (with_reducible refine at_cw wb ?_); refine (rsum_calls w.heap.size ([] ++ [rd X k]) wb M.out.p).mono ?_; rw [HOV.out]; rintro e u0 ⟨rfl, rfl⟩))
        go_roundw
        case rel => exact ⟨k, k + 1, by omega, by omega, rfl, by go_num, by rw [TX.out, HS.out]; exact M.out⟩
        case measure => simp [intOf]; omega
      · have hka' : ((k : Int) == (a : Int)) = false := by rw [beq_eq_false_iff_ne]; omega
        have hkaI : ¬ (k : Int) = (a : Int) := by omega
        have TX := Aside0.mk (midL_snoc (xs := X) hfk hx)
        have hcut := fun wr (hf : Far w1.heap.size w3 wr) => cutMid (F.out wr hf).1 D_X.out (f : Int) ((k : Int) + 1) (by omega) (by omega) (by omega)
        have hct := (hcut _ I.out.far).1
        have HC := Aside0.mk fun wr hf => (hcut wr hf).2
        clear hcut
        have hcx := rdB_at (F.out wr I.out.far).1 k hx
        simp only [Int.toNat_natCast, Int.toNat_natCast_add_one] at hct HC
        generalize (if dX = f then some ad else Option.map (fun x => x.add f) (some ad)) = Ac at hct HC
        have hbm := Y_X.out.1.mid f (k + 1)
        have HLN := HLM.out f hfk
        rw [TX.out] at HC hbm
        have HBM := Aside0.mk hbm
        have HT1 := Aside0.mk TX.out
        clear hbm TX
        generalize midL X f k = Mx at *
        go_wp2_with (first
          | (go_at_call 16; refine (around_calls at_ 60 _ HN.out.1 HN.out.2 (by omega) (by omega)).mono ?_; rw [HA.out]; rintro e u0 ⟨rfl, rfl⟩)
          | (go_at_call 18; (with_reducible refine at_cw wr ?_); refine (add_calls w.heap.size Mx (rd X k) wr I.out.p HLN hbx.1 hbx.2).mono ?_; rintro e wb ⟨rfl, hP, oo2, hS⟩; have M := Aside0.mk (I.out.on G.out.1 G.out.2 hP hS); clear hP hS)
          | (go_at_call 22; (with_reducible refine at_cw wb ?_); refine (over_calls BW Ac cW (k + 1 - f) (dX - f) (Mx ++ [rd X k]) wb (F.out wb M.out.far).2 (HC.out wb M.out.far) HBM.out (by omega)).mono ?_; rintro e u0 ⟨rfl, rfl⟩)
          | (go_at_call 19; (with_reducible refine at_cw wb ?_); refine (rsum_calls w.heap.size (Mx ++ [rd X k]) wb M.out.p).mono ?_; rintro e u0 ⟨rfl, rfl⟩))
        go_roundw
        case rel => exact ⟨f, k + 1, by omega, by omega, rfl, by go_num, by rw [HT1.out]; exact M.out⟩
        case measure => simp [intOf]; omega
    · obtain rfl : k = X.length := by omega
      have L4 : Aside0 (Below w.heap.size w wr) := ⟨I.out.below⟩
      go_wp2_with (first
        | (go_at_call 12; (with_reducible refine at_cw wr ?_); refine (lives_calls wr).mono ?_; rintro e w5 ⟨rfl, hB⟩))
      go_ret
      exact ⟨rfl, L4.out.trans (hB.mono L4.out.size)⟩
end Go.Proofs.Yteknkhiibilbcaa
