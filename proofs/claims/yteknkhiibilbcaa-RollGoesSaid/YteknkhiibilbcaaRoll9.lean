/- The laws RollLast, RollJoins: their walks. Conditions: what each argument reads. -/
import Derived.Test.YteknkhiibilbcaaRoll8
import Derived.Test.YteknkhiibilbcaaFill
namespace Go.Proofs.Yteknkhiibilbcaa
open Go.RowKit Go.Proofs.YteknkhiibilbcaaW.PrintWords Go.Proofs.YteknkhiibilbcaaW.PrintMore
set_option linter.unusedVariables false
set_option linter.unusedSimpArgs false
theorem hov_tail (a t : List Int) (h : 16 ≤ t.length) : hov (a ++ t) = hov t := by
  unfold hov
  rw [List.length_append, show a.length + t.length - 16 = a.length + (t.length - 16) by omega, ← List.drop_drop, List.drop_left]
theorem rls_xr {a b : Int} (ha : 0 ≤ a ∧ a < 4294967296) (hb : 0 ≤ b ∧ b < 4294967296) : ∀ n, rls (xr a b) n = xr (rls a n) (rls b n)
  | 0 => rfl
  | n + 1 => by rw [rls, rls_xr ha hb n, rl_xr (rls_range ha n) (rls_range hb n)]; rfl
theorem rls_add (a : Int) (m : Nat) : ∀ n, rls (rls a m) n = rls a (m + n)
  | 0 => rfl
  | n + 1 => by rw [rls, rls_add a m n]; rfl
theorem rls_zero : ∀ n, rls 0 n = 0
  | 0 => rfl
  | n + 1 => by rw [rls, rls_zero n, rl_zero]
theorem hx_append (b : List Int) : ∀ a, hx (a ++ b) = xr (rls (hx a) b.length) (hx b)
  | [] => by
    show hx b = xr (rls 0 b.length) (hx b)
    rw [rls_zero, xr_zero (hx_range b)]
  | c :: t => by
    have hc := bword_range c
    have ht := hx_range t
    show xr (rls (bword c) (t ++ b).length) (hx (t ++ b)) = xr (rls (xr (rls (bword c) t.length) (hx t)) b.length) (hx b)
    rw [hx_append b t, rls_xr (rls_range hc _) ht, rls_add, List.length_append, xr_assoc (rls_range hc _) (rls_range ht _) (hx_range b)]
theorem hov_join (a b : List Int) (h : a.length + b.length ≤ 16) : hov (a ++ b) = xr (rls (hov a) b.length) (hov b) := by
  unfold hov
  rw [show (a ++ b).length - 16 = 0 by rw [List.length_append]; omega, show a.length - 16 = 0 by omega, show b.length - 16 = 0 by omega, List.drop_zero, List.drop_zero, List.drop_zero, hx_append]
theorem rhash_is (A : Option Addr) (n c : Nat) (xs : List Int) (w : World) (h : RdB w A n xs) (hb : Bytes xs) (hn : n ≤ 1099511627776) {v : Int} (hv : hov xs = v) :
    Calls Try.prog 11 #[.slice A n c] w fun e w' => e = .returned (.int .u32 v) ∧ Below w.heap.size w w' := by
  subst hv
  exact rhash_calls A n c xs w h hb hn
theorem rollLast_walk (A1 A2 A3 : Option Addr) (n1 c1 n2 c2 n3 c3 : Nat) (xa xb xc : List Int) (n : Int) (w : World) (h1 : RdB w A1 n1 xa) (hc1 : n1 ≤ c1) (hb1 : Bytes xa) (h2 : RdB w A2 n2 xb) (hc2 : n2 ≤ c2) (hb2 : Bytes xb) (h3 : RdB w A3 n3 xc) (hc3 : n3 ≤ c3) (hb3 : Bytes xc)
    (hn0 : -9223372036854775808 ≤ n) (hn1 : n ≤ 9223372036854775807) :
    Calls Try.prog 5 #[.slice A1 n1 c1, .slice A2 n2 c2, .slice A3 n3 c3, .int .i64 n] w fun e w' => e = .returned (.bool true) ∧ Below w.heap.size w w' := by
  have H1 := Aside0.mk h1
  have H2 := Aside0.mk h2
  obtain ⟨hr0, hr1⟩ := around_range n 15 (by omega)
  have HN := Aside0.mk (And.intro hn0 hn1)
  have hf := fillN_calls A3 n3 c3 xc (16 + around n 15) w h3 hb3 (by omega) (by omega)
  have ht := fun (X : List Int) => hov_tail X (fillL xc (16 + around n 15).toNat) (by rw [fillL_len]; omega)
  have hl := fillL_len xc (16 + around n 15).toNat
  have hby := fillL_bytes hb3 (16 + around n 15).toNat
  have hM : (16 + around n 15).toNat ≤ 30 := by omega
  generalize fillL xc (16 + around n 15).toNat = T at *
  generalize hm : (16 + around n 15).toNat = M at *
  subst hl
  obtain ⟨t, hov_t⟩ : ∃ t, hov T = t := ⟨_, rfl⟩
  rw [hov_t] at ht
  have HT := Aside0.mk ht
  have HT0 := Aside0.mk hov_t
  clear hov_t
  have HF := Aside0.mk hf
  have HBY := Aside0.mk hby
  clear h1 h2 h3 hn0 hn1 ht hf hby hm
  go_enter Try.func5, Try.ntmps5
  go_wp2_with (first
    | (go_at_call 16; (with_reducible refine at_cw w ?_); refine (around_calls n 15 w HN.out.1 HN.out.2 (by omega) (by omega)).mono ?_; rintro e u0 ⟨rfl, rfl⟩)
    | (go_at_call 15; (with_reducible refine at_cw w ?_); refine (HF.out).mono ?_; rintro e w1 ⟨B1, d1, rfl, O1, hd1, R1, hB⟩; have L1 : Aside0 (Later w w1) := ⟨hB⟩; clear hB)
    | (go_at_call 13; (with_reducible refine at_cw w1 ?_); refine (few_new A1 n1 c1 xa 20 w1 (Kd.C_below H1.out L1.out) hc1 hb1 (by omega) (by omega)).mono ?_; rintro e w2 ⟨BX, dX, X, rfl, E_X, hby, O_X, hd_X, hyl, R_X, hB⟩; have L2 : Aside0 (Later w1 w2) := ⟨hB⟩; have Y_X : Aside0 (Bytes X ∧ X.length ≤ 20) := ⟨hby, hyl⟩; have D_X := Aside0.mk hd_X; clear hB hby hyl hd_X)
    | (at_builtin; (with_reducible refine at_w w2 ?_); obtain ⟨U, hU⟩ : ∃ U, U = X ++ T := ⟨_, rfl⟩; refine appBs (w0 := w1) w1.heap.size rfl _ _ rfl (.slice BX X.length dX) X T B1 T.length d1 rfl rfl O_X.out (Kd.C_below R1.out L2.out) L2.out (Later.size L2.out) (by have := Y_X.out.2; omega) ?_; rw [← hU]; intro v w3 hO hB _ _; obtain ⟨BU, dU, rfl, hd, hr⟩ := OwB.reads hO; have E_U := Aside0.mk hU; have O_U := Aside0.mk hO; have R_U := Aside0.mk hr; have D_U := Aside0.mk hd; have L1_3 : Aside0 (Later w1 w3) := ⟨hB⟩; clear hU hO hB hr hd)
    | (go_at_call 13; (with_reducible refine at_cw w3 ?_); refine (few_new A2 n2 c2 xb 20 w3 (Kd.C_below H2.out (Later.trans L1.out L1_3.out)) hc2 hb2 (by omega) (by omega)).mono ?_; rintro e w4 ⟨BY, dY, Y, rfl, E_Y, hby, O_Y, hd_Y, hyl, R_Y, hB⟩; have L4 : Aside0 (Later w3 w4) := ⟨hB⟩; have Y_Y : Aside0 (Bytes Y ∧ Y.length ≤ 20) := ⟨hby, hyl⟩; have D_Y := Aside0.mk hd_Y; clear hB hby hyl hd_Y)
    | (at_builtin; (with_reducible refine at_w w4 ?_); obtain ⟨V, hU⟩ : ∃ U, U = Y ++ T := ⟨_, rfl⟩; refine appBs (w0 := w3) w3.heap.size rfl _ _ rfl (.slice BY Y.length dY) Y T B1 T.length d1 rfl rfl O_Y.out (Kd.C_below R1.out (Later.trans L1_3.out L4.out)) L4.out (Later.size L4.out) (by have := Y_Y.out.2; omega) ?_; rw [← hU]; intro v w5 hO hB _ _; obtain ⟨BV, dV, rfl, hd, hr⟩ := OwB.reads hO; have E_V := Aside0.mk hU; have O_V := Aside0.mk hO; have R_V := Aside0.mk hr; have D_V := Aside0.mk hd; have L3_5 : Aside0 (Later w3 w5) := ⟨hB⟩; clear hU hO hB hr hd)
    | (go_at_call 11; (with_reducible refine at_cw w5 ?_); refine (rhash_is BU U.length dU U w5 (Kd.C_below R_U.out L3_5.out) (by rw [E_U.out]; exact Y_X.out.1.append HBY.out) (by have := Y_X.out.2; rw [E_U.out, List.length_append]; omega) (v := t) (by rw [E_U.out]; exact HT.out _)).mono ?_; rintro e w6 ⟨rfl, hB⟩; have L6 : Aside0 (Later w5 w6) := ⟨hB⟩; clear hB)
    | (go_at_call 11; (with_reducible refine at_cw w6 ?_); refine (rhash_is BV V.length dV V w6 (Kd.C_below R_V.out L6.out) (by rw [E_V.out]; exact Y_Y.out.1.append HBY.out) (by have := Y_Y.out.2; rw [E_V.out, List.length_append]; omega) (v := t) (by rw [E_V.out]; exact HT.out _)).mono ?_; rintro e w7 ⟨rfl, hB⟩; have L7 : Aside0 (Later w6 w7) := ⟨hB⟩; clear hB)
    | (go_at_call 11; (with_reducible refine at_cw w7 ?_); refine (rhash_is BU U.length dU U w7 (Kd.C_below R_U.out (Later.trans (Later.trans L3_5.out L6.out) L7.out)) (by rw [E_U.out]; exact Y_X.out.1.append HBY.out) (by have := Y_X.out.2; rw [E_U.out, List.length_append]; omega) (v := t) (by rw [E_U.out]; exact HT.out _)).mono ?_; rintro e w8 ⟨rfl, hB⟩; have L8 : Aside0 (Later w7 w8) := ⟨hB⟩; clear hB)
    | (go_at_call 11; (with_reducible refine at_cw w8 ?_); refine (rhash_is B1 T.length d1 T w8 (Kd.C_below R1.out (Later.trans (Later.trans (Later.trans (Later.trans L1_3.out L3_5.out) L6.out) L7.out) L8.out)) HBY.out (by omega) HT0.out).mono ?_; rintro e w9 ⟨rfl, hB⟩; have L9 : Aside0 (Later w8 w9) := ⟨hB⟩; clear hB)
    | (go_at_call 12; (with_reducible refine at_cw w9 ?_); refine (lives_calls w9).mono ?_; rintro e w10 ⟨rfl, hB⟩; have L10 : Aside0 (Later w9 w10) := ⟨hB⟩; clear hB))
  go_ret
  exact ⟨rfl, (Later.trans (Later.trans (Later.trans (Later.trans (Later.trans (Later.trans (Later.trans L1.out L1_3.out) L3_5.out) L6.out) L7.out) L8.out) L9.out) L10.out)⟩
theorem rollJoins_walk (A1 A2 : Option Addr) (n1 c1 n2 c2 : Nat) (xa xb : List Int) (w : World) (h1 : RdB w A1 n1 xa) (hc1 : n1 ≤ c1) (hb1 : Bytes xa) (h2 : RdB w A2 n2 xb) (hc2 : n2 ≤ c2) (hb2 : Bytes xb) :
    Calls Try.prog 7 #[.slice A1 n1 c1, .slice A2 n2 c2] w fun e w' => e = .returned (.bool true) ∧ Below w.heap.size w w' := by
  have H1 := Aside0.mk h1
  have H2 := Aside0.mk h2
  clear h1 h2
  go_enter Try.func7, Try.ntmps7
  go_wp2_with (first
    | (go_at_call 13; (with_reducible refine at_cw w ?_); refine (few_new A1 n1 c1 xa 8 w H1.out hc1 hb1 (by omega) (by omega)).mono ?_; rintro e w1 ⟨BX, dX, X, rfl, E_X, hby, O_X, hd_X, hyl, R_X, hB⟩; have L1 : Aside0 (Later w w1) := ⟨hB⟩; have Y_X : Aside0 (Bytes X ∧ X.length ≤ 8) := ⟨hby, hyl⟩; have D_X := Aside0.mk hd_X; clear hB hby hyl hd_X)
    | (go_at_call 13; (with_reducible refine at_cw w1 ?_); refine (few_new A2 n2 c2 xb 8 w1 (Kd.C_below H2.out L1.out) hc2 hb2 (by omega) (by omega)).mono ?_; rintro e w2 ⟨BY, dY, Y, rfl, E_Y, hby, O_Y, hd_Y, hyl, R_Y, hB⟩; have L2 : Aside0 (Later w1 w2) := ⟨hB⟩; have Y_Y : Aside0 (Bytes Y ∧ Y.length ≤ 8) := ⟨hby, hyl⟩; have D_Y := Aside0.mk hd_Y; clear hB hby hyl hd_Y)
    | (go_at_call 11; (with_reducible refine at_cw w2 ?_); refine (rhash_calls BX X.length dX X w2 (Kd.C_below R_X.out L2.out) Y_X.out.1 (by have := Y_X.out.2; omega)).mono ?_; rintro e w3 ⟨rfl, hB⟩; have L3 : Aside0 (Later w2 w3) := ⟨hB⟩; clear hB))
  have HX := hov_range X
  have HJ : Aside0 (hov (X ++ Y) = xr (rls (hov X) Y.length) (hov Y)) := ⟨hov_join X Y (by have := Y_X.out.2; have := Y_Y.out.2; omega)⟩
  have hYl := Y_Y.out.2
  generalize hov X = hX at *
  go_loopw [7, 8] (fun y i wr => ∃ j : Nat, j ≤ Y.length ∧ i = .int .i64 j ∧ y = .int .u32 (rls hX j) ∧ w3 = wr) (fun _ i _ => Y.length - (intOf i).toNat)
  case atStart => exact ⟨0, by omega, rfl, rfl, rfl⟩
  case round =>
    obtain ⟨j, hj, rfl, rfl, rfl⟩ := hrel
    by_cases hlt : j < Y.length
    · have hy := rls_range HX j
      have HR : Aside0 (rls hX (j + 1) = rl (rls hX j)) := ⟨rfl⟩
      generalize rls hX j = y at *
      go_wp2
      go_roundw
      case rel => exact ⟨j + 1, by omega, by go_num, by rw [HR.out, rl_eq y hy], trivial⟩
      case measure => simp [intOf]; omega
    · obtain rfl : j = Y.length := by omega
      have E_X' := E_X
      go_wp2_with (first
        | (go_at_call 13; (with_reducible refine at_cw w3 ?_); refine (few_new A1 n1 c1 xa 8 w3 (Kd.C_below H1.out (Later.trans (Later.trans L1.out L2.out) L3.out)) hc1 hb1 (by omega) (by omega)).mono ?_; rintro e w4 ⟨BZ, dZ, Z, rfl, E_Z, hby, O_Z, hd_Z, hyl, R_Z, hB⟩; have L4 : Aside0 (Later w3 w4) := ⟨hB⟩; have Y_Z : Aside0 (Bytes Z ∧ Z.length ≤ 8) := ⟨hby, hyl⟩; have D_Z := Aside0.mk hd_Z; clear hB hby hyl hd_Z)
        | (at_builtin; (with_reducible refine at_w w4 ?_); obtain ⟨U, hU⟩ : ∃ U, U = Z ++ Y := ⟨_, rfl⟩; refine appBs (w0 := w3) w3.heap.size rfl _ _ rfl (.slice BZ Z.length dZ) Z Y BY Y.length dY rfl rfl O_Z.out (Kd.C_below R_Y.out (Later.trans L3.out L4.out)) L4.out (Later.size L4.out) (by have := Y_Z.out.2; have := Y_Y.out.2; omega) ?_; rw [← hU]; intro v w5 hO hB _ _; obtain ⟨BU, dU, rfl, hd, hr⟩ := OwB.reads hO; have E_U := Aside0.mk hU; have O_U := Aside0.mk hO; have R_U := Aside0.mk hr; have D_U := Aside0.mk hd; have L3_5 : Aside0 (Later w3 w5) := ⟨hB⟩; clear hU hO hB hr hd)
        | (go_at_call 11; (with_reducible refine at_cw w5 ?_); refine (rhash_is BU U.length dU U w5 R_U.out (by rw [E_U.out]; exact Y_Z.out.1.append Y_Y.out.1) (by have := Y_Z.out.2; have := Y_Y.out.2; rw [E_U.out, List.length_append]; omega) (v := xr (rls hX Y.length) (hov Y)) (by rw [E_U.out, show Z = X by rw [E_Z.out, E_X.out]]; exact HJ.out)).mono ?_; rintro e w6 ⟨rfl, hB⟩; have L6 : Aside0 (Later w5 w6) := ⟨hB⟩; clear hB)
        | (go_at_call 11; (with_reducible refine at_cw w6 ?_); refine (rhash_calls BY Y.length dY Y w6 (Kd.C_below R_Y.out (Later.trans (Later.trans L3.out L3_5.out) L6.out)) Y_Y.out.1 (by have := Y_Y.out.2; omega)).mono ?_; rintro e w7 ⟨rfl, hB⟩; have L7 : Aside0 (Later w6 w7) := ⟨hB⟩; clear hB)
        | (go_at_call 12; (with_reducible refine at_cw w7 ?_); refine (lives_calls w7).mono ?_; rintro e w8 ⟨rfl, hB⟩; have L8 : Aside0 (Later w7 w8) := ⟨hB⟩; clear hB))
      go_ret
      exact ⟨rfl, (Later.trans (Later.trans (Later.trans (Later.trans (Later.trans (Later.trans L1.out L2.out) L3.out) L3_5.out) L6.out) L7.out) L8.out)⟩
end Go.Proofs.Yteknkhiibilbcaa
