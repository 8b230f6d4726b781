/- The law LzLiterals: its walk. Conditions: what each argument reads. -/
import Derived.Test.YtnohkhaagkkhjaaLz11
namespace Go.Proofs.Ytnohkhaagkkhjaa
open Go.RowKit Go.Shelf Go.Proofs.YtnohkhaagkkhjaaW.PrintWords Go.Proofs.YtnohkhaagkkhjaaW.PrintMore
attribute [local go_sem] max2_int min2_int max_two min_two
set_option linter.unusedVariables false
set_option linter.unusedSimpArgs false
/-- P's tokens make the first n bytes. -/
def LitsTo (L P : List Int) (n : Nat) : Prop := ∀ (most : Int) (q : List Int), (n : Int) ≤ most → unpR most (P ++ q) [] = unpR most q (L.take n)
theorem LitsTo.start (L : List Int) : LitsTo L [] 0 := fun _ _ _ => rfl
theorem LitsTo.step {L P : List Int} {n m : Nat} (h : LitsTo L P n) (h1 : 1 ≤ m) (h2 : m ≤ 128) (hl : n + m ≤ L.length) : LitsTo L (P ++ [(m : Int) - 1] ++ midL L n (n + m)) (n + m) := fun most q hm => by
  have hml : (midL L n (n + m)).length = m := by rw [midL_len hl]; omega
  have hn : (L.take n).length = n := by rw [List.length_take]; omega
  rw [List.append_assoc, List.append_assoc, h most _ (by omega), List.singleton_append]
  have hq : ((m : Int) - 1) :: (midL L n (n + m) ++ q) ≠ [] := by simp
  rw [unpR_step hq (tk_lit h1 h2 hml q) (by omega) (by omega), grow_lit hml, drop_lit hml, take_mid (by omega) hl]
theorem lits_tok {L P : List Int} {F G : Nat} (h : LitsTo L P L.length) (h1 : 4 ≤ G) (h2 : G ≤ 131) (h3 : 1 ≤ F) (h4 : F ≤ 1024) (h5 : F ≤ L.length) :
    unp (((L.length + G : Nat) : Int)) (P ++ tok ((G : Int), (F : Int))) = ⟨rep F G L, 0⟩ ∧ unp ((L.length : Int) + (G : Int) - 1) (P ++ tok ((G : Int), (F : Int))) = ⟨[], 3⟩ := by
  have hq : tok ((G : Int), (F : Int)) ≠ [] := by simp [tok]
  have ht := tk_tok h1 h2 h3 h4 []
  rw [List.append_nil] at ht
  constructor
  · unfold unp
    rw [h _ _ (by omega), List.take_length, unpR_step hq ht (by omega) (by omega)]
    have hg : growU (tok ((G : Int), (F : Int))) L (3, G, F) = rep F G L := by unfold growU; rw [if_neg (by show ¬ F = 0; omega)]
    rw [hg]
    exact unpR_nil
  · unfold unp
    rw [h _ _ (by omega), List.take_length, unpR_range hq ht (by omega) (by omega)]
structure LtI (w : World) (L : List Int) (n i : Nat) (v : Value) (wr : World) : Prop where
  ex : ∃ P, MadeI w v P wr ∧ LitsTo L P n ∧ P.length ≤ 2 * n
  le : n ≤ L.length
  ie : i ≤ n
set_option maxRecDepth 20000 in
set_option maxHeartbeats 3200000 in
theorem lzLiterals_walk (A1 A2 : Option Addr) (n1 c1 n2 c2 : Nat) (xb xl : List Int) (d n : Int) (w : World) (h1 : RdB w A1 n1 xb) (hc1 : n1 ≤ c1) (hb1 : Bytes xb) (h2 : RdN w A2 n2 xl) (h2r : ∀ x ∈ xl, -9223372036854775808 ≤ x ∧ x ≤ 9223372036854775807)
    (hd0 : -9223372036854775808 ≤ d) (hd1 : d ≤ 9223372036854775807) (hn0 : -9223372036854775808 ≤ n) (hn1 : n ≤ 9223372036854775807) :
    Calls Try.prog 6 #[.slice A1 n1 c1, .slice A2 n2 c2, .int .i64 d, .int .i64 n] w fun e w' => e = .returned (.bool true) ∧ Below w.heap.size w w' := by
  have H1 := Aside0.mk h1
  have H2 := Aside0.mk h2
  have HD := Aside0.mk (And.intro hd0 hd1)
  have HN := Aside0.mk (And.intro hn0 hn1)
  have hl2 : xl.length = n2 := h2.1
  have H2R := Aside0.mk h2r
  obtain ⟨hmax0, hmax, _⟩ := Kd.reads_of_C (d := (0 : Int)) h2
  clear h1 h2 hd0 hd1 hn0 hn1 h2r hmax0
  go_enter Try.func6, Try.ntmps6
  go_wp2_with (first
    | (go_at_call 9; (with_reducible refine at_cw w ?_); refine (few_new A1 n1 c1 xb 120 w H1.out hc1 hb1 (by omega) (by omega)).mono ?_; rintro e w1 ⟨BX, dX, X, rfl, E_X, hby, O_X, hd_X, hyl, R_X, hB⟩; have L1 : Aside0 (Later w w1) := ⟨hB⟩; have Y_X : Aside0 (Bytes X ∧ X.length ≤ 120) := ⟨hby, hyl⟩; have D_X := Aside0.mk hd_X; clear hB hby hyl hd_X)
    | (at_builtin; refine appB (w0 := w) w.heap.size rfl (.tmp 23) (.tmp 24) rfl _ _ 7 rfl rfl O_X.out L1.out (Later.size L1.out) (by have := Y_X.out.2; omega) ?_; intro v2 w2 hO2 hB2 _ _))
  obtain ⟨L, hL⟩ : ∃ L, L = X ++ [7] := ⟨_, rfl⟩
  rw [← hL] at hO2
  have hLl : L.length = X.length + 1 := by rw [hL, List.length_append, List.length_singleton]
  have hLb : Bytes L := by rw [hL]; exact Y_X.out.1.append (Bytes.one (by omega) (by omega))
  have hxl := Y_X.out.2
  obtain ⟨BL, dL, rfl, hdL, hrL⟩ := hO2.reads
  have GL := Aside0.mk (OwB.gv hO2 hLb (by omega : L.length ≤ 121))
  have L2 : Aside0 (Later w w2) := ⟨hB2⟩
  have hLn : L.length ≤ 121 := by omega
  have hL1 : 1 ≤ L.length := by omega
  clear hO2 hB2 hrL hL hLl hxl O_X R_X E_X Y_X D_X L1
  go_loopw [10, 11, 12, 13] (fun p t i _ wr => ∃ tn iN : Nat, t = .int .i64 tn ∧ i = .int .i64 iN ∧ LtI w2 L tn iN p wr) (fun _ t _ _ _ => L.length - (intOf t).toNat)
  case atStart => exact ⟨0, 0, rfl, rfl, ⟨[], ⟨Kd.R_nil _ _ _ _ _, Bytes.nil, Below.refl _ _⟩, LitsTo.start L, by simp⟩, by omega, by omega⟩
  case round =>
    obtain ⟨t, i, rfl, rfl, ⟨P, hM, hLT, hPl⟩, htL, hit⟩ := hrel
    obtain ⟨BP, dP, rfl, hdP, hrP⟩ := hM.own.reads
    have HM := Aside0.mk hM
    have HLT := Aside0.mk hLT
    clear hM hLT hrP
    by_cases ht : t < L.length
    · have htI : (t : Int) < (L.length : Int) := by omega
      by_cases hz : 0 < n2
      · have hzI : (0 : Int) < (n2 : Int) := by omega
        have hmz : ((n2 : Int) == 0) = false := by rw [beq_eq_false_iff_ne]; omega
        have e1 : ((i : Int).tmod (n2 : Int)) = ((i % n2 : Nat) : Int) := by rw [Int.tmod_eq_emod_of_nonneg (by omega)]; rfl
        have hr : i % n2 < n2 := Nat.mod_lt _ hz
        obtain ⟨ad, ea⟩ : ∃ ad, A2 = some ad := by obtain ⟨ad, e, _⟩ := (Kd.reads_of_C (d := (0 : Int)) H2.out).2.2 (by omega); exact ⟨ad, e⟩
        subst ea
        have hcell := rdN_at (Kd.C_below H2.out (Later.trans L2.out HM.out.below)) (i % n2) hr
        have hxr := H2R.out (xl.getD (i % n2) 0) (by rw [List.getD_eq_getElem?_getD, List.getElem?_eq_getElem (by omega)]; exact List.getElem_mem _)
        generalize xl.getD (i % n2) 0 = x at *
        generalize i % n2 = ir at *
        have hac := fun (w : World) => around_calls x 20 w hxr.1 hxr.2 (by omega) (by omega)
        obtain ⟨hr0, hr1⟩ := around_range x 20 (by omega)
        obtain ⟨a, ha⟩ := Int.eq_ofNat_of_zero_le hr0
        rw [ha] at hr1
        simp only [ha] at hac
        have HAC := Aside0.mk hac
        clear hac hr0 ha hxr
        obtain ⟨m, hm⟩ : ∃ m, m = min (1 + a) (L.length - t) := ⟨_, rfl⟩
        have hmI : (if (L.length : Int) - (t : Int) < 1 + (a : Int) then (L.length : Int) - (t : Int) else 1 + (a : Int)) = (m : Int) := by split <;> omega
        have hm1 : 1 ≤ m ∧ m ≤ 20 ∧ t + m ≤ L.length := by omega
        obtain ⟨B3, c3, hmid, hr3⟩ : ∃ B3 c3, (∀ W : World, (Instr.slice 22 (.slice BL L.length dL) (some (.int .i64 (t : Int))) (some (.int .i64 ((t : Int) + (m : Int)))) none).run Try.prog W = .ok (.slice B3 m c3) W) ∧ RdB w2 B3 m (midL L t (t + m)) := by
          have := cutMid GL.out.rd GL.out.le (t : Int) ((t : Int) + (m : Int)) (by omega) (by omega) (by omega)
          rw [show ((t : Int) + (m : Int)).toNat = t + m by omega, Int.toNat_natCast, show t + m - t = m by omega] at this
          exact ⟨_, _, this⟩
        have HR3 := Aside0.mk hr3
        have HST := Aside0.mk (HLT.out.step (m := m) (by omega) (by omega) (by omega))
        have hml : (midL L t (t + m)).length = m := by rw [midL_len (by omega)]; omega
        have HPL : Aside0 ((P ++ [(m : Int) - 1] ++ midL L t (t + m)).length ≤ 2 * (t + m)) := ⟨by rw [List.length_append, List.length_append, List.length_singleton, hml]; omega⟩
        have hpl : P.length ≤ 300 := by omega
        clear hr3 hm hml hPl
        go_wp2_with (first
          | (go_at_call 17; (with_reducible refine at_cw wr ?_); refine (HAC.out wr).mono ?_; rintro e u0 ⟨rfl, rfl⟩)
          | (at_builtin; refine appB (w0 := w2) w2.heap.size rfl (.tmp 50) (.tmp 54) rfl _ _ _ rfl rfl HM.out.own HM.out.below HM.out.below.size (by omega) ?_; intro v5 w5 hO5 hB5 _ _; have HO5 := Aside0.mk hO5; have HB5 := Aside0.mk hB5; clear hO5 hB5)
          | (at_builtin; refine appBs (w0 := w2) w2.heap.size rfl (.tmp 56) (.tmp 62) rfl v5 (P ++ [(m : Int) - 1]) (midL L t (t + m)) B3 m c3 rfl rfl HO5.out (Kd.C_below HR3.out HB5.out) HB5.out HB5.out.size (by rw [List.length_append, List.length_singleton]; omega) ?_; intro v6 w6 hO6 hB6 _ _))
        go_roundw
        case rel =>
          exact ⟨t + m, i + 1, by go_num, by go_num, ⟨_, ⟨hO6, (HM.out.by_.append (Bytes.one (by omega) (by omega))).append (GL.out.by_.mid t (t + m)), hB6⟩, HST.out, HPL.out⟩, by omega, by omega⟩
        case measure => simp [intOf]; omega
      · have hzI : ¬ (0 : Int) < (n2 : Int) := by omega
        obtain ⟨m, hm⟩ : ∃ m, m = min 20 (L.length - t) := ⟨_, rfl⟩
        have hmI : (if (L.length : Int) - (t : Int) < 20 then (L.length : Int) - (t : Int) else 20) = (m : Int) := by split <;> omega
        have hm1 : 1 ≤ m ∧ m ≤ 20 ∧ t + m ≤ L.length := by omega
        obtain ⟨B3, c3, hmid, hr3⟩ : ∃ B3 c3, (∀ W : World, (Instr.slice 22 (.slice BL L.length dL) (some (.int .i64 (t : Int))) (some (.int .i64 ((t : Int) + (m : Int)))) none).run Try.prog W = .ok (.slice B3 m c3) W) ∧ RdB w2 B3 m (midL L t (t + m)) := by
          have := cutMid GL.out.rd GL.out.le (t : Int) ((t : Int) + (m : Int)) (by omega) (by omega) (by omega)
          rw [show ((t : Int) + (m : Int)).toNat = t + m by omega, Int.toNat_natCast, show t + m - t = m by omega] at this
          exact ⟨_, _, this⟩
        have HR3 := Aside0.mk hr3
        have HST := Aside0.mk (HLT.out.step (m := m) (by omega) (by omega) (by omega))
        have hml : (midL L t (t + m)).length = m := by rw [midL_len (by omega)]; omega
        have HPL : Aside0 ((P ++ [(m : Int) - 1] ++ midL L t (t + m)).length ≤ 2 * (t + m)) := ⟨by rw [List.length_append, List.length_append, List.length_singleton, hml]; omega⟩
        have hpl : P.length ≤ 300 := by omega
        clear hr3 hm hml hPl
        go_wp2_with (first
          | (at_builtin; refine appB (w0 := w2) w2.heap.size rfl (.tmp 50) (.tmp 54) rfl _ _ _ rfl rfl HM.out.own HM.out.below HM.out.below.size (by omega) ?_; intro v5 w5 hO5 hB5 _ _; have HO5 := Aside0.mk hO5; have HB5 := Aside0.mk hB5; clear hO5 hB5)
          | (at_builtin; refine appBs (w0 := w2) w2.heap.size rfl (.tmp 56) (.tmp 62) rfl v5 (P ++ [(m : Int) - 1]) (midL L t (t + m)) B3 m c3 rfl rfl HO5.out (Kd.C_below HR3.out HB5.out) HB5.out HB5.out.size (by rw [List.length_append, List.length_singleton]; omega) ?_; intro v6 w6 hO6 hB6 _ _))
        go_roundw
        case rel =>
          exact ⟨t + m, i + 1, by go_num, by go_num, ⟨_, ⟨hO6, (HM.out.by_.append (Bytes.one (by omega) (by omega))).append (GL.out.by_.mid t (t + m)), hB6⟩, HST.out, HPL.out⟩, by omega, by omega⟩
        case measure => simp [intOf]; omega
    · have htI : ¬ (t : Int) < (L.length : Int) := by omega
      obtain rfl : t = L.length := by omega
      have had := fun (w : World) => around_calls d (L.length : Int) w HD.out.1 HD.out.2 (by omega) (by omega)
      obtain ⟨hd0, hd1⟩ := around_range d (L.length : Int) (by omega)
      obtain ⟨fa, hfa⟩ := Int.eq_ofNat_of_zero_le hd0
      rw [hfa] at hd1
      simp only [hfa] at had
      have HAD := Aside0.mk had
      clear had hd0 hfa
      have han := fun (w : World) => around_calls n 128 w HN.out.1 HN.out.2 (by omega) (by omega)
      obtain ⟨hn0, hn1⟩ := around_range n 128 (by omega)
      obtain ⟨la, hla⟩ := Int.eq_ofNat_of_zero_le hn0
      rw [hla] at hn1
      simp only [hla] at han
      have HAN := Aside0.mk han
      clear han hn0 hla
      obtain ⟨F, hF⟩ : ∃ F : Nat, 1 + (fa : Int) = (F : Int) := ⟨1 + fa, by omega⟩
      obtain ⟨G, hG⟩ : ∃ G : Nat, 4 + (la : Int) = (G : Int) := ⟨4 + la, by omega⟩
      have hFb : 1 ≤ F ∧ F ≤ L.length := by omega
      have hGb : 4 ≤ G ∧ G ≤ 131 := by omega
      have HU := Aside0.mk (lits_tok HLT.out hGb.1 hGb.2 hFb.1 (by omega) hFb.2)
      have e1 : ((F : Int) - 1).tmod 256 = ((F : Int) - 1) % 256 := Int.tmod_eq_emod_of_nonneg (by omega)
      have e2 : ((F : Int) - 1).tdiv 256 = ((F : Int) - 1) / 256 := Int.tdiv_eq_ediv_of_nonneg (by omega)
      go_wp2_with (first
        | (go_at_call 17; (with_reducible refine at_cw wr ?_); with_reducible refine (HAD.out wr).mono ?_; rintro e u0 ⟨rfl, rfl⟩)
        | (go_at_call 17; (with_reducible refine at_cw wr ?_); with_reducible refine (HAN.out wr).mono ?_; rintro e u0 ⟨rfl, rfl⟩)
        | (at_builtin; refine appBs (w0 := w2) w2.heap.size rfl (.tmp 75) (.tmp 87) rfl (.slice BP P.length dP) P [124 + (G : Int), ((F : Int) - 1) % 256, ((F : Int) - 1) / 256] (some ⟨wr.heap.size, 0, none⟩) 3 3 rfl rfl (HM.out.own.below (below_alloc (Later.refl _) _)) (rd_lit wr _ _ _ _ rfl rfl (by simp)) (below_alloc HM.out.below _) (by have := HM.out.below.size; simp; omega) (by omega) ?_; intro v5 w5 hO5 hB5 _ _; have HO5 := Aside0.mk hO5; have L5 : Aside0 (Later w2 w5) := ⟨hB5⟩; clear hO5 hB5)
        | (go_at_call 9; (with_reducible refine at_cw w5 ?_); refine (few_new BL L.length dL L 200 w5 (Kd.C_below GL.out.rd L5.out) GL.out.le GL.out.by_ (by omega) (by omega)).mono ?_; rintro e w6 ⟨BZ, dZ, Z, rfl, E_Z, hbz, O_Z, hdz, hlz, R_Z, hB⟩; have L6 : Aside0 (Later w5 w6) := ⟨hB⟩; clear hB))
      have hZ : L = Z := by rw [E_Z.out]; exact (List.take_of_length_le (by omega)).symm
      subst hZ
      have M6 : Aside0 (MadeI w5 (.slice BZ L.length dZ) L w6) := ⟨⟨O_Z.out, hbz, L6.out⟩⟩
      obtain ⟨PT, hPT⟩ : ∃ PT, PT = P ++ [124 + (G : Int), ((F : Int) - 1) % 256, ((F : Int) - 1) / 256] := ⟨_, rfl⟩
      have hPTl : PT.length ≤ 400 := by rw [hPT, List.length_append]; simp; omega
      have hPTb : Bytes PT := by
        rw [hPT]
        refine HM.out.by_.append ?_
        intro x hx
        simp only [List.mem_cons, List.not_mem_nil, or_false] at hx
        rcases hx with rfl | rfl | rfl <;> omega
      have hu1 := HU.out.1
      have hu2 := HU.out.2
      have htok : P ++ tok ((G : Int), (F : Int)) = PT := hPT.symm
      rw [htok] at hu1 hu2
      have HU1 := Aside0.mk hu1
      have HU2 := Aside0.mk hu2
      have hO5' := HO5.out
      rw [← hPT] at hO5'
      obtain ⟨B5, d5, rfl, hd5, hr5⟩ := hO5'.reads
      have HR5 := Aside0.mk hr5
      have HPB := Aside0.mk hPTb
      clear hu1 hu2 htok hr5 hO5' hPT HU HO5 e1 e2 hF hG HAD HAN hd1 hn1 HLT hPl hPTb hmax
      go_loopw [16, 17] (fun v k wq => ∃ (t : Nat) (ys : List Int), t ≤ G ∧ k = .int .i64 t ∧ ys.length = L.length + t ∧ rep F (G - t) ys = rep F G L ∧ MadeI w5 v ys wq) (fun _ k _ => G - (intOf k).toNat)
      case atStart => exact ⟨0, L, by omega, rfl, rfl, rfl, M6.out⟩
      case round =>
        obtain ⟨t, ys, ht, rfl, hys, hrp, hMy⟩ := hrel
        obtain ⟨B4, d4, rfl, hd4, hr4⟩ := hMy.own.reads
        have HMy := Aside0.mk hMy
        have HR4 := Aside0.mk hr4
        have HRP := Aside0.mk hrp
        have HYS := Aside0.mk hys
        have hyl : ys.length ≤ 300 := by omega
        clear hMy hr4 hrp
        by_cases htm : t < G
        · have htI : (t : Int) < (G : Int) := by omega
          obtain ⟨x, hx⟩ : ∃ x : Nat, x + F = ys.length := ⟨ys.length - F, by omega⟩
          have hxI : (ys.length : Int) - (F : Int) = (x : Int) := by omega
          have hxl : x < ys.length := by omega
          obtain ⟨ay, ey⟩ : ∃ ad, B4 = some ad := by obtain ⟨ad, e, _⟩ := Kd.at_int HR4.out 0 (by omega) (by omega); exact ⟨ad, e⟩
          subst ey
          have hcy := rdB_at HR4.out x hxl
          have HRS : Aside0 (rep F (G - (t + 1)) (ys ++ [rd ys (x : Int)]) = rep F G L) := ⟨by
            rw [← HRP.out, show G - t = (G - (t + 1)) + 1 by omega, rep, show ys.length - F = x by omega]⟩
          have hxy := HMy.out.by_.at_ (x : Int)
          clear hys
          generalize rd ys (x : Int) = y at *
          go_wp2_with (at_builtin; refine appB (w0 := w5) w5.heap.size rfl (.tmp 96) (.tmp 104) rfl _ _ _ rfl rfl HMy.out.own HMy.out.below HMy.out.below.size (by omega) ?_; intro v7 w7 hO7 hB7 _ _)
          go_roundw
          case rel => exact ⟨t + 1, _, by omega, by go_num, by rw [List.length_append, List.length_singleton, HYS.out]; omega, HRS.out, ⟨hO7, HMy.out.by_.append (Bytes.one hxy.1 hxy.2), hB7⟩⟩
          case measure => simp [intOf]; omega
        · have htI : ¬ (t : Int) < (G : Int) := by omega
          obtain rfl : t = G := by omega
          have hrp := HRP.out
          rw [Nat.sub_self, rep] at hrp
          rw [← hrp, ← hys] at HU1
          have HU2' : Aside0 (unp ((ys.length : Int) - 1) PT = ⟨[], 3⟩) := ⟨by rw [hys]; exact HU2.out⟩
          have L4 : Aside0 (Later w5 wr) := ⟨HMy.out.below⟩
          clear hys hrp HRP HU2
          go_wp2_with (first
            | (go_at_call 15; (with_reducible refine at_cw wr ?_); refine (unpack_calls B5 PT.length d5 PT (ys.length : Int) wr (Kd.C_below HR5.out L4.out) HPB.out hd5 (by omega)).mono ?_; rw [HU1.out]; rintro e w7 hp; obtain ⟨AX, dX, rfl, _, hrX, hbX, hdX, hB⟩ := hp.get; have L7 : Aside0 (Later wr w7) := ⟨hB⟩; have RX := Aside0.mk hrX; clear hp hB hrX)
            | (go_at_call 15; (with_reducible refine at_cw w7 ?_); refine (unpack_calls B5 PT.length d5 PT ((ys.length : Int) - 1) w7 (Kd.C_below HR5.out (Later.trans L4.out L7.out)) HPB.out hd5 (by omega)).mono ?_; rw [HU2'.out]; rintro e w8 hp; obtain ⟨AE, dE, rfl, _, _, _, _, hB⟩ := hp.get; have L8 : Aside0 (Later w7 w8) := ⟨hB⟩; have hs1 := conv_str (Kd.C_below RX.out L8.out) dX; have hs2 := conv_str (Kd.C_below HR4.out (Later.trans L7.out L8.out)) d4; clear hp hB)
            | (go_at_call 13; (with_reducible refine at_cw w8 ?_); refine (lives_calls w8).mono ?_; rintro e w9 ⟨rfl, hB⟩; have L9 : Aside0 (Later w8 w9) := ⟨hB⟩; clear hB))
          (try simp only [Exit.inBlock, Exit.then])
          refine bodyPost_ret (results_tmp rfl _ _ _) rfl ⟨rfl, ?_⟩
          exact Later.trans L2.out (Later.trans L5.out (Later.trans L4.out (Later.trans L7.out (Later.trans L8.out L9.out))))
end Go.Proofs.Ytnohkhaagkkhjaa
