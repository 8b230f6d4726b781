/- The law FrameOthers: its walk. Conditions: what each argument reads. -/
import Derived.Test.YtcbcoaafdggniaaFrm13
import Derived.Test.YtcbcoaafdggniaaFrm12
namespace Go.Proofs.Ytcbcoaafdggniaa
open Go.RowKit Go.Shelf Go.Proofs.YtcbcoaafdggniaaW.PrintWords Go.Proofs.YtcbcoaafdggniaaW.PrintMore
set_option linter.unusedVariables false
set_option linter.unusedSimpArgs false
/-- Each byte as a literal of its own. -/
def lits1 (X : List Int) : Nat → List Int
  | 0 => []
  | j + 1 => lits1 X j ++ [0, rd X (j : Int)]
theorem lits1_len (X : List Int) : ∀ j, (lits1 X j).length = 2 * j
  | 0 => rfl
  | j + 1 => by simp only [lits1, List.length_append, lits1_len X j, List.length_cons, List.length_nil]; omega
theorem lits1_bytes {X : List Int} (hb : Bytes X) : ∀ j, Bytes (lits1 X j)
  | 0 => Bytes.nil
  | j + 1 => (lits1_bytes hb j).append (fun x hx => by
    have := hb.at_ (j : Int)
    simp at hx
    omega)
theorem lits1_unp {X : List Int} (most : Int) (q : List Int) : ∀ j, j ≤ X.length → (j : Int) ≤ most → unpR most (lits1 X j ++ q) [] = unpR most q (X.take j)
  | 0, _, _ => rfl
  | j + 1, hj, hm => by
    have hn : (X.take j).length = j := by rw [List.length_take]; omega
    show unpR most (lits1 X j ++ [0, rd X (j : Int)] ++ q) [] = _
    rw [List.append_assoc, lits1_unp most _ j (by omega) (by omega)]
    have ht := tk_lit (m := 1) (by omega) (by omega) (l := [rd X (j : Int)]) rfl q
    rw [show [0, rd X (j : Int)] ++ q = (((1 : Nat) : Int) - 1) :: ([rd X (j : Int)] ++ q) from rfl]
    rw [unpR_step (by simp) ht (by omega) (by omega), grow_lit (m := 1) (l := [rd X (j : Int)]) rfl, drop_lit (m := 1) (l := [rd X (j : Int)]) rfl, ← take_next (by omega)]
theorem lits1_all (X : List Int) : unp X.length (lits1 X X.length) = ⟨X, 0⟩ := by
  have h := lits1_unp (X := X) (X.length : Int) [] X.length (Nat.le_refl _) (Int.le_refl _)
  rw [List.append_nil, List.take_length] at h
  exact h
/-- A row: it opens to X, it is packed or not. -/
structure FrO (w : World) (X : List Int) (pb : Bool) (B : Option Addr) (d : Nat) (F : List Int) : Prop where
  rd : RdB w B F.length F
  le : F.length ≤ d
  by_ : Bytes F
  len : F.length ≤ 600
  op : openL 100 F = ⟨X, 0⟩
  pk : packedB F = pb
theorem FrO.later {w w1 : World} {X F : List Int} {pb : Bool} {B : Option Addr} {d : Nat} (h : FrO w X pb B d F) (k : Later w w1) : FrO w1 X pb B d F := ⟨Kd.C_below h.rd k, h.le, h.by_, h.len, h.op, h.pk⟩
theorem OwB.fro {w : World} {base d : Nat} {B : Option Addr} {X P F : List Int} {m : Int} (h : OwB w base (.slice B F.length d) F) (hF : F = frm m X.length P (le32 (crc 0 X))) (hX : X.length ≤ 100) (hb : Bytes X) (hP : Bytes P) (hPl : P.length ≤ 400) (h0 : 0 ≤ m) (h1 : m ≤ 1) (ho : openF 100 m X.length P (le32 (crc 0 X)) = ⟨X, 0⟩) :
    FrO w X (m == 1) B d F := by
  obtain ⟨A', d', he, hd, hr⟩ := OwB.reads h
  injection he with e1 e2 e3
  subst e1; subst e3
  have hl := frm_len (m := m) (k := X.length) (B := P) (le32_len (crc 0 X))
  have h2 : Bytes [76, m] := fun x hx => by
    simp at hx
    omega
  subst hF
  refine ⟨hr, hd, ((h2.append (le32_bytes _)).append hP).append (le32_bytes _), by omega, by rw [open_frm (le32_len _) (by omega) h0 h1]; exact ho, packed_frm (le32_len _) (by omega) h0 h1⟩
theorem open_100 {X P : List Int} (hX : X.length ≤ 100) (h : unp X.length P = ⟨X, 0⟩) : openF 100 1 X.length P (le32 (crc 0 X)) = ⟨X, 0⟩ := by rw [openF_unp 100 X P h, if_neg (by omega)]
set_option maxRecDepth 20000 in
set_option maxHeartbeats 3200000 in
theorem frameOthers_walk (A2 : Option Addr) (n2 c2 : Nat) (xl : List Int) (w : World) (h2 : RdN w A2 n2 xl) :
    Calls Try.prog 5 #[.slice A2 n2 c2] w fun e w' => e = .returned (.bool true) ∧ Below w.heap.size w w' := by
  have H2 := Aside0.mk h2
  clear h2
  go_enter Try.func5, Try.ntmps5
  go_wp2_with (first
    | (go_at_call 9; (with_reducible refine at_cw w ?_); refine (made_calls A2 n2 c2 xl w H2.out).mono ?_; rintro e w1 ⟨BM, dM, M, rfl, hby, O_M, hdM, hlM, R_M, hB⟩; have L1 : Aside0 (Later w w1) := ⟨hB⟩; have Y_M := Aside0.mk hby; clear hB hby)
    | (go_at_call 8; (with_reducible refine at_cw w1 ?_); refine (few_new BM M.length dM M 100 w1 R_M.out hdM Y_M.out (by omega) (by omega)).mono ?_; rintro e w2 ⟨BX, dX, X, rfl, E_X, hby, O_X, hd_X, hyl, R_X, hB⟩; have L2 : Aside0 (Later w1 w2) := ⟨hB⟩; have Y_X : Aside0 (Bytes X ∧ X.length ≤ 100) := ⟨hby, hyl⟩; have D_X := Aside0.mk hd_X; have HPL := Aside0.mk (pack_len X); clear hB hby hd_X O_M R_M Y_M hdM hlM E_X O_X)
    | (go_at_call 13; (with_reducible refine at_cw w2 ?_); refine (rseal_calls BX X.length dX X w2 R_X.out Y_X.out.1 D_X.out (by omega)).mono ?_; rintro e w3 ⟨v, rfl, hO, hB⟩; obtain ⟨BP, dP, rfl, hdP, hrP⟩ := hO.reads; have L3 : Aside0 (Later w2 w3) := ⟨hB⟩; have hsl := seal_len X; obtain ⟨T, dT, hcut, hrT⟩ : ∃ T dT, (∀ W : World, (Instr.slice 22 (.slice BP (sealL X).length dP) (some (.int .i64 (((sealL X).length : Int) - 4))) none none).run Try.prog W = .ok (.slice T 4 dT) W) ∧ RdB w3 T 4 (le32 (crc 0 X)) := (by have hc := cutFrom hrP hdP (((sealL X).length : Int) - 4) (by omega) (by omega); rw [show (((sealL X).length : Int) - 4).toNat = (sealL X).length - 4 by omega, show (sealL X).length - ((sealL X).length - 4) = 4 by omega, show (sealL X).drop ((sealL X).length - 4) = le32 (crc 0 X) from frm_drop (le32_len _)] at hc; exact ⟨_, _, hc⟩); have R_T := Aside0.mk hrT; have hs4 : 10 ≤ (sealL X).length ∧ (sealL X).length ≤ 110 := (by have := sealB_le X; omega); obtain ⟨hs4, hs5⟩ := hs4; clear hB hO hrP hrT hsl)
    | (go_at_call 19; (with_reducible refine at_cw w3 ?_); refine (rnumber_calls X.length (by omega) w3).mono ?_; rintro e w4 ⟨rfl, hw4⟩; have L4 : Aside0 (Later w3 w4) := ⟨by rw [hw4]; exact below_alloc (Below.refl _ _) _⟩; have R_H : Aside0 (RdB w4 (some ⟨w3.heap.size, 0, none⟩) 4 (le32 X.length)) := ⟨by rw [hw4]; exact rd_lit2 rfl (le32 X.length) _ _ 4 rfl rfl (by simp [le32])⟩; clear hw4)
    | (at_builtin; refine appBs (w0 := w4) w4.heap.size rfl (.tmp 28) (.tmp 29) rfl (.slice (some ⟨w4.heap.size, 0, none⟩) 2 2) ([76, 0]) (le32 X.length) (some ⟨w3.heap.size, 0, none⟩) 4 4 rfl rfl (own_litB w4 w4.heap.size [76, 0] _ 2 rfl rfl (Nat.le_refl _) (by simp)) (Kd.C_below R_H.out (below_alloc (Below.refl _ w4) _)) (below_alloc (Below.refl _ w4) _) (Below.size (below_alloc (Below.refl _ w4) _)) (by have := Y_X.out.2; have := HPL.out; simp [le32] <;> omega) ?_; intro v6 w6 hO hB _ _; have HO6 := Aside0.mk hO; have HB6 := Aside0.mk hB; clear hO hB)
    | (at_builtin; refine appBs (w0 := w4) w4.heap.size rfl (.tmp 31) (.tmp 32) rfl v6 ([76, 0] ++ le32 X.length) (X) BX X.length dX rfl rfl (HO6.out) (Kd.C_below R_X.out (Later.trans L3.out (Later.trans L4.out HB6.out))) (HB6.out) (Below.size (HB6.out)) (by have := Y_X.out.2; have := HPL.out; simp [le32] <;> omega) ?_; intro v7 w7 hO hB _ _; have HO7 := Aside0.mk hO; have HB7 := Aside0.mk hB; clear hO hB)
    | (at_builtin; refine appBs (w0 := w4) w4.heap.size rfl (.tmp 34) (.tmp 35) rfl v7 ([76, 0] ++ le32 X.length ++ X) (le32 (crc 0 X)) T 4 dT rfl rfl (HO7.out) (Kd.C_below R_T.out (Later.trans L4.out HB7.out)) (HB7.out) (Below.size (HB7.out)) (by have := Y_X.out.2; have := HPL.out; simp [le32] <;> omega) ?_; intro v8 w8 hO hB _ _; have HO8 := Aside0.mk hO; have HB8 := Aside0.mk hB; clear hO hB; have LX8 : Aside0 (Later w2 w8) := ⟨Later.trans L3.out (Later.trans L4.out HB8.out)⟩; have LT8 : Aside0 (Later w3 w8) := ⟨Later.trans L4.out HB8.out⟩; have hO' := HO8.out; clear HO8; obtain ⟨F8, hF8⟩ : ∃ F, F = frm 0 X.length (X) (le32 (crc 0 X)) := ⟨_, rfl⟩; have hO' : OwB w8 w4.heap.size v8 F8 := (by rw [hF8]; exact hO'); obtain ⟨B8, d8, rfl, _, _⟩ := hO'.reads; have HO8 := Aside0.mk hO'; have HF8 := Aside0.mk hF8; clear hO' hF8)
    | (at_builtin; refine appBs (w0 := w8) w8.heap.size rfl (.tmp 37) (.tmp 38) rfl (.slice (some ⟨w8.heap.size, 0, none⟩) 2 2) ([76, 1]) (le32 X.length) (some ⟨w3.heap.size, 0, none⟩) 4 4 rfl rfl (own_litB w8 w8.heap.size [76, 1] _ 2 rfl rfl (Nat.le_refl _) (by simp)) (Kd.C_below R_H.out (Later.trans (HB8.out : Later w4 w8) (below_alloc (Below.refl _ w8) _))) (below_alloc (Below.refl _ w8) _) (Below.size (below_alloc (Below.refl _ w8) _)) (by have := Y_X.out.2; have := HPL.out; simp [le32] <;> omega) ?_; intro v10 w10 hO hB _ _; have HO10 := Aside0.mk hO; have HB10 := Aside0.mk hB; clear hO hB)
    | (go_at_call 20; (with_reducible refine at_cw w10 ?_); refine (rpack_calls BX X.length dX X w10 (Kd.C_below R_X.out (Later.trans LX8.out HB10.out)) Y_X.out.1 D_X.out (by have := Y_X.out.2; omega)).mono ?_; rintro e w11 ⟨v, rfl, hm⟩; obtain ⟨AP, cP, rfl, hcP, hrP⟩ := hm.own.reads; have L11 : Aside0 (Later w10 w11) := ⟨hm.below⟩; have R_Q := Aside0.mk hrP; have HB11 : Aside0 (Below w8.heap.size w8 w11) := ⟨below_tr HB10.out hm.below HB10.out.size⟩; clear hm hrP)
    | (at_builtin; refine appBs (w0 := w8) w8.heap.size rfl (.tmp 40) (.tmp 42) rfl v10 ([76, 1] ++ le32 X.length) (packL X) AP (packL X).length cP rfl rfl (OwB.below HO10.out L11.out) (R_Q.out) (HB11.out) (Below.size (HB11.out)) (by have := Y_X.out.2; have := HPL.out; simp [le32] <;> omega) ?_; intro v12 w12 hO hB _ _; have HO12 := Aside0.mk hO; have HB12 := Aside0.mk hB; clear hO hB)
    | (at_builtin; refine appBs (w0 := w8) w8.heap.size rfl (.tmp 44) (.tmp 45) rfl v12 ([76, 1] ++ le32 X.length ++ packL X) (le32 (crc 0 X)) T 4 dT rfl rfl (HO12.out) (Kd.C_below R_T.out (Later.trans LT8.out HB12.out)) (HB12.out) (Below.size (HB12.out)) (by have := Y_X.out.2; have := HPL.out; simp [le32] <;> omega) ?_; intro v13 w13 hO hB _ _; have HO13 := Aside0.mk hO; have HB13 := Aside0.mk hB; clear hO hB; have L8_13 : Aside0 (Later w8 w13) := ⟨HB13.out⟩; have hO' := HO13.out; clear HO13; obtain ⟨F13, hF13⟩ : ∃ F, F = frm 1 X.length (packL X) (le32 (crc 0 X)) := ⟨_, rfl⟩; have hO' : OwB w13 w8.heap.size v13 F13 := (by rw [hF13]; exact hO'); obtain ⟨B13, d13, rfl, _, _⟩ := hO'.reads; have HO13 := Aside0.mk hO'; have HF13 := Aside0.mk hF13; clear hO' hF13)
    | (at_builtin; refine appBs (w0 := w13) w13.heap.size rfl (.tmp 47) (.tmp 48) rfl (.slice (some ⟨w13.heap.size, 0, none⟩) 2 2) ([76, 1]) (le32 X.length) (some ⟨w3.heap.size, 0, none⟩) 4 4 rfl rfl (own_litB w13 w13.heap.size [76, 1] _ 2 rfl rfl (Nat.le_refl _) (by simp)) (Kd.C_below R_H.out (Later.trans (HB8.out : Later w4 w8) (Later.trans L8_13.out (below_alloc (Below.refl _ w13) _)))) (below_alloc (Below.refl _ w13) _) (Below.size (below_alloc (Below.refl _ w13) _)) (by have := Y_X.out.2; have := HPL.out; simp [le32] <;> omega) ?_; intro v15 w15 hO hB _ _; have HO15 := Aside0.mk hO; have HB15 := Aside0.mk hB; clear hO hB))
  have HX2 : Aside0 (Later w2 w13) := ⟨Later.trans LX8.out L8_13.out⟩
  have HT13 := Aside0.mk (Kd.C_below R_T.out (Later.trans LT8.out L8_13.out))
  have LW : Aside0 (Later w w13) := ⟨Later.trans L1.out (Later.trans L2.out HX2.out)⟩
  have HX13 := Aside0.mk (Kd.C_below R_X.out HX2.out)
  have HY8 := Aside0.mk (OwB.below HO8.out L8_13.out)
  have hX100 := Y_X.out.2
  clear HO6 HO7 HO10 HO12 HB6 HB7 HB8 HB10 HB11 HB12 HB13 L11 R_H R_T R_X R_Q L1 L2 L3 L4 LX8 LT8 L8_13 HX2 hcut H2 HO8
  go_loopw [9, 10] (fun v i wr => ∃ j : Nat, j ≤ X.length ∧ i = .int .i64 j ∧ OwB wr w13.heap.size v ([76, 1] ++ le32 X.length ++ lits1 X j) ∧ Below w13.heap.size w13 wr) (fun _ i _ => X.length - (intOf i).toNat)
  case atStart => exact ⟨0, by omega, rfl, by rw [show lits1 X 0 = [] from rfl, List.append_nil]; exact HO15.out, HB15.out⟩
  case round =>
    obtain ⟨j, hj, rfl, hO, hB⟩ := hrel
    have HO := Aside0.mk hO
    have HB := Aside0.mk hB
    have HLL := Aside0.mk (lits1_len X j)
    clear hO hB HO15 HB15
    by_cases hlt : j < X.length
    · obtain ⟨ad, ea⟩ : ∃ ad, BX = some ad := by obtain ⟨ad, e, _⟩ := Kd.at_int HX13.out 0 (by omega) (by omega); exact ⟨ad, e⟩
      subst ea
      have hcell := rdB_at (Kd.C_below HX13.out HB.out) j hlt
      generalize hx : rd X (j : Int) = x at *
      have HXE := Aside0.mk hx
      clear hx
      go_wp2_with (at_builtin; refine appBs (w0 := w13) w13.heap.size rfl (.tmp 56) (.tmp 61) rfl _ ([76, 1] ++ le32 X.length ++ lits1 X j) [0, x] (some ⟨wr.heap.size, 0, none⟩) 2 2 rfl rfl (OwB.below HO.out (below_alloc (Below.refl _ _) _)) (rd_lit wr [0, x] _ _ 2 rfl rfl (by simp)) (Below.alloc HB.out HB.out.size _) (by have := HB.out.size; simp; omega) (by have := HLL.out; simp [le32]; omega) ?_; intro v16 w16 hO hB _ _; have HO16 := Aside0.mk hO; have HB16 := Aside0.mk hB; clear hO hB)
      go_roundw
      case rel => exact ⟨j + 1, by omega, by go_num, by rw [show lits1 X (j + 1) = lits1 X j ++ [0, x] by rw [← HXE.out]; rfl, ← List.append_assoc]; exact HO16.out, HB16.out⟩
      case measure => simp [intOf]; omega
    · obtain rfl : j = X.length := by omega
      clear hj hlt
      go_wp2_with (at_builtin; refine appBs (w0 := w13) w13.heap.size rfl (.tmp 63) (.tmp 64) rfl _ ([76, 1] ++ le32 X.length ++ lits1 X X.length) (le32 (crc 0 X)) T 4 dT rfl rfl HO.out (Kd.C_below HT13.out HB.out) HB.out HB.out.size (by have := HLL.out; simp [le32]; omega) ?_; intro v17 w17 hO hB _ _; obtain ⟨F17, hF17⟩ : ∃ F, F = frm 1 X.length (lits1 X X.length) (le32 (crc 0 X)) := ⟨_, rfl⟩; have hO' : OwB w17 w13.heap.size v17 F17 := (by rw [hF17]; exact hO); obtain ⟨B17, d17, rfl, _, _⟩ := hO'.reads; have HO17 := Aside0.mk hO'; have HF17 := Aside0.mk hF17; have HB17 := Aside0.mk hB; clear hO hO' hF17 hB)
      have H17 := Aside0.mk (show Later w13 w17 from HB17.out)
      have G8 := Aside0.mk ((OwB.fro HY8.out HF8.out hX100 Y_X.out.1 Y_X.out.1 (by omega) (by omega) (by omega) (by rw [openF_plain, if_neg (by omega)])).later H17.out)
      have G13 := Aside0.mk ((OwB.fro HO13.out HF13.out hX100 Y_X.out.1 (packL_bytes Y_X.out.1) (by have := HPL.out; omega) (by omega) (by omega) (open_100 hX100 (unp_self X))).later H17.out)
      have G17 := Aside0.mk (OwB.fro HO17.out HF17.out hX100 Y_X.out.1 (lits1_bytes Y_X.out.1 _) (by rw [lits1_len]; omega) (by omega) (by omega) (open_100 hX100 (lits1_all X)))
      obtain ⟨w18, hw18⟩ : ∃ w', w' = w17.alloc (.cells #[.slice B8 F8.length d8, .slice B13 F13.length d13, .slice B17 F17.length d17] 22) := ⟨_, rfl⟩
      have L18 : Later w17 w18 := by rw [hw18]; exact below_alloc (Below.refl _ _) _
      have hb18 := blk_new w17 (.cells #[.slice B8 F8.length d8, .slice B13 F13.length d13, .slice B17 F17.length d17] 22)
      rw [← hw18] at hb18
      have HR : Aside0 (∀ k : Nat, k < 3 → ∃ B d F, w18.cell? ⟨w17.heap.size, k, none⟩ = some (.slice B F.length d) ∧ FrO w18 X (decide ((0 : Int) < (k : Int))) B d F) := ⟨fun k hk => by
        rcases k with _ | _ | _ | k
        · exact ⟨B8, d8, F8, by rw [blk_cell hb18]; rfl, G8.out.later L18⟩
        · exact ⟨B13, d13, F13, by rw [blk_cell hb18]; rfl, G13.out.later L18⟩
        · exact ⟨B17, d17, F17, by rw [blk_cell hb18]; rfl, G17.out.later L18⟩
        · omega⟩
      have HX18 := Aside0.mk (Kd.C_below HX13.out (Later.trans H17.out L18))
      have LW18 : Aside0 (Later w w18) := ⟨Later.trans LW.out (Later.trans H17.out L18)⟩
      rw [← hw18]
      clear hw18 L18 hb18 G8 G13 G17 H17 HO13 HO17 HF8 HF13 HF17 HB17 HY8 HT13 HX13 LW HB HO HLL HPL
      go_loopw [12, 13, 14] (fun k _ _ wr => ∃ i : Nat, i ≤ 3 ∧ k = .int .i64 i ∧ Below w18.heap.size w18 wr) (fun k _ _ _ => 3 - (intOf k).toNat)
      case atStart => exact ⟨0, by omega, rfl, Below.refl _ _⟩
      case round =>
        obtain ⟨k, hk, rfl, hB⟩ := hrel
        have HB := Aside0.mk hB
        clear hB
        by_cases hk3 : k < 3
        · have hk3I : (k : Int) < 3 := by omega
          obtain ⟨B, d, F, hcell0, hg⟩ := HR.out k hk3
          have hcell := pw_cell_below HB.out hcell0
          have HG := Aside0.mk (hg.later HB.out)
          have hFl := hg.len
          clear hcell0 hg
          go_wp2_with (first
            | (go_at_call 11; (with_reducible refine at_cw wr ?_); refine (open_calls B F.length d F 100 wr HG.out.rd HG.out.by_ HG.out.le (by omega)).mono ?_; rw [HG.out.op]; rintro e w6 hp; obtain ⟨AX, dX', rfl, _, hrX, hbX, hdX', hB⟩ := hp.get; have L6 : Aside0 (Later wr w6) := ⟨hB⟩; have hs1 := conv_str hrX dX'; have hs2 := conv_str (Kd.C_below HX18.out (Later.trans HB.out L6.out)) dX; have hcell6 := pw_cell_below hB hcell; clear hp hB hrX)
            | (go_at_call 14; (with_reducible refine at_cw w6 ?_); refine (packed_calls B F.length d F w6 (HG.out.later L6.out).rd HG.out.by_ (by omega)).mono ?_; rw [HG.out.pk]; rintro e u0 ⟨rfl, rfl⟩))
          go_roundw
          case rel => exact ⟨k + 1, by omega, by go_num, Later.trans HB.out L6.out⟩
          case measure => simp [intOf]; omega
        · have hk3I : ¬ (k : Int) < 3 := by omega
          go_wp2_with (go_at_call 15; (with_reducible refine at_cw wr ?_); refine (lives_calls wr).mono ?_; rintro e w5 ⟨rfl, hB⟩; have L5 : Aside0 (Later wr w5) := ⟨hB⟩; clear hB)
          (try simp only [Exit.inBlock, Exit.then])
          refine bodyPost_ret (results_tmp rfl _ _ _) rfl ⟨rfl, ?_⟩
          exact Later.trans LW18.out (Later.trans HB.out L5.out)
end Go.Proofs.Ytcbcoaafdggniaa
