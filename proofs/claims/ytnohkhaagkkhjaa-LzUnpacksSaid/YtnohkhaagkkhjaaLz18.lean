/- The law LzUnpacks: its walk. Conditions: what each argument reads. -/
import Derived.Test.YtnohkhaagkkhjaaLz17
import Derived.Test.YtnohkhaagkkhjaaRowsS
namespace Go.Proofs.Ytnohkhaagkkhjaa
open Go.RowKit Go.Shelf Go.Proofs.YtnohkhaagkkhjaaW.PrintWords Go.Proofs.YtnohkhaagkkhjaaW.PrintMore
set_option linter.unusedVariables false
set_option linter.unusedSimpArgs false
/-- Bytes that are given (of any address). -/
structure Gu (w : World) (B : Option Addr) (d : Nat) (X : List Int) : Prop where
  rd : RdB w B X.length X
  le : X.length ≤ d
  by_ : Bytes X
  len : X.length ≤ 400
theorem Gu.later {w w1 : World} {B : Option Addr} {d : Nat} {X : List Int} (h : Gu w B d X) (k : Later w w1) : Gu w1 B d X := ⟨Kd.C_below h.rd k, h.le, h.by_, h.len⟩
theorem OwB.gu {w : World} {base n d : Nat} {B : Option Addr} {X : List Int} (h : OwB w base (.slice B n d) X) (hb : Bytes X) (hl : X.length ≤ 400) : Gu w B d X := by
  obtain ⟨A', d', he, hd, hr⟩ := OwB.reads h
  injection he with e1 e2 e3
  subst e1; subst e3
  exact ⟨hr, hd, hb, hl⟩
theorem OwS.far {w : World} {v : Value} {xs : List S3} (h : OwS w v xs) {p : Addr} (hp : some p.block ≠ v.ownBlock) (u : Value) : OwS (w.setCell p u) v xs := by
  have h1 : KS.R 22 w 0 (fun k => v.ownBlock = some k) v xs := Kd.R_of_own (Kd.own_of_R h) (fun k hk => hk)
  exact Kd.R_mono (Kd.R_far h1 (fun k hk e => hp (by rw [hk, e])) u) (fun _ _ => trivial)
/-- The rows of the law. -/
def Rws (w : World) (ad : Addr) (R : Nat) : Prop := ∀ k, k < R → ∃ B d X, w.cell? (ad.add k) = some (.slice B X.length d) ∧ Gu w B d X
theorem Rws.later {w w1 : World} {ad : Addr} {R : Nat} (h : Rws w ad R) (k : Later w w1) : Rws w1 ad R := fun j hj => by
  obtain ⟨B, d, X, h1, h2⟩ := h j hj
  exact ⟨B, d, X, pw_cell_below k h1, h2.later k⟩
theorem OwB.thru {w3 w4 w6 : World} {o o2 : Obj} {g k n d base : Nat} {c : Int} {B : Option Addr} {X : List Int} (h : OwB w3 base (.slice B n d) X) (L4 : Later (w3.alloc o) w4) (hg : w3.heap.size < g)
    (G : ((w4.setCell ⟨g, k, none⟩ (.int .u8 c)).alloc o2).grownBy w6 (some w3.heap.size)) : OwB w6 base (.slice B n d) X := by
  have h1 := (h.below (below_alloc (Below.refl _ w3) o)).below L4
  have h2 := (h1.far (p := ⟨g, k, none⟩) (fun e => by have := Kd.R_lt h g e.symm; omega) (.int .u8 c)).below (below_alloc (Below.refl _ _) o2)
  exact ((Fr.refl _ (fun i => some w3.heap.size = some i)).grown G (fun i hi => .inl hi)).ownB h2 (fun i hi e => by
    have := Kd.R_lt h i hi
    injection e with e
    omega)
theorem OwB.thru2 {w4 w6 : World} {o2 : Obj} {g m k n d base : Nat} {c : Int} {X : List Int} (h : OwB (w4.setCell ⟨g, k, none⟩ (.int .u8 c)) base (.slice (some ⟨g, 0, none⟩) n d) X) (hg : m < g)
    (G : ((w4.setCell ⟨g, k, none⟩ (.int .u8 c)).alloc o2).grownBy w6 (some m)) : OwB w6 base (.slice (some ⟨g, 0, none⟩) n d) X :=
  ((Fr.refl _ (fun i => some m = some i)).grown G (fun i hi => .inl hi)).ownB (h.below (below_alloc (Below.refl _ _) o2)) (fun i hi e => by
    have h1 : g = i := by simpa [Value.ownBlock] using hi
    injection e with e
    omega)
theorem rdS_lit2 {W : World} {n0 : Nat} (h0 : W.heap.size = n0) (xs : List S3) (cs : Array Value) (n : Nat) (hcs : cs = (xs.map encS).toArray) (hn : n = xs.length) (hm : xs.length ≤ 9223372036854775807) : RdS (W.alloc (.cells cs 22)) (some ⟨n0, 0, none⟩) n xs := by
  subst h0
  exact rdS_lit W xs cs n hcs hn hm
theorem ownS_4 {w : World} {v : Value} {a b c d : S3} (h : OwS w v ([a, b] ++ [c, d])) : ∃ ad c6, v = .slice (some ad) 4 c6 ∧ w.cell? (ad.add 0) = some (encS a) ∧ w.cell? (ad.add 1) = some (encS b) ∧ w.cell? (ad.add 2) = some (encS c) ∧ w.cell? (ad.add 3) = some (encS d) := by
  obtain ⟨A, c6, he, hc, hr⟩ := Kd.R_reads h
  have hr' : RdS w A 4 [a, b, c, d] := hr
  obtain ⟨ad, e, _⟩ := (Kd.reads_of_C (d := ((none, 0, 0) : S3)) hr').2.2 (by omega)
  subst e
  exact ⟨ad, c6, he, rdS_at hr' 0 (by omega), rdS_at hr' 1 (by omega), rdS_at hr' 2 (by omega), rdS_at hr' 3 (by omega)⟩
theorem CntPost.none_ {p : List Int} {e : Ending} (h : CntPost p e) (hk : cnt p = none) : e = .returned (.tuple #[.int .i64 0, .int .i64 2]) := by
  rcases h with ⟨k', h1, he⟩ | ⟨_, he⟩
  · rw [hk] at h1; cases h1
  · exact he
theorem RCnt.none_ {p : List Int} {e : Ending} (h : RCnt p e) (hk : cnt p = none) : e = .returned (.int .i64 (-1)) := by
  rcases h with ⟨k', h1, he⟩ | ⟨_, he⟩
  · rw [hk] at h1; cases h1
  · exact he
theorem RCnt.some_ {p : List Int} {e : Ending} {k : Nat} (h : RCnt p e) (hk : cnt p = some k) : e = .returned (.int .i64 k) := by
  rcases h with ⟨k', h1, he⟩ | ⟨h1, _⟩
  · rw [hk] at h1
    injection h1 with h1
    subst h1
    exact he
  · rw [hk] at h1; cases h1
theorem ms_cells {w : World} {g : Nat} {a b c : Int} (h : w.heap[g]? = some (.cells #[.int .i64 a, .int .i64 b, .int .i64 c] 3 (0, 0))) : ∀ j, j < 3 → ∃ z : Int, w.cell? ⟨g, j, none⟩ = some (.int .i64 z) := fun j hj => by
  rcases j with _ | _ | _ | j
  · exact ⟨a, by rw [blk_cell h]; rfl⟩
  · exact ⟨b, by rw [blk_cell h]; rfl⟩
  · exact ⟨c, by rw [blk_cell h]; rfl⟩
  · omega
theorem len_cases (P : List Int) : (¬ (0 : Int) < (P.length : Int)) ∨ (0 < P.length ∧ (0 : Int) < (P.length : Int)) := by omega
set_option maxRecDepth 20000 in
set_option maxHeartbeats 3200000 in
theorem lzUnpacks_walk (A1 A2 : Option Addr) (n1 c1 n2 c2 : Nat) (xb xl : List Int) (at_ c most : Int) (w : World) (h1 : RdB w A1 n1 xb) (hc1 : n1 ≤ c1) (hb1 : Bytes xb) (h2 : RdN w A2 n2 xl)
    (ha0 : -9223372036854775808 ≤ at_) (ha1 : at_ ≤ 9223372036854775807) (hc : 0 ≤ c ∧ c < 256) (hm0 : -9223372036854775808 ≤ most) (hm1 : most ≤ 9223372036854775807) :
    Calls Try.prog 7 #[.slice A1 n1 c1, .slice A2 n2 c2, .int .i64 at_, .int .u8 c, .int .i64 most] w fun e w' => e = .returned (.bool true) ∧ Below w.heap.size w w' := by
  have H1 := Aside0.mk h1
  have H2 := Aside0.mk h2
  have HAT := Aside0.mk (And.intro ha0 ha1)
  have HC := Aside0.mk hc
  have hac := fun (w : World) => around_calls most 321 w hm0 hm1 (by omega) (by omega)
  obtain ⟨hr0, hr1⟩ := around_range most 321 (by omega)
  obtain ⟨am, ham⟩ := Int.eq_ofNat_of_zero_le hr0
  simp only [ham] at hac
  have HAC := Aside0.mk hac
  clear h1 h2 ha0 ha1 hac hr0 hr1 ham hc hm0 hm1
  go_enter Try.func7, Try.ntmps7
  go_wp2_with (first
    | (go_at_call 10; (with_reducible refine at_cw w ?_); refine (made_calls A2 n2 c2 xl w H2.out).mono ?_; rintro e w1 ⟨BM, dM, M, rfl, hby, O_M, hdM, hlM, R_M, hB⟩; have L1 : Aside0 (Later w w1) := ⟨hB⟩; have Y_M := Aside0.mk hby; clear hB hby)
    | (go_at_call 16; (with_reducible refine at_cw w1 ?_); refine (rpack_calls BM M.length dM M w1 R_M.out Y_M.out hdM (by omega)).mono ?_; rintro e w2 ⟨vP, rfl, hMP⟩; have hPl : (packL M).length ≤ 400 := (by have := pack_len M; omega); generalize packL M = P at *; obtain ⟨BP, dP, rfl, hdP, hrP⟩ := hMP.own.reads; have L2 : Aside0 (Later w1 w2) := ⟨hMP.below⟩; have HMP := Aside0.mk hMP; have R_P := Aside0.mk hrP; clear hMP hrP; rcases len_cases P with hzI | ⟨hz, hzI⟩)
    | (go_at_call 9; (with_reducible refine at_cw w2 ?_); refine (few_new A1 n1 c1 xb 60 w2 (Kd.C_below H1.out (Later.trans L1.out L2.out)) hc1 hb1 (by omega) (by omega)).mono ?_; rintro e w3 ⟨BX, dX, X, rfl, E_X, hby, O_X, hd_X, hyl, R_X, hB⟩; have L3 : Aside0 (Later w2 w3) := ⟨hB⟩; have Y_X : Aside0 (Bytes X ∧ X.length ≤ 60) := ⟨hby, hyl⟩; have D_X := Aside0.mk hd_X; clear hB hby hyl hd_X)
    | (go_at_call 17; (with_reducible refine (around_calls at_ (P.length : Int) _ HAT.out.1 HAT.out.2 (by omega) (by omega)).mono ?_); rintro e u0 ⟨rfl, rfl⟩; obtain ⟨hk0, hk1⟩ := around_range at_ (P.length : Int) (by omega); obtain ⟨k, hk⟩ := Int.eq_ofNat_of_zero_le hk0; rw [hk]; rw [hk] at hk1; have hkP : k < P.length := (by omega); clear hk hk0)
    | (go_at_call 17; (with_reducible refine (HAC.out _).mono ?_); rintro e u0 ⟨rfl, rfl⟩)
    | (go_at_call 9; refine (few_new BP P.length dP P 400 (w3.alloc (.cells #[.slice BX X.length dX, .slice BP P.length dP] 22)) (Kd.C_below (Kd.C_below R_P.out L3.out) (below_alloc (Below.refl _ _) _)) hdP HMP.out.by_ (by omega) (by omega)).mono ?_; rintro e w4 ⟨BO, dO, O, rfl, E_O, hbo, O_O, hdo, hlo, R_O, hB⟩; have hOP : P = O := (by rw [E_O.out]; exact (List.take_of_length_le (by omega)).symm); subst hOP; have L4 : Aside0 (Later (w3.alloc (.cells #[.slice BX X.length dX, .slice BP P.length dP] 22)) w4) := ⟨hB⟩; obtain ⟨go, dO', hv, hg1, hg2⟩ := OwB.place O_O.out hz; obtain ⟨rfl, _, rfl⟩ : BO = some ⟨go, 0, none⟩ ∧ True ∧ dO = dO' := (by simpa using hv); have hcf := OwB.cell O_O.out (k : Int) (by omega) (by omega); have HO5 := Aside0.mk (OwB.store O_O.out (k : Int) c); rw [Int.toNat_natCast] at hcf HO5; obtain ⟨hcell, hfz⟩ := hcf; have hcut := (cutTo (Kd.C_below R_P.out L3.out) hdP (k : Int) (by omega) (by omega)).1; rw [Int.toNat_natCast] at hcut; have hgw : w3.heap.size < go := (by simp at hg1; omega); have HOS := Aside0.mk (OwS.far (Kd.R_below (ownS_lit w3 [(BX, X.length, dX), (BP, P.length, dP)] _ 2 rfl rfl (by simp)) L4.out) (p := ⟨go, k, none⟩) (by intro e; simp [Value.ownBlock] at e; omega) (.int .u8 c)); clear hv hB hbo hdo hlo R_O E_O)
    | (at_builtin; refine appS (w0 := w4) rfl (.tmp 44) (.tmp 49) rfl (.slice (some ⟨w3.heap.size, 0, none⟩) 2 2) [(BX, X.length, dX), (BP, P.length, dP)] [(BP, k, dP), (some ⟨go, 0, none⟩, P.length, dO)] (some ⟨w4.heap.size, 0, none⟩) 2 2 rfl rfl (Kd.R_below HOS.out (below_alloc (Below.refl _ _) _)) (rdS_lit2 (by simp) _ _ 2 rfl rfl (by simp)) (Below.alloc (Below.setCell (Below.refl 0 w4) (p := ⟨go, k, none⟩) (Nat.zero_le _) (.int .u8 c)) (Nat.zero_le _) _) (by simp) ?_; intro v6 w6 hO6 _ hG6 _; obtain ⟨ad6, c6, rfl, hq0, hq1, hq2, hq3⟩ := ownS_4 hO6; have HQ := Aside0.mk (And.intro hq0 (And.intro hq1 (And.intro hq2 hq3))); have HG6 := Aside0.mk hG6; clear hO6 hG6 hq0 hq1 hq2 hq3))
  -- LOOPS
  · obtain ⟨wr0, hwr0⟩ : ∃ w', w' = w3.alloc (.cells #[.slice BX X.length dX, .slice BP P.length dP] 22) := ⟨_, rfl⟩
    have hs0 : wr0.heap.size = w3.heap.size + 1 := by rw [hwr0]; simp
    obtain ⟨ad, had⟩ : ∃ ad : Addr, ad = ⟨w3.heap.size, 0, none⟩ := ⟨_, rfl⟩
    have L3a : Later w3 wr0 := by rw [hwr0]; exact below_alloc (Below.refl _ _) _
    have hrows : Rws wr0 ad 2 := fun k hk => by
      have hb3 := blk_new w3 (.cells #[.slice BX X.length dX, .slice BP P.length dP] 22)
      rw [← hwr0] at hb3
      rcases k with _ | k
      · exact ⟨BX, dX, X, by rw [had, add_plain, blk_cell hb3]; rfl, (OwB.gu O_X.out Y_X.out.1 (Nat.le_trans Y_X.out.2 (by omega))).later L3a⟩
      · obtain rfl : k = 0 := by omega
        exact ⟨BP, dP, P, by rw [had, add_plain, blk_cell hb3]; rfl, ((OwB.gu HMP.out.own HMP.out.by_ hPl).later L3.out).later L3a⟩
    obtain ⟨w9, hw9⟩ : ∃ w', w' = wr0.alloc (.cells #[.int .i64 most, .int .i64 am, .int .i64 4000] 3) := ⟨_, rfl⟩
    have HR : Aside0 (Rws w9 ad 2) := ⟨by rw [hw9]; exact hrows.later (below_alloc (Below.refl _ _) _)⟩
    have hms9 := blk_new wr0 (.cells #[.int .i64 most, .int .i64 am, .int .i64 4000] 3)
    rw [← hw9] at hms9
    obtain ⟨gm, hgm⟩ : ∃ gm, gm = w3.heap.size + 1 := ⟨_, rfl⟩
    rw [hs0, ← hgm] at hms9
    have HMS : Aside0 (∀ j, j < 3 → ∃ z : Int, w9.cell? ⟨gm, j, none⟩ = some (.int .i64 z)) := ⟨ms_cells hms9⟩
    have hLW : Below w.heap.size w w9 := by rw [hw9]; exact Later.trans L1.out (Later.trans L2.out (Later.trans L3.out (Later.trans L3a (below_alloc (Below.refl _ _) _))))
    rw [← had, ← hgm, ← hwr0, ← hw9]
    clear had hgm hwr0 hw9 hs0 hrows hms9 L3a L1 L2 L3 O_X O_M HMP R_P R_X R_M E_X Y_X Y_M D_X
    have LW := Aside0.mk hLW
    clear hLW
    go_loopw [16, 17, 18, 19, 20, 21, 22, 23] (fun k _ _ _ _ _ _ _ wr => ∃ i : Nat, i ≤ 2 ∧ k = .int .i64 i ∧ Below w9.heap.size w9 wr) (fun k _ _ _ _ _ _ _ _ => 2 - (intOf k).toNat)
    case atStart => exact ⟨0, by omega, rfl, Below.refl _ _⟩
    case round =>
      obtain ⟨i, hi, rfl, hB⟩ := hrel
      have HB := Aside0.mk hB
      clear hB
      by_cases hi2 : i < 2
      · have hi2I : (i : Int) < 2 := by omega
        obtain ⟨B, d, Y, hcell0, hg⟩ := HR.out i hi2
        have HCELL := Aside0.mk hcell0
        have HG := Aside0.mk hg
        have hYl := hg.len
        clear hcell0 hg
        go_wp2
        obtain ⟨wa, rfl⟩ : ∃ wa, wa = wr := ⟨_, rfl⟩
        go_loopw [17, 18, 19, 20] (fun k _ _ _ wq => ∃ j : Nat, j ≤ 3 ∧ k = .int .i64 j ∧ Below w9.heap.size w9 wq) (fun k _ _ _ _ => 3 - (intOf k).toNat)
        case atStart => exact ⟨0, by omega, rfl, HB.out⟩
        case round =>
          obtain ⟨j, hj, rfl, hB⟩ := hrel
          have HQ := Aside0.mk hB
          clear hB
          by_cases hj3 : j < 3
          · have hj3I : (j : Int) < 3 := by omega
            obtain ⟨z, hz⟩ := HMS.out j hj3
            have hcell := pw_cell_below HQ.out HCELL.out
            have hzc := pw_cell_below HQ.out hz
            have HG1 := Aside0.mk (HG.out.later HQ.out)
            clear hz
            have HCD := Aside0.mk ((World.cell?_drew wr _).trans hcell)
            have HZD := Aside0.mk ((World.cell?_drew wr _).trans hzc)
            have HGD := Aside0.mk (HG1.out.later (Below.drew (Later.refl wr)))
            clear hcell hzc
            go_wp2_with fail
            refine seq_start [] (.take 0 (.take 1 (.take 2 (.take 3 (.take 4 (.take 5 (.take 6 (.take 7 (.run 8 (.take 9 (.take 10 (.take 11 (.take 12 (.take 13 .done)))))))))))))) (by kernel_rfl) (by kernel_rfl) (fun _ _ d _ _ h => by cases d <;> exact h) ?_
            refine seq_take (v := ?_) (a' := ?_) rfl rfl (by rfl) (fun w' hw' => ?_) ?_ ?_
            rotate_left 2
            · go_simp
              with_reducible rfl
            · simp only [Act.put, List.setIfInBounds_toArray, List.set_cons_zero, List.set_cons_succ, Go.Proofs.YtnohkhaagkkhjaaW.PrintLast.i64_w, Go.Proofs.YtnohkhaagkkhjaaW.PrintLast.i32_w]
              rfl
            refine seq_take (v := ?_) (a' := ?_) rfl rfl (by rfl) (fun w' hw' => ?_) ?_ ?_
            rotate_left 2
            · go_simp
              with_reducible rfl
            · simp only [Act.put, List.setIfInBounds_toArray, List.set_cons_zero, List.set_cons_succ, Go.Proofs.YtnohkhaagkkhjaaW.PrintLast.i64_w, Go.Proofs.YtnohkhaagkkhjaaW.PrintLast.i32_w]
              rfl
            refine seq_take (v := ?_) (a' := ?_) rfl rfl (by rfl) (fun w' hw' => ?_) ?_ ?_
            rotate_left 2
            · go_simp
              with_reducible rfl
            · simp only [Act.put, List.setIfInBounds_toArray, List.set_cons_zero, List.set_cons_succ, Go.Proofs.YtnohkhaagkkhjaaW.PrintLast.i64_w, Go.Proofs.YtnohkhaagkkhjaaW.PrintLast.i32_w]
              rfl
            refine seq_take (v := ?_) (a' := ?_) rfl rfl (by rfl) (fun w' hw' => ?_) ?_ ?_
            rotate_left 2
            · have hq := pw_cell_below hw' HCD.out; go_simp
              with_reducible rfl
            · simp only [Act.put, List.setIfInBounds_toArray, List.set_cons_zero, List.set_cons_succ, Go.Proofs.YtnohkhaagkkhjaaW.PrintLast.i64_w, Go.Proofs.YtnohkhaagkkhjaaW.PrintLast.i32_w]
              rfl
            refine seq_take (v := ?_) (a' := ?_) rfl rfl (by rfl) (fun w' hw' => ?_) ?_ ?_
            rotate_left 2
            · go_simp
              with_reducible rfl
            · simp only [Act.put, List.setIfInBounds_toArray, List.set_cons_zero, List.set_cons_succ, Go.Proofs.YtnohkhaagkkhjaaW.PrintLast.i64_w, Go.Proofs.YtnohkhaagkkhjaaW.PrintLast.i32_w]
              rfl
            refine seq_take (v := ?_) (a' := ?_) rfl rfl (by rfl) (fun w' hw' => ?_) ?_ ?_
            rotate_left 2
            · go_simp
              with_reducible rfl
            · simp only [Act.put, List.setIfInBounds_toArray, List.set_cons_zero, List.set_cons_succ, Go.Proofs.YtnohkhaagkkhjaaW.PrintLast.i64_w, Go.Proofs.YtnohkhaagkkhjaaW.PrintLast.i32_w]
              rfl
            refine seq_take (v := ?_) (a' := ?_) rfl rfl (by rfl) (fun w' hw' => ?_) ?_ ?_
            rotate_left 2
            · go_simp
              with_reducible rfl
            · simp only [Act.put, List.setIfInBounds_toArray, List.set_cons_zero, List.set_cons_succ, Go.Proofs.YtnohkhaagkkhjaaW.PrintLast.i64_w, Go.Proofs.YtnohkhaagkkhjaaW.PrintLast.i32_w]
              rfl
            refine seq_take (v := ?_) (a' := ?_) rfl rfl (by rfl) (fun w' hw' => ?_) ?_ ?_
            rotate_left 2
            · have hq := pw_cell_below hw' HZD.out; go_simp
              with_reducible rfl
            · simp only [Act.put, List.setIfInBounds_toArray, List.set_cons_zero, List.set_cons_succ, Go.Proofs.YtnohkhaagkkhjaaW.PrintLast.i64_w, Go.Proofs.YtnohkhaagkkhjaaW.PrintLast.i32_w]
              rfl
            refine seq_run ?_
            refine do_call rfl rfl (by rfl) rfl Try.func15 (by kernel_rfl) rfl #[.slice B Y.length d, .int .i64 z] (by simp only [List.map_toArray, List.map_cons, List.map_nil]; rfl) ?_
            with_reducible refine (unpack_calls B Y.length d Y z wr.drew HGD.out.rd HGD.out.by_ HGD.out.le (by omega)).mono ?_
            rintro e w5 ⟨⟨vx, rfl, hOx, hbx⟩, hB5⟩
            refine ⟨_, ?_, rfl, ?_, fun _ => hB5, ?_⟩
            rotate_left
            · simp only [Act.put, List.setIfInBounds_toArray, List.set_cons_zero, List.set_cons_succ, Go.Proofs.YtnohkhaagkkhjaaW.PrintLast.i64_w, Go.Proofs.YtnohkhaagkkhjaaW.PrintLast.i32_w]
              rfl
            obtain ⟨AX, dX', rfl, hdX, hrX⟩ := hOx.reads
            have L5 : Aside0 (Later wr.drew w5) := ⟨hB5⟩
            have RX := Aside0.mk hrX
            clear hOx hbx hB5 hrX
            refine seq_take (v := ?_) (a' := ?_) rfl rfl (by rfl) (fun w' hw' => ?_) ?_ ?_
            rotate_left 2
            · go_simp
              with_reducible rfl
            · simp only [Act.put, List.setIfInBounds_toArray, List.set_cons_zero, List.set_cons_succ, Go.Proofs.YtnohkhaagkkhjaaW.PrintLast.i64_w, Go.Proofs.YtnohkhaagkkhjaaW.PrintLast.i32_w]
              rfl
            refine seq_take (v := ?_) (a' := ?_) rfl rfl (by rfl) (fun w' hw' => ?_) ?_ ?_
            rotate_left 2
            · go_simp
              with_reducible rfl
            · simp only [Act.put, List.setIfInBounds_toArray, List.set_cons_zero, List.set_cons_succ, Go.Proofs.YtnohkhaagkkhjaaW.PrintLast.i64_w, Go.Proofs.YtnohkhaagkkhjaaW.PrintLast.i32_w]
              rfl
            refine seq_take (v := ?_) (a' := ?_) rfl rfl (by rfl) (fun w' hw' => ?_) ?_ ?_
            rotate_left 2
            · go_simp
              with_reducible rfl
            · simp only [Act.put, List.setIfInBounds_toArray, List.set_cons_zero, List.set_cons_succ, Go.Proofs.YtnohkhaagkkhjaaW.PrintLast.i64_w, Go.Proofs.YtnohkhaagkkhjaaW.PrintLast.i32_w]
              rfl
            refine seq_take (v := ?_) (a' := ?_) rfl rfl (by rfl) (fun w' hw' => ?_) ?_ ?_
            rotate_left 2
            · go_simp
              with_reducible rfl
            · simp only [Act.put, List.setIfInBounds_toArray, List.set_cons_zero, List.set_cons_succ, Go.Proofs.YtnohkhaagkkhjaaW.PrintLast.i64_w, Go.Proofs.YtnohkhaagkkhjaaW.PrintLast.i32_w]
              rfl
            refine seq_take (v := ?_) (a' := ?_) rfl rfl (by rfl) (fun w' hw' => ?_) ?_ ?_
            rotate_left 2
            · go_simp
              with_reducible rfl
            · simp only [Act.put, List.setIfInBounds_toArray, List.set_cons_zero, List.set_cons_succ, Go.Proofs.YtnohkhaagkkhjaaW.PrintLast.i64_w, Go.Proofs.YtnohkhaagkkhjaaW.PrintLast.i32_w]
              rfl
            refine seq_end ?_
            obtain ⟨r, hr⟩ : ∃ r, unp z Y = r := ⟨_, rfl⟩
            rw [hr] at RX hdX
            rw [hr]
            have HRU : Aside0 (∀ W, Gu W B d Y → Calls Try.prog 18 #[.slice B Y.length d, .int .i64 z] W fun e w' => RUPost W r e w') := ⟨fun W h => by rw [← hr]; exact runpack_calls B Y.length d Y z W h.rd h.by_ h.le (by have := h.len; omega)⟩
            have HG5 := Aside0.mk (HGD.out.later L5.out)
            have HG5d := Aside0.mk (HG5.out.later (Below.drew (Later.refl w5)))
            have HG5a : Aside0 (∀ o, Gu (w5.alloc o).drew B d Y) := ⟨fun o => (HG5.out.later (below_alloc (Below.refl _ w5) o)).later (Below.drew (Later.refl _))⟩
            have HC5 := Aside0.mk ((World.cell?_drew w5 _).trans (pw_cell_below L5.out HCD.out))
            have HZ5 := Aside0.mk ((World.cell?_drew w5 _).trans (pw_cell_below L5.out HZD.out))
            have HQ5 : Aside0 (Below w9.heap.size w9 w5) := ⟨Later.trans (Later.trans HQ.out (Below.drew (Later.refl wr))) L5.out |> fun (h : Later w9 w5) => h⟩
            clear hr
            go_wp2_with fail
            refine seq_start [10] (.take 0 (.take 1 (.take 2 (.take 3 (.take 4 (.take 5 (.take 6 (.take 7 (.fork 8 9 (.run 9 (.run 10 .done)) (.run 8 (.run 10 .done))))))))))) (by kernel_rfl) (by kernel_rfl) (fun _ _ d _ _ h => by cases d <;> exact h) ?_
            refine seq_take (v := ?_) (a' := ?_) rfl rfl (by rfl) (fun w' hw' => ?_) ?_ ?_
            rotate_left 2
            · go_simp
              with_reducible rfl
            · simp only [Act.put, List.setIfInBounds_toArray, List.set_cons_zero, List.set_cons_succ, Go.Proofs.YtnohkhaagkkhjaaW.PrintLast.i64_w, Go.Proofs.YtnohkhaagkkhjaaW.PrintLast.i32_w]
              rfl
            refine seq_take (v := ?_) (a' := ?_) rfl rfl (by rfl) (fun w' hw' => ?_) ?_ ?_
            rotate_left 2
            · go_simp
              with_reducible rfl
            · simp only [Act.put, List.setIfInBounds_toArray, List.set_cons_zero, List.set_cons_succ, Go.Proofs.YtnohkhaagkkhjaaW.PrintLast.i64_w, Go.Proofs.YtnohkhaagkkhjaaW.PrintLast.i32_w]
              rfl
            refine seq_take (v := ?_) (a' := ?_) rfl rfl (by rfl) (fun w' hw' => ?_) ?_ ?_
            rotate_left 2
            · go_simp
              with_reducible rfl
            · simp only [Act.put, List.setIfInBounds_toArray, List.set_cons_zero, List.set_cons_succ, Go.Proofs.YtnohkhaagkkhjaaW.PrintLast.i64_w, Go.Proofs.YtnohkhaagkkhjaaW.PrintLast.i32_w]
              rfl
            refine seq_take (v := ?_) (a' := ?_) rfl rfl (by rfl) (fun w' hw' => ?_) ?_ ?_
            rotate_left 2
            · have hq := pw_cell_below hw' HC5.out; go_simp
              with_reducible rfl
            · simp only [Act.put, List.setIfInBounds_toArray, List.set_cons_zero, List.set_cons_succ, Go.Proofs.YtnohkhaagkkhjaaW.PrintLast.i64_w, Go.Proofs.YtnohkhaagkkhjaaW.PrintLast.i32_w]
              rfl
            refine seq_take (v := ?_) (a' := ?_) rfl rfl (by rfl) (fun w' hw' => ?_) ?_ ?_
            rotate_left 2
            · go_simp
              with_reducible rfl
            · simp only [Act.put, List.setIfInBounds_toArray, List.set_cons_zero, List.set_cons_succ, Go.Proofs.YtnohkhaagkkhjaaW.PrintLast.i64_w, Go.Proofs.YtnohkhaagkkhjaaW.PrintLast.i32_w]
              rfl
            refine seq_take (v := ?_) (a' := ?_) rfl rfl (by rfl) (fun w' hw' => ?_) ?_ ?_
            rotate_left 2
            · go_simp
              with_reducible rfl
            · simp only [Act.put, List.setIfInBounds_toArray, List.set_cons_zero, List.set_cons_succ, Go.Proofs.YtnohkhaagkkhjaaW.PrintLast.i64_w, Go.Proofs.YtnohkhaagkkhjaaW.PrintLast.i32_w]
              rfl
            refine seq_take (v := ?_) (a' := ?_) rfl rfl (by rfl) (fun w' hw' => ?_) ?_ ?_
            rotate_left 2
            · go_simp
              with_reducible rfl
            · simp only [Act.put, List.setIfInBounds_toArray, List.set_cons_zero, List.set_cons_succ, Go.Proofs.YtnohkhaagkkhjaaW.PrintLast.i64_w, Go.Proofs.YtnohkhaagkkhjaaW.PrintLast.i32_w]
              rfl
            refine seq_take (v := ?_) (a' := ?_) rfl rfl (by rfl) (fun w' hw' => ?_) ?_ ?_
            rotate_left 2
            · have hq := pw_cell_below hw' HZ5.out; go_simp
              with_reducible rfl
            · simp only [Act.put, List.setIfInBounds_toArray, List.set_cons_zero, List.set_cons_succ, Go.Proofs.YtnohkhaagkkhjaaW.PrintLast.i64_w, Go.Proofs.YtnohkhaagkkhjaaW.PrintLast.i32_w]
              rfl
            refine seq_fork ?_ ?_
            · refine do_call rfl rfl (by rfl) rfl Try.func18 (by kernel_rfl) rfl #[.slice B Y.length d, .int .i64 z] (by simp only [List.map_toArray, List.map_cons, List.map_nil]; rfl) ?_
              with_reducible refine (HRU.out _ HG5d.out).mono ?_
              rintro e w6 ⟨AU, cU, nU, rfl, hOU, hbU, hBU⟩
              refine ⟨_, ?_, rfl, ?_, fun _ => hBU, ?_⟩
              rotate_left
              · simp only [Act.put, List.setIfInBounds_toArray, List.set_cons_zero, List.set_cons_succ, Go.Proofs.YtnohkhaagkkhjaaW.PrintLast.i64_w, Go.Proofs.YtnohkhaagkkhjaaW.PrintLast.i32_w]
                rfl
              refine seq_run ?_
              refine do_val (v := ?_) (a' := ?_) (w1 := ?_) rfl rfl (by rfl) ?_ ?_ ?_
              rotate_left 3
              · go_simp
                constructor <;> rfl
              · simp only [Act.put, List.setIfInBounds_toArray, List.set_cons_zero, List.set_cons_succ, Go.Proofs.YtnohkhaagkkhjaaW.PrintLast.i64_w, Go.Proofs.YtnohkhaagkkhjaaW.PrintLast.i32_w]
                rfl
              refine ⟨fun _ => below_alloc (Below.refl _ _) _, ?_⟩
              refine seq_run ?_
              refine do_blk rfl rfl (by rfl) 43 (.tmp 20) (.tmp 85) rfl rfl rfl (blk_new w6 _) rfl (sizeU _ nU r.E) (ucs_one AU _ cU nU r.E) ?_
              rintro w7 HS7
              refine ⟨fun h => absurd (by simp) h, ?_⟩
              refine seq_end ?_
              have L67 : Later w6 w7 := (below_alloc (Below.refl _ w6) _).trans (HS7.below (Nat.le_refl _))
              have hu0 : w7.cell? ⟨w6.heap.size, 0, none⟩ = some (.slice AU r.B.length cU) := by rw [blk_cell HS7.at_]; rfl
              have hu2 : w7.cell? ⟨w6.heap.size, 2, none⟩ = some (.int .i64 r.E) := by rw [blk_cell HS7.at_]; rfl
              have hs1 := conv_str (Kd.C_below RX.out (Later.trans (Below.drew (Later.refl w5)) (Later.trans hBU L67))) dX'
              have hs2 := conv_str (Kd.C_below (OwB.parts hOU).2 L67) cU
              have HQ7 : Aside0 (Below w9.heap.size w9 w7) := ⟨Later.trans HQ5.out (Later.trans (Below.drew (Later.refl w5)) (Later.trans hBU L67)) |> fun (h : Later w9 w7) => h⟩
              clear L67 hOU hbU hBU HS7
              go_wp2
              go_roundw
              case rel => exact ⟨j + 1, by omega, by go_num, HQ7.out⟩
              case measure => simp [intOf]; omega
            · refine do_val (v := ?_) (a' := ?_) (w1 := ?_) rfl rfl (by rfl) ?_ ?_ ?_
              rotate_left 3
              · go_simp
                constructor <;> rfl
              · simp only [Act.put, List.setIfInBounds_toArray, List.set_cons_zero, List.set_cons_succ, Go.Proofs.YtnohkhaagkkhjaaW.PrintLast.i64_w, Go.Proofs.YtnohkhaagkkhjaaW.PrintLast.i32_w]
                rfl
              refine ⟨fun _ => below_alloc (Below.refl _ _) _, ?_⟩
              refine seq_run ?_
              refine do_call rfl rfl (by rfl) rfl Try.func18 (by kernel_rfl) rfl #[.slice B Y.length d, .int .i64 z] (by simp only [List.map_toArray, List.map_cons, List.map_nil]; rfl) ?_
              with_reducible refine (HRU.out _ (HG5a.out _)).mono ?_
              rintro e w6 ⟨AU, cU, nU, rfl, hOU, hbU, hBU⟩
              refine ⟨_, ?_, rfl, ?_, fun _ => hBU, ?_⟩
              rotate_left
              · simp only [Act.put, List.setIfInBounds_toArray, List.set_cons_zero, List.set_cons_succ, Go.Proofs.YtnohkhaagkkhjaaW.PrintLast.i64_w, Go.Proofs.YtnohkhaagkkhjaaW.PrintLast.i32_w]
                rfl
              have hblk := Later.heap hBU (blk_new w5 (.cells #[.slice none 0 0, .int .i64 0, .int .i64 0] 43))
              refine seq_run ?_
              refine do_blk rfl rfl (by rfl) 43 (.tmp 20) (.tmp 85) rfl rfl rfl hblk rfl (sizeU _ nU r.E) (ucs_one AU _ cU nU r.E) ?_
              rintro w7 HS7
              refine ⟨fun h => absurd (by simp) h, ?_⟩
              refine seq_end ?_
              have L56 : Later w5 w6 := Later.trans (below_alloc (Below.refl _ w5) _) (Later.trans (Below.drew (Later.refl _)) hBU)
              have F67 : Fr w6 w7 (fun i => i = w5.heap.size) := (Fr.refl w6 _).set HS7 (.inl rfl)
              have hu0 : w7.cell? ⟨w5.heap.size, 0, none⟩ = some (.slice AU r.B.length cU) := by rw [blk_cell HS7.at_]; rfl
              have hu2 : w7.cell? ⟨w5.heap.size, 2, none⟩ = some (.int .i64 r.E) := by rw [blk_cell HS7.at_]; rfl
              have hs1 := conv_str (F67.rdB (Kd.C_below RX.out L56) (fun ad' e hp h => by subst e; have := rdB_lt RX.out hp; omega)) dX'
              have hs2 := conv_str (OwB.parts (F67.ownB hOU (fun q hq e => by have := Kd.R_base hOU q hq; simp at this; omega))).2 cU
              have HQ7 : Aside0 (Below w9.heap.size w9 w7) := ⟨HQ5.out.trans (Below.trans (L56.mono HQ5.out.size) (F67.below (fun q hq => by have := HQ5.out.size; omega) (Nat.le_trans HQ5.out.size (Later.size L56))))⟩
              clear L56 F67 hOU hbU hBU HS7 hblk
              go_wp2
              go_roundw
              case rel => exact ⟨j + 1, by omega, by go_num, HQ7.out⟩
              case measure => simp [intOf]; omega
          · have hj3I : ¬ (j : Int) < 3 := by omega
            have hcell := pw_cell_below HQ.out HCELL.out
            have HG1 := Aside0.mk (HG.out.later HQ.out)
            have HG2 := Aside0.mk (fun w5 (h : Later wr w5) => HG1.out.later h)
            rcases hcn : cnt Y with _ | kk
            · have HCN := Aside0.mk hcn
              clear hcn
              go_wp2_with (first
                | (go_at_call 19; (with_reducible refine at_cw wr ?_); refine (count_calls B Y.length d Y wr HG1.out.rd HG1.out.by_ HG1.out.le (by omega)).mono ?_; rintro e w5 ⟨hp, hB⟩; obtain rfl := hp.none_ HCN.out; have L5 : Aside0 (Later wr w5) := ⟨hB⟩; have hcell5 := pw_cell_below hB hcell; clear hp hB)
                | (go_at_call 20; (with_reducible refine at_cw w5 ?_); refine (rcount_calls B Y.length d Y w5 (HG1.out.later L5.out).rd HG1.out.by_ (by omega)).mono ?_; rintro e u0 ⟨hp, rfl⟩; obtain rfl := hp.none_ HCN.out; clear hp))
              go_roundw
              case rel => exact ⟨i + 1, by omega, by go_num, Later.trans HQ.out L5.out |> fun (h : Later w9 w5) => h⟩
              case measure => simp [intOf]; omega
            · have HCN := Aside0.mk hcn
              clear hcn
              go_wp2_with (first
                | (go_at_call 19; (with_reducible refine at_cw wr ?_); refine (count_calls B Y.length d Y wr HG1.out.rd HG1.out.by_ HG1.out.le (by omega)).mono ?_; rintro e w5 ⟨hp, hB⟩; obtain rfl := hp.some_ HCN.out; have L5 : Aside0 (Later wr w5) := ⟨hB⟩; have hcell5 := pw_cell_below hB hcell; clear hp hB)
                | (go_at_call 20; (with_reducible refine at_cw w5 ?_); refine (rcount_calls B Y.length d Y w5 (HG1.out.later L5.out).rd HG1.out.by_ (by omega)).mono ?_; rintro e u0 ⟨hp, rfl⟩; obtain rfl := hp.some_ HCN.out; clear hp))
              go_roundw
              case rel => exact ⟨i + 1, by omega, by go_num, Later.trans HQ.out L5.out |> fun (h : Later w9 w5) => h⟩
              case measure => simp [intOf]; omega
      · have hi2I : ¬ (i : Int) < 2 := by omega
        go_wp2_with (go_at_call 13; (with_reducible refine at_cw wr ?_); refine (lives_calls wr).mono ?_; rintro e w5 ⟨rfl, hB⟩; have L5 : Aside0 (Later wr w5) := ⟨hB⟩; clear hB)
        (try simp only [Exit.inBlock, Exit.then])
        refine bodyPost_ret (results_tmp rfl _ _ _) rfl ⟨rfl, ?_⟩
        exact LW.out.trans (Below.mono (Later.trans HB.out L5.out) LW.out.size)
  · have hG := HG6.out
    have hX6 := OwB.thru O_X.out L4.out hgw hG
    have hP6 := OwB.thru (HMP.out.own.below L3.out) L4.out hgw hG
    have hO6 := OwB.thru2 HO5.out hgw hG
    have gP := OwB.gu hP6 HMP.out.by_ hPl
    obtain ⟨q0, q1, q2, q3⟩ := HQ.out
    have hrows : Rws w6 ad6 4 := fun j hj => by
      rcases j with _ | _ | _ | _ | j
      · exact ⟨BX, dX, X, q0, OwB.gu hX6 Y_X.out.1 (Nat.le_trans Y_X.out.2 (by omega))⟩
      · exact ⟨BP, dP, P, q1, gP⟩
      · have hk2 : (P.take k).length = k := by rw [List.length_take]; omega
        have hct := (cutTo gP.rd hdP (k : Int) (by omega) (by omega)).2
        rw [Int.toNat_natCast] at hct
        exact ⟨BP, dP, P.take k, by rw [hk2]; exact q2, ⟨by rw [hk2]; exact hct, by omega, HMP.out.by_.take k, by omega⟩⟩
      · have hs2 : (P.set k c).length = P.length := List.length_set
        have hgo : Gu w6 (some ⟨go, 0, none⟩) dO (P.set k c) := OwB.gu hO6 (Bytes.set HMP.out.by_ k HC.out.1 HC.out.2) (by omega)
        exact ⟨some ⟨go, 0, none⟩, dO, P.set k c, by rw [hs2]; exact q3, hgo⟩
      · omega
    have hB4 : Below w.heap.size w w4 := Later.trans L1.out (Later.trans L2.out (Later.trans L3.out (Later.trans (below_alloc (Below.refl _ _) _) L4.out)))
    have hs3 : w.heap.size ≤ w3.heap.size := Later.size (Later.trans L1.out (Later.trans L2.out L3.out))
    have hB6 : Below w.heap.size w w6 := Below.grown (Below.alloc (Below.setCell hB4 (p := ⟨go, k, none⟩) (by show w.heap.size ≤ go; omega) (.int .u8 c)) (by have := hB4.size; simp; omega) _) hG (by have := hB4.size; simp; omega) (fun i hi => by
      have h1 : w3.heap.size = i := by simpa [Value.ownBlock] using hi
      omega)
    obtain ⟨w9, hw9⟩ : ∃ w', w' = w6.alloc (.cells #[.int .i64 most, .int .i64 am, .int .i64 4000] 3) := ⟨_, rfl⟩
    have HR : Aside0 (Rws w9 ad6 4) := ⟨by rw [hw9]; exact hrows.later (below_alloc (Below.refl _ _) _)⟩
    have hms9 := blk_new w6 (.cells #[.int .i64 most, .int .i64 am, .int .i64 4000] 3)
    rw [← hw9] at hms9
    obtain ⟨gm, hgm⟩ : ∃ gm, gm = w6.heap.size := ⟨_, rfl⟩
    rw [← hgm] at hms9
    have HMS : Aside0 (∀ j, j < 3 → ∃ z : Int, w9.cell? ⟨gm, j, none⟩ = some (.int .i64 z)) := ⟨ms_cells hms9⟩
    have hLW : Below w.heap.size w w9 := by rw [hw9]; exact hB6.alloc hB6.size _
    rw [← hgm, ← hw9]
    clear hgm hw9 hrows hms9 hB6 hB4 hs3 q0 q1 q2 q3 hG hX6 hP6 hO6 gP L1 L2 L3 O_X O_M HMP R_P R_X R_M E_X Y_X Y_M D_X HO5 HG6 HQ hcell hfz hcut hgw hg1 hg2 L4 O_O hk1 hkP
    have LW := Aside0.mk hLW
    clear hLW
    go_loopw [16, 17, 18, 19, 20, 21, 22, 23] (fun k _ _ _ _ _ _ _ wr => ∃ i : Nat, i ≤ 4 ∧ k = .int .i64 i ∧ Below w9.heap.size w9 wr) (fun k _ _ _ _ _ _ _ _ => 4 - (intOf k).toNat)
    case atStart => exact ⟨0, by omega, rfl, Below.refl _ _⟩
    case round =>
      obtain ⟨i, hi, rfl, hB⟩ := hrel
      have HB := Aside0.mk hB
      clear hB
      by_cases hi2 : i < 4
      · have hi2I : (i : Int) < 4 := by omega
        obtain ⟨B, d, Y, hcell0, hg⟩ := HR.out i hi2
        have HCELL := Aside0.mk hcell0
        have HG := Aside0.mk hg
        have hYl := hg.len
        clear hcell0 hg
        go_wp2
        obtain ⟨wa, rfl⟩ : ∃ wa, wa = wr := ⟨_, rfl⟩
        go_loopw [17, 18, 19, 20] (fun k _ _ _ wq => ∃ j : Nat, j ≤ 3 ∧ k = .int .i64 j ∧ Below w9.heap.size w9 wq) (fun k _ _ _ _ => 3 - (intOf k).toNat)
        case atStart => exact ⟨0, by omega, rfl, HB.out⟩
        case round =>
          obtain ⟨j, hj, rfl, hB⟩ := hrel
          have HQ := Aside0.mk hB
          clear hB
          by_cases hj3 : j < 3
          · have hj3I : (j : Int) < 3 := by omega
            obtain ⟨z, hz⟩ := HMS.out j hj3
            have hcell := pw_cell_below HQ.out HCELL.out
            have hzc := pw_cell_below HQ.out hz
            have HG1 := Aside0.mk (HG.out.later HQ.out)
            clear hz
            have HCD := Aside0.mk ((World.cell?_drew wr _).trans hcell)
            have HZD := Aside0.mk ((World.cell?_drew wr _).trans hzc)
            have HGD := Aside0.mk (HG1.out.later (Below.drew (Later.refl wr)))
            clear hcell hzc
            go_wp2_with fail
            refine seq_start [] (.take 0 (.take 1 (.take 2 (.take 3 (.take 4 (.take 5 (.take 6 (.take 7 (.run 8 (.take 9 (.take 10 (.take 11 (.take 12 (.take 13 .done)))))))))))))) (by kernel_rfl) (by kernel_rfl) (fun _ _ d _ _ h => by cases d <;> exact h) ?_
            refine seq_take (v := ?_) (a' := ?_) rfl rfl (by rfl) (fun w' hw' => ?_) ?_ ?_
            rotate_left 2
            · go_simp
              with_reducible rfl
            · simp only [Act.put, List.setIfInBounds_toArray, List.set_cons_zero, List.set_cons_succ, Go.Proofs.YtnohkhaagkkhjaaW.PrintLast.i64_w, Go.Proofs.YtnohkhaagkkhjaaW.PrintLast.i32_w]
              rfl
            refine seq_take (v := ?_) (a' := ?_) rfl rfl (by rfl) (fun w' hw' => ?_) ?_ ?_
            rotate_left 2
            · go_simp
              with_reducible rfl
            · simp only [Act.put, List.setIfInBounds_toArray, List.set_cons_zero, List.set_cons_succ, Go.Proofs.YtnohkhaagkkhjaaW.PrintLast.i64_w, Go.Proofs.YtnohkhaagkkhjaaW.PrintLast.i32_w]
              rfl
            refine seq_take (v := ?_) (a' := ?_) rfl rfl (by rfl) (fun w' hw' => ?_) ?_ ?_
            rotate_left 2
            · go_simp
              with_reducible rfl
            · simp only [Act.put, List.setIfInBounds_toArray, List.set_cons_zero, List.set_cons_succ, Go.Proofs.YtnohkhaagkkhjaaW.PrintLast.i64_w, Go.Proofs.YtnohkhaagkkhjaaW.PrintLast.i32_w]
              rfl
            refine seq_take (v := ?_) (a' := ?_) rfl rfl (by rfl) (fun w' hw' => ?_) ?_ ?_
            rotate_left 2
            · have hq := pw_cell_below hw' HCD.out; go_simp
              with_reducible rfl
            · simp only [Act.put, List.setIfInBounds_toArray, List.set_cons_zero, List.set_cons_succ, Go.Proofs.YtnohkhaagkkhjaaW.PrintLast.i64_w, Go.Proofs.YtnohkhaagkkhjaaW.PrintLast.i32_w]
              rfl
            refine seq_take (v := ?_) (a' := ?_) rfl rfl (by rfl) (fun w' hw' => ?_) ?_ ?_
            rotate_left 2
            · go_simp
              with_reducible rfl
            · simp only [Act.put, List.setIfInBounds_toArray, List.set_cons_zero, List.set_cons_succ, Go.Proofs.YtnohkhaagkkhjaaW.PrintLast.i64_w, Go.Proofs.YtnohkhaagkkhjaaW.PrintLast.i32_w]
              rfl
            refine seq_take (v := ?_) (a' := ?_) rfl rfl (by rfl) (fun w' hw' => ?_) ?_ ?_
            rotate_left 2
            · go_simp
              with_reducible rfl
            · simp only [Act.put, List.setIfInBounds_toArray, List.set_cons_zero, List.set_cons_succ, Go.Proofs.YtnohkhaagkkhjaaW.PrintLast.i64_w, Go.Proofs.YtnohkhaagkkhjaaW.PrintLast.i32_w]
              rfl
            refine seq_take (v := ?_) (a' := ?_) rfl rfl (by rfl) (fun w' hw' => ?_) ?_ ?_
            rotate_left 2
            · go_simp
              with_reducible rfl
            · simp only [Act.put, List.setIfInBounds_toArray, List.set_cons_zero, List.set_cons_succ, Go.Proofs.YtnohkhaagkkhjaaW.PrintLast.i64_w, Go.Proofs.YtnohkhaagkkhjaaW.PrintLast.i32_w]
              rfl
            refine seq_take (v := ?_) (a' := ?_) rfl rfl (by rfl) (fun w' hw' => ?_) ?_ ?_
            rotate_left 2
            · have hq := pw_cell_below hw' HZD.out; go_simp
              with_reducible rfl
            · simp only [Act.put, List.setIfInBounds_toArray, List.set_cons_zero, List.set_cons_succ, Go.Proofs.YtnohkhaagkkhjaaW.PrintLast.i64_w, Go.Proofs.YtnohkhaagkkhjaaW.PrintLast.i32_w]
              rfl
            refine seq_run ?_
            refine do_call rfl rfl (by rfl) rfl Try.func15 (by kernel_rfl) rfl #[.slice B Y.length d, .int .i64 z] (by simp only [List.map_toArray, List.map_cons, List.map_nil]; rfl) ?_
            with_reducible refine (unpack_calls B Y.length d Y z wr.drew HGD.out.rd HGD.out.by_ HGD.out.le (by omega)).mono ?_
            rintro e w5 ⟨⟨vx, rfl, hOx, hbx⟩, hB5⟩
            refine ⟨_, ?_, rfl, ?_, fun _ => hB5, ?_⟩
            rotate_left
            · simp only [Act.put, List.setIfInBounds_toArray, List.set_cons_zero, List.set_cons_succ, Go.Proofs.YtnohkhaagkkhjaaW.PrintLast.i64_w, Go.Proofs.YtnohkhaagkkhjaaW.PrintLast.i32_w]
              rfl
            obtain ⟨AX, dX', rfl, hdX, hrX⟩ := hOx.reads
            have L5 : Aside0 (Later wr.drew w5) := ⟨hB5⟩
            have RX := Aside0.mk hrX
            clear hOx hbx hB5 hrX
            refine seq_take (v := ?_) (a' := ?_) rfl rfl (by rfl) (fun w' hw' => ?_) ?_ ?_
            rotate_left 2
            · go_simp
              with_reducible rfl
            · simp only [Act.put, List.setIfInBounds_toArray, List.set_cons_zero, List.set_cons_succ, Go.Proofs.YtnohkhaagkkhjaaW.PrintLast.i64_w, Go.Proofs.YtnohkhaagkkhjaaW.PrintLast.i32_w]
              rfl
            refine seq_take (v := ?_) (a' := ?_) rfl rfl (by rfl) (fun w' hw' => ?_) ?_ ?_
            rotate_left 2
            · go_simp
              with_reducible rfl
            · simp only [Act.put, List.setIfInBounds_toArray, List.set_cons_zero, List.set_cons_succ, Go.Proofs.YtnohkhaagkkhjaaW.PrintLast.i64_w, Go.Proofs.YtnohkhaagkkhjaaW.PrintLast.i32_w]
              rfl
            refine seq_take (v := ?_) (a' := ?_) rfl rfl (by rfl) (fun w' hw' => ?_) ?_ ?_
            rotate_left 2
            · go_simp
              with_reducible rfl
            · simp only [Act.put, List.setIfInBounds_toArray, List.set_cons_zero, List.set_cons_succ, Go.Proofs.YtnohkhaagkkhjaaW.PrintLast.i64_w, Go.Proofs.YtnohkhaagkkhjaaW.PrintLast.i32_w]
              rfl
            refine seq_take (v := ?_) (a' := ?_) rfl rfl (by rfl) (fun w' hw' => ?_) ?_ ?_
            rotate_left 2
            · go_simp
              with_reducible rfl
            · simp only [Act.put, List.setIfInBounds_toArray, List.set_cons_zero, List.set_cons_succ, Go.Proofs.YtnohkhaagkkhjaaW.PrintLast.i64_w, Go.Proofs.YtnohkhaagkkhjaaW.PrintLast.i32_w]
              rfl
            refine seq_take (v := ?_) (a' := ?_) rfl rfl (by rfl) (fun w' hw' => ?_) ?_ ?_
            rotate_left 2
            · go_simp
              with_reducible rfl
            · simp only [Act.put, List.setIfInBounds_toArray, List.set_cons_zero, List.set_cons_succ, Go.Proofs.YtnohkhaagkkhjaaW.PrintLast.i64_w, Go.Proofs.YtnohkhaagkkhjaaW.PrintLast.i32_w]
              rfl
            refine seq_end ?_
            obtain ⟨r, hr⟩ : ∃ r, unp z Y = r := ⟨_, rfl⟩
            rw [hr] at RX hdX
            rw [hr]
            have HRU : Aside0 (∀ W, Gu W B d Y → Calls Try.prog 18 #[.slice B Y.length d, .int .i64 z] W fun e w' => RUPost W r e w') := ⟨fun W h => by rw [← hr]; exact runpack_calls B Y.length d Y z W h.rd h.by_ h.le (by have := h.len; omega)⟩
            have HG5 := Aside0.mk (HGD.out.later L5.out)
            have HG5d := Aside0.mk (HG5.out.later (Below.drew (Later.refl w5)))
            have HG5a : Aside0 (∀ o, Gu (w5.alloc o).drew B d Y) := ⟨fun o => (HG5.out.later (below_alloc (Below.refl _ w5) o)).later (Below.drew (Later.refl _))⟩
            have HC5 := Aside0.mk ((World.cell?_drew w5 _).trans (pw_cell_below L5.out HCD.out))
            have HZ5 := Aside0.mk ((World.cell?_drew w5 _).trans (pw_cell_below L5.out HZD.out))
            have HQ5 : Aside0 (Below w9.heap.size w9 w5) := ⟨Later.trans (Later.trans HQ.out (Below.drew (Later.refl wr))) L5.out |> fun (h : Later w9 w5) => h⟩
            clear hr
            go_wp2_with fail
            refine seq_start [10] (.take 0 (.take 1 (.take 2 (.take 3 (.take 4 (.take 5 (.take 6 (.take 7 (.fork 8 9 (.run 9 (.run 10 .done)) (.run 8 (.run 10 .done))))))))))) (by kernel_rfl) (by kernel_rfl) (fun _ _ d _ _ h => by cases d <;> exact h) ?_
            refine seq_take (v := ?_) (a' := ?_) rfl rfl (by rfl) (fun w' hw' => ?_) ?_ ?_
            rotate_left 2
            · go_simp
              with_reducible rfl
            · simp only [Act.put, List.setIfInBounds_toArray, List.set_cons_zero, List.set_cons_succ, Go.Proofs.YtnohkhaagkkhjaaW.PrintLast.i64_w, Go.Proofs.YtnohkhaagkkhjaaW.PrintLast.i32_w]
              rfl
            refine seq_take (v := ?_) (a' := ?_) rfl rfl (by rfl) (fun w' hw' => ?_) ?_ ?_
            rotate_left 2
            · go_simp
              with_reducible rfl
            · simp only [Act.put, List.setIfInBounds_toArray, List.set_cons_zero, List.set_cons_succ, Go.Proofs.YtnohkhaagkkhjaaW.PrintLast.i64_w, Go.Proofs.YtnohkhaagkkhjaaW.PrintLast.i32_w]
              rfl
            refine seq_take (v := ?_) (a' := ?_) rfl rfl (by rfl) (fun w' hw' => ?_) ?_ ?_
            rotate_left 2
            · go_simp
              with_reducible rfl
            · simp only [Act.put, List.setIfInBounds_toArray, List.set_cons_zero, List.set_cons_succ, Go.Proofs.YtnohkhaagkkhjaaW.PrintLast.i64_w, Go.Proofs.YtnohkhaagkkhjaaW.PrintLast.i32_w]
              rfl
            refine seq_take (v := ?_) (a' := ?_) rfl rfl (by rfl) (fun w' hw' => ?_) ?_ ?_
            rotate_left 2
            · have hq := pw_cell_below hw' HC5.out; go_simp
              with_reducible rfl
            · simp only [Act.put, List.setIfInBounds_toArray, List.set_cons_zero, List.set_cons_succ, Go.Proofs.YtnohkhaagkkhjaaW.PrintLast.i64_w, Go.Proofs.YtnohkhaagkkhjaaW.PrintLast.i32_w]
              rfl
            refine seq_take (v := ?_) (a' := ?_) rfl rfl (by rfl) (fun w' hw' => ?_) ?_ ?_
            rotate_left 2
            · go_simp
              with_reducible rfl
            · simp only [Act.put, List.setIfInBounds_toArray, List.set_cons_zero, List.set_cons_succ, Go.Proofs.YtnohkhaagkkhjaaW.PrintLast.i64_w, Go.Proofs.YtnohkhaagkkhjaaW.PrintLast.i32_w]
              rfl
            refine seq_take (v := ?_) (a' := ?_) rfl rfl (by rfl) (fun w' hw' => ?_) ?_ ?_
            rotate_left 2
            · go_simp
              with_reducible rfl
            · simp only [Act.put, List.setIfInBounds_toArray, List.set_cons_zero, List.set_cons_succ, Go.Proofs.YtnohkhaagkkhjaaW.PrintLast.i64_w, Go.Proofs.YtnohkhaagkkhjaaW.PrintLast.i32_w]
              rfl
            refine seq_take (v := ?_) (a' := ?_) rfl rfl (by rfl) (fun w' hw' => ?_) ?_ ?_
            rotate_left 2
            · go_simp
              with_reducible rfl
            · simp only [Act.put, List.setIfInBounds_toArray, List.set_cons_zero, List.set_cons_succ, Go.Proofs.YtnohkhaagkkhjaaW.PrintLast.i64_w, Go.Proofs.YtnohkhaagkkhjaaW.PrintLast.i32_w]
              rfl
            refine seq_take (v := ?_) (a' := ?_) rfl rfl (by rfl) (fun w' hw' => ?_) ?_ ?_
            rotate_left 2
            · have hq := pw_cell_below hw' HZ5.out; go_simp
              with_reducible rfl
            · simp only [Act.put, List.setIfInBounds_toArray, List.set_cons_zero, List.set_cons_succ, Go.Proofs.YtnohkhaagkkhjaaW.PrintLast.i64_w, Go.Proofs.YtnohkhaagkkhjaaW.PrintLast.i32_w]
              rfl
            refine seq_fork ?_ ?_
            · refine do_call rfl rfl (by rfl) rfl Try.func18 (by kernel_rfl) rfl #[.slice B Y.length d, .int .i64 z] (by simp only [List.map_toArray, List.map_cons, List.map_nil]; rfl) ?_
              with_reducible refine (HRU.out _ HG5d.out).mono ?_
              rintro e w6 ⟨AU, cU, nU, rfl, hOU, hbU, hBU⟩
              refine ⟨_, ?_, rfl, ?_, fun _ => hBU, ?_⟩
              rotate_left
              · simp only [Act.put, List.setIfInBounds_toArray, List.set_cons_zero, List.set_cons_succ, Go.Proofs.YtnohkhaagkkhjaaW.PrintLast.i64_w, Go.Proofs.YtnohkhaagkkhjaaW.PrintLast.i32_w]
                rfl
              refine seq_run ?_
              refine do_val (v := ?_) (a' := ?_) (w1 := ?_) rfl rfl (by rfl) ?_ ?_ ?_
              rotate_left 3
              · go_simp
                constructor <;> rfl
              · simp only [Act.put, List.setIfInBounds_toArray, List.set_cons_zero, List.set_cons_succ, Go.Proofs.YtnohkhaagkkhjaaW.PrintLast.i64_w, Go.Proofs.YtnohkhaagkkhjaaW.PrintLast.i32_w]
                rfl
              refine ⟨fun _ => below_alloc (Below.refl _ _) _, ?_⟩
              refine seq_run ?_
              refine do_blk rfl rfl (by rfl) 43 (.tmp 20) (.tmp 85) rfl rfl rfl (blk_new w6 _) rfl (sizeU _ nU r.E) (ucs_one AU _ cU nU r.E) ?_
              rintro w7 HS7
              refine ⟨fun h => absurd (by simp) h, ?_⟩
              refine seq_end ?_
              have L67 : Later w6 w7 := (below_alloc (Below.refl _ w6) _).trans (HS7.below (Nat.le_refl _))
              have hu0 : w7.cell? ⟨w6.heap.size, 0, none⟩ = some (.slice AU r.B.length cU) := by rw [blk_cell HS7.at_]; rfl
              have hu2 : w7.cell? ⟨w6.heap.size, 2, none⟩ = some (.int .i64 r.E) := by rw [blk_cell HS7.at_]; rfl
              have hs1 := conv_str (Kd.C_below RX.out (Later.trans (Below.drew (Later.refl w5)) (Later.trans hBU L67))) dX'
              have hs2 := conv_str (Kd.C_below (OwB.parts hOU).2 L67) cU
              have HQ7 : Aside0 (Below w9.heap.size w9 w7) := ⟨Later.trans HQ5.out (Later.trans (Below.drew (Later.refl w5)) (Later.trans hBU L67)) |> fun (h : Later w9 w7) => h⟩
              clear L67 hOU hbU hBU HS7
              go_wp2
              go_roundw
              case rel => exact ⟨j + 1, by omega, by go_num, HQ7.out⟩
              case measure => simp [intOf]; omega
            · refine do_val (v := ?_) (a' := ?_) (w1 := ?_) rfl rfl (by rfl) ?_ ?_ ?_
              rotate_left 3
              · go_simp
                constructor <;> rfl
              · simp only [Act.put, List.setIfInBounds_toArray, List.set_cons_zero, List.set_cons_succ, Go.Proofs.YtnohkhaagkkhjaaW.PrintLast.i64_w, Go.Proofs.YtnohkhaagkkhjaaW.PrintLast.i32_w]
                rfl
              refine ⟨fun _ => below_alloc (Below.refl _ _) _, ?_⟩
              refine seq_run ?_
              refine do_call rfl rfl (by rfl) rfl Try.func18 (by kernel_rfl) rfl #[.slice B Y.length d, .int .i64 z] (by simp only [List.map_toArray, List.map_cons, List.map_nil]; rfl) ?_
              with_reducible refine (HRU.out _ (HG5a.out _)).mono ?_
              rintro e w6 ⟨AU, cU, nU, rfl, hOU, hbU, hBU⟩
              refine ⟨_, ?_, rfl, ?_, fun _ => hBU, ?_⟩
              rotate_left
              · simp only [Act.put, List.setIfInBounds_toArray, List.set_cons_zero, List.set_cons_succ, Go.Proofs.YtnohkhaagkkhjaaW.PrintLast.i64_w, Go.Proofs.YtnohkhaagkkhjaaW.PrintLast.i32_w]
                rfl
              have hblk := Later.heap hBU (blk_new w5 (.cells #[.slice none 0 0, .int .i64 0, .int .i64 0] 43))
              refine seq_run ?_
              refine do_blk rfl rfl (by rfl) 43 (.tmp 20) (.tmp 85) rfl rfl rfl hblk rfl (sizeU _ nU r.E) (ucs_one AU _ cU nU r.E) ?_
              rintro w7 HS7
              refine ⟨fun h => absurd (by simp) h, ?_⟩
              refine seq_end ?_
              have L56 : Later w5 w6 := Later.trans (below_alloc (Below.refl _ w5) _) (Later.trans (Below.drew (Later.refl _)) hBU)
              have F67 : Fr w6 w7 (fun i => i = w5.heap.size) := (Fr.refl w6 _).set HS7 (.inl rfl)
              have hu0 : w7.cell? ⟨w5.heap.size, 0, none⟩ = some (.slice AU r.B.length cU) := by rw [blk_cell HS7.at_]; rfl
              have hu2 : w7.cell? ⟨w5.heap.size, 2, none⟩ = some (.int .i64 r.E) := by rw [blk_cell HS7.at_]; rfl
              have hs1 := conv_str (F67.rdB (Kd.C_below RX.out L56) (fun ad' e hp h => by subst e; have := rdB_lt RX.out hp; omega)) dX'
              have hs2 := conv_str (OwB.parts (F67.ownB hOU (fun q hq e => by have := Kd.R_base hOU q hq; simp at this; omega))).2 cU
              have HQ7 : Aside0 (Below w9.heap.size w9 w7) := ⟨HQ5.out.trans (Below.trans (L56.mono HQ5.out.size) (F67.below (fun q hq => by have := HQ5.out.size; omega) (Nat.le_trans HQ5.out.size (Later.size L56))))⟩
              clear L56 F67 hOU hbU hBU HS7 hblk
              go_wp2
              go_roundw
              case rel => exact ⟨j + 1, by omega, by go_num, HQ7.out⟩
              case measure => simp [intOf]; omega
          · have hj3I : ¬ (j : Int) < 3 := by omega
            have hcell := pw_cell_below HQ.out HCELL.out
            have HG1 := Aside0.mk (HG.out.later HQ.out)
            have HG2 := Aside0.mk (fun w5 (h : Later wr w5) => HG1.out.later h)
            rcases hcn : cnt Y with _ | kk
            · have HCN := Aside0.mk hcn
              clear hcn
              go_wp2_with (first
                | (go_at_call 19; (with_reducible refine at_cw wr ?_); refine (count_calls B Y.length d Y wr HG1.out.rd HG1.out.by_ HG1.out.le (by omega)).mono ?_; rintro e w5 ⟨hp, hB⟩; obtain rfl := hp.none_ HCN.out; have L5 : Aside0 (Later wr w5) := ⟨hB⟩; have hcell5 := pw_cell_below hB hcell; clear hp hB)
                | (go_at_call 20; (with_reducible refine at_cw w5 ?_); refine (rcount_calls B Y.length d Y w5 (HG1.out.later L5.out).rd HG1.out.by_ (by omega)).mono ?_; rintro e u0 ⟨hp, rfl⟩; obtain rfl := hp.none_ HCN.out; clear hp))
              go_roundw
              case rel => exact ⟨i + 1, by omega, by go_num, Later.trans HQ.out L5.out |> fun (h : Later w9 w5) => h⟩
              case measure => simp [intOf]; omega
            · have HCN := Aside0.mk hcn
              clear hcn
              go_wp2_with (first
                | (go_at_call 19; (with_reducible refine at_cw wr ?_); refine (count_calls B Y.length d Y wr HG1.out.rd HG1.out.by_ HG1.out.le (by omega)).mono ?_; rintro e w5 ⟨hp, hB⟩; obtain rfl := hp.some_ HCN.out; have L5 : Aside0 (Later wr w5) := ⟨hB⟩; have hcell5 := pw_cell_below hB hcell; clear hp hB)
                | (go_at_call 20; (with_reducible refine at_cw w5 ?_); refine (rcount_calls B Y.length d Y w5 (HG1.out.later L5.out).rd HG1.out.by_ (by omega)).mono ?_; rintro e u0 ⟨hp, rfl⟩; obtain rfl := hp.some_ HCN.out; clear hp))
              go_roundw
              case rel => exact ⟨i + 1, by omega, by go_num, Later.trans HQ.out L5.out |> fun (h : Later w9 w5) => h⟩
              case measure => simp [intOf]; omega
      · have hi2I : ¬ (i : Int) < 4 := by omega
        go_wp2_with (go_at_call 13; (with_reducible refine at_cw wr ?_); refine (lives_calls wr).mono ?_; rintro e w5 ⟨rfl, hB⟩; have L5 : Aside0 (Later wr w5) := ⟨hB⟩; clear hB)
        (try simp only [Exit.inBlock, Exit.then])
        refine bodyPost_ret (results_tmp rfl _ _ _) rfl ⟨rfl, ?_⟩
        exact LW.out.trans (Below.mono (Later.trans HB.out L5.out) LW.out.size)
end Go.Proofs.Ytnohkhaagkkhjaa
