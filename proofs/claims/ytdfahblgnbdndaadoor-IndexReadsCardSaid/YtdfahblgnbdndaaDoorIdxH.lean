/- The law IndexRound: its walk. Conditions: what its arguments read, and what sha's table of roots holds. -/
import Derived.Test.YtdfahblgnbdndaaDoorIdxG
import Derived.Test.YtdfahblgnbdndaaDoorIdxD
namespace Go.Proofs.YtdfahblgnbdndaaDoor
open Go.RowKit Go.Shelf Go.Proofs.YtdfahblgnbdndaaDoorW.PrintWords Go.Proofs.YtdfahblgnbdndaaDoorW.PrintMore
set_option linter.unusedVariables false
set_option linter.unusedSimpArgs false
theorem rdI_len {w : World} {A : Option Addr} {n : Nat} {its : List Itm} (h : RdI w A n its) : ∀ x ∈ its, x.1.length = 32 := by
  intro x hx
  obtain ⟨k, hk⟩ := List.mem_iff_getElem?.1 hx
  have hl := (List.getElem?_eq_some_iff.1 hk).1
  have hn := h.1
  obtain ⟨_, _, h32, _⟩ := kf_at h ([], 0) k (by omega)
  rwa [List.getD_eq_getElem?_getD, hk] at h32
theorem owI_set {w w1 : World} {g base T : Nat} {fr : Nat × Nat} {v : Value} {its : List Itm} {o : Obj} {cs : Array Value} (h : OwI w base v its) (hS : SetBlk w w1 g o) (hg : w.heap[g]? = some (.cells cs T fr)) (hT : T ≠ 41) : OwI w1 base v its :=
  kf_move h fun q cells hq hc => hS.else_ q (fun e => by
    subst e
    rw [hg] at hc
    injection hc with hc
    injection hc with _ hc
    exact hT hc)
theorem sameX_self (a b c : Int) (im : List Int) (its : List Itm) : sameX a b c im its a b c im its = true := by simp [sameX]
theorem mayX_own {a b c : Nat} (hm : mayB a b c = true) (xs : List Int) (hl : xs.length ≤ 4000) : mayX a b c (itsOf (al a c (pw b) [] xs)) = true ∧ (itsOf (al a c (pw b) [] xs)).length ≤ 4001 ∧ ∀ x ∈ itsOf (al a c (pw b) [] xs), 0 ≤ x.2 ∧ x.2 ≤ 4096 := by
  obtain ⟨_, _, _, ea, eb, ec, m1, m2, m3, m4⟩ := mayB_nat hm
  obtain rfl := Int.ofNat.inj ea
  obtain rfl := Int.ofNat.inj eb
  obtain rfl := Int.ofNat.inj ec
  have hs := al_sizes (a := a) (c := c) (p := pw b) (xs := xs) (by omega) (by omega)
  have hcnt : (al a c (pw b) [] xs).length ≤ xs.length + 1 := al_count
  have hflat : (al a c (pw b) [] xs).flatten = xs := al_flat xs
  obtain ⟨CH, hCH⟩ : ∃ CH, al a c (pw b) [] xs = CH := ⟨_, rfl⟩
  rw [hCH] at hs hcnt hflat ⊢
  have e : ∀ k, k < CH.length → ((itsOf CH).getD k ([], 0)).2 = ((CH.getD k []).length : Int) := fun k hk => by
    simp [itsOf, List.getD_eq_getElem?_getD, hk]
  have hall : allOk a c (itsOf CH) (itsOf CH).length := by
    intro k hk
    rw [itsOf_len] at hk
    obtain ⟨h1, h2, h3⟩ := hs k hk
    unfold okI sz
    rw [e k hk, itsOf_len]
    refine ⟨by omega, by omega, fun h => ?_⟩
    have := h3 h
    omega
  refine ⟨?_, by rw [itsOf_len]; omega, fun x hx => ?_⟩
  · rw [mayX_end hm (by rw [itsOf_len]; omega) hall, tot_itsOf, hflat]
    exact decide_eq_true (by omega)
  · obtain ⟨k, hk⟩ := List.mem_iff_getElem?.1 hx
    have hkl := (List.getElem?_eq_some_iff.1 hk).1
    rw [itsOf_len] at hkl
    have h1 := e k hkl
    rw [List.getD_eq_getElem?_getD, hk] at h1
    have h2 := (hs k hkl).2.1
    simp only [Option.getD_some] at h1
    omega
theorem itsOf_bytes (CH : List (List Int)) : ∀ x ∈ itsOf CH, Bytes x.1 := by
  intro x hx
  obtain ⟨c, _, rfl⟩ := List.mem_map.1 hx
  exact shaL_bytes c
/-- What is written is read as it was. -/
theorem iread_back (a b c : Nat) (im : List Int) (its : List Itm) (A : Option Addr) (d : Nat) (w : World) (hn : im.length = 32) (hl : ∀ x ∈ its, x.1.length = 32) (hm : mayX a b c its = true) (hs : ∀ x ∈ its, 0 ≤ x.2 ∧ x.2 ≤ 4096) (hib : Bytes im) (hnb : ∀ x ∈ its, Bytes x.1) (h : RdB w A (xbytes a b c im its).length (xbytes a b c im its)) (hd : (xbytes a b c im its).length ≤ d) :
    Calls Tryd.prog 31 #[.slice A (xbytes a b c im its).length d] w fun e w' => ∃ B cp, e = .returned (.tuple #[.agg (Xc a b c im (.slice B its.length cp)).toArray, .int .i64 0]) ∧ RdI w' B its.length its ∧ Below w.heap.size w w' := by
  obtain ⟨hmb, hl4, -, -⟩ := mayX_spec hm
  obtain ⟨_, _, _, ea, eb, ec, m1, m2, m3, m4⟩ := mayB_nat hmb
  obtain rfl := Int.ofNat.inj ea
  obtain rfl := Int.ofNat.inj eb
  obtain rfl := Int.ofNat.inj ec
  have hlen : (xbytes a b c im its).length = 56 + 36 * its.length := by
    unfold xbytes
    rw [cput_length, xbody_len hn hl]
    omega
  refine (iread_calls A _ d _ w h hd (cput_bytes (xbody_bytes hib hnb)) (by omega)).mono ?_
  rintro e w' ⟨a', b', c', im', its', er, B, n, cp, hn', hn4, rfl, hr, hx, hB⟩
  have hx' := hx.out
  rw [XR_bytes hn hl hm (by omega) (by omega) (by omega) (fun x hx => by have := hs x hx; omega) hib hnb] at hx'
  simp only [Prod.mk.injEq] at hx'
  obtain ⟨rfl, rfl, rfl, rfl, rfl, rfl⟩ := hx'
  obtain rfl := hr.out.1
  exact ⟨B, cp, rfl, hr.out, hB⟩
set_option maxRecDepth 20000 in
set_option maxHeartbeats 6400000 in
theorem indexRound_walk (pa pb pc : Int) (im : List Int) (A : Option Addr) (n cp : Nat) (its : List Itm) (A1 : Option Addr) (n1 c1 : Nat) (bs : List Int) (w : World) (ha : Wf64 pa) (hb : Wf64 pb) (hc : Wf64 pc) (him : im.length = 32) (hib : Bytes im) (hr : RdI w A n its) (hall : ∀ x ∈ its, Bytes x.1 ∧ Wf64 x.2) (hbs : RdB w A1 n1 bs) (hn1 : n1 ≤ c1) (hbb : Bytes bs) (hK : Roots w) :
    Calls Tryd.prog 8 #[.agg (Xc pa pb pc im (.slice A n cp)).toArray, .slice A1 n1 c1] w fun e w' => e = .returned (.bool true) ∧ Below w.heap.size w w' := by
  obtain ⟨a0, b0, c0, ea, eb, ec, _, _, _, hc70, hm⟩ := good_nat pa pb pc
  have HGD : Aside0 (∀ w : World, Calls Tryd.prog 23 #[.agg #[.int .i64 pa, .int .i64 pb, .int .i64 pc]] w fun e w' => e = .returned (.agg #[.int .i64 (a0 : Int), .int .i64 (b0 : Int), .int .i64 (c0 : Int)]) ∧ Below w.heap.size w w') := ⟨fun w => by
    have h := good_calls pa pb pc w ha.1 ha.2 hb.1 hb.2 hc.1 hc.2
    rwa [ea, eb, ec] at h⟩
  have HM := Aside0.mk hm
  have HX := Aside0.mk hr
  have HBS := Aside0.mk hbs
  have HBB := Aside0.mk hbb
  have HK := Aside0.mk hK
  have HIB := Aside0.mk hib
  have HIM := Aside0.mk him
  have hsm : ∀ x ∈ its, -9223372036854775808 ≤ x.2 ∧ x.2 ≤ 9223372036854775807 := fun x hx => (hall x hx).2
  have HSM := Aside0.mk hsm
  have hGL := goodIts_len a0 c0 its
  have HMG := Aside0.mk (mayX_good hm hc70 its)
  have HNG : Aside0 (∀ x ∈ goodIts a0 c0 its, x.1.length = 32) := ⟨fun x hx => by
    obtain ⟨⟨y, hy, e⟩, _⟩ := goodIts_all (by omega) x hx
    rw [e]; exact rdI_len hr y hy⟩
  have HSG : Aside0 (∀ x ∈ goodIts a0 c0 its, 0 ≤ x.2 ∧ x.2 ≤ 4096) := ⟨fun x hx => by
    obtain ⟨_, h1, h2⟩ := goodIts_all (by omega) x hx
    omega⟩
  have HBG : Aside0 (∀ x ∈ goodIts a0 c0 its, Bytes x.1) := ⟨fun x hx => by
    obtain ⟨⟨y, hy, e⟩, _⟩ := goodIts_all (by omega) x hx
    rw [e]; exact (hall y hy).1⟩
  obtain ⟨GI, hGI⟩ : ∃ GI, goodIts a0 c0 its = GI := ⟨_, rfl⟩
  have HGI := Aside0.mk hGI
  rw [hGI] at hGL HMG HNG HSG HBG
  have hGL6 : GI.length ≤ 6 := by omega
  clear ha hb hc hr hall hK hm ea eb ec hib hsm hbs hbb hGL hGI him
  have Q0 : Bag w (w.alloc (.cells (Xc pa pb pc im (.slice A n cp)).toArray 38)) [(w.heap.size, .cells (Xc pa pb pc im (.slice A n cp)).toArray 38 (0, 0))] := (Bag.nil w).box _ _
  go_enter Tryd.func8, Tryd.ntmps8
  go_upto_region 4 with (first
    | ((with_reducible refine at_ld 38 (.tmp 2) ?_); refine load_arm rfl 38 (.tmp 2) rfl rfl (ld_rx (Q0.at 0 rfl) HIM.out) ?_; simp only [Act.put, List.setIfInBounds_toArray, List.set_cons_zero, List.set_cons_succ])
    | (go_at_call 14; refine (rgood_calls pa pb pc im A n cp its _ _ a0 b0 c0 rfl HIM.out (Kd.C_below HX.out Q0.below) HGD.out HM.out hc70 HSM.out).mono ?_; rw [HGI.out]; rintro e u1 ⟨v, rfl, hO, hB⟩; have Q1 := Q0.call hB; obtain ⟨B1, cp1, rfl, hcp1, hr1⟩ := Kd.R_reads hO; have HR1 := Aside0.mk hr1; clear hO hB hr1 hcp1)
    | ((with_reducible refine at_al 38 ?_); refine new_rx rfl rfl rfl rfl (.tmp 17) rfl (of_decide_eq_true rfl) rfl HIM.out rfl ?_; rintro u2 g5 N1; have Q2 := Q1.new N1; have HR2 : Aside0 (RdI u2 B1 GI.length GI) := ⟨Kd.C_below HR1.out N1.below⟩; clear N1)
    | ((with_reducible refine at_ld (w := u2) 38 (.tmp 5) ?_); have hq := Q2.at 1 rfl; refine load_arm rfl 38 (.tmp 5) rfl rfl (ld_rx hq HIM.out) ?_; clear hq; simp only [Act.put, List.setIfInBounds_toArray, List.set_cons_zero, List.set_cons_succ])
    | (go_at_call 18; refine (xof_calls a0 b0 c0 im B1 GI.length cp1 _ u2 rfl HIM.out).mono ?_; rintro e u3 ⟨rfl, hB⟩; have Q3 := Q2.call hB; have HR3 : Aside0 (RdI u3 B1 GI.length GI) := ⟨Kd.C_below HR2.out hB⟩; clear hB)
    | (go_at_call 17; refine (iwrite_ok a0 b0 c0 im B1 GI.length cp1 GI _ u3 rfl HIM.out HR3.out HMG.out HIB.out HBG.out).mono ?_; rintro e u4 ⟨v4, rfl, hO, hB⟩; have Q4 := Q3.call hB; have HR4 : Aside0 (RdI u4 B1 GI.length GI) := ⟨Kd.C_below HR3.out hB⟩; obtain ⟨B4, c4, hv4, hc4, hr4⟩ := OwB.reads hO; have HW4 := Aside0.mk hr4; have HC4 := Aside0.mk hc4; clear hO hB hr4 hc4; subst hv4)
    | (go_at_call 31; refine (iread_back a0 b0 c0 im GI B4 c4 u4 HIM.out HNG.out HMG.out HSG.out HIB.out HBG.out HW4.out HC4.out).mono ?_; rintro e u5 ⟨B5, c5, rfl, hr5, hB⟩; have Q5 := Q4.call hB; have HR5 : Aside0 (RdI u5 B1 GI.length GI) := ⟨Kd.C_below HR4.out hB⟩; have HY5 := Aside0.mk hr5; clear hB hr5)
    | ((with_reducible refine at_al 29 ?_); refine new_x rfl rfl rfl rfl (.tmp 27) rfl (of_decide_eq_true rfl) rfl HIM.out rfl ?_; rintro u6 g8 N2; have Q6 := Q5.new N2; have HR6 : Aside0 (RdI u6 B1 GI.length GI) := ⟨Kd.C_below HR5.out N2.below⟩; have HY6 : Aside0 (RdI u6 B5 GI.length GI) := ⟨Kd.C_below HY5.out N2.below⟩; clear N2)
    | fail)
  have HQ6 := Aside0.mk Q6
  clear Q0 Q1 Q2 Q3 Q4 Q5 Q6 HR1 HR2 HR3 HR4 HR5 HY5 HW4 HC4
  (try simp only [Act.put, List.setIfInBounds_toArray, List.set_cons_zero, List.set_cons_succ])
  obtain ⟨ys, hys⟩ : ∃ ys, ys = bs.take 100 := ⟨_, rfl⟩
  have HYS := Aside0.mk hys
  have hyl : ys.length ≤ 100 := by rw [hys, List.length_take]; omega
  have HYB : Aside0 (Bytes ys) := ⟨by rw [hys]; exact HBB.out.take _⟩
  obtain ⟨hmo, hol, hos⟩ := mayX_own HM.out ys (by omega)
  have hcount : (al a0 c0 (pw b0) [] ys).length ≤ 4001 := by rw [← itsOf_len]; exact hol
  obtain ⟨CI, hCI⟩ : ∃ CI, itsOf (al a0 c0 (pw b0) [] ys) = CI := ⟨_, rfl⟩
  have HCN : Aside0 (∀ x ∈ CI, x.1.length = 32) := ⟨by rw [← hCI]; exact itsOf_all _⟩
  have HCB : Aside0 (∀ x ∈ CI, Bytes x.1) := ⟨by rw [← hCI]; exact itsOf_bytes _⟩
  have HIOF : Aside0 (∀ (W : World) (B : Option Addr) (m d : Nat), RdB W B m ys → Roots W → Calls Tryd.prog 11 #[.slice B m d, .agg #[.int .i64 (a0 : Int), .int .i64 (b0 : Int), .int .i64 (c0 : Int)]] W fun e w' => ∃ v, e = .returned (.tuple #[.agg (Xc a0 b0 c0 (shaL ys) v).toArray, .int .i64 0]) ∧ OwI w' W.heap.size v CI ∧ Below W.heap.size W w') := ⟨fun W B m d h hk => by
    have h2 := iof_ok a0 b0 c0 B m d ys W HM.out h HYB.out hk (by have := h.1; omega) (by omega)
    rwa [hCI] at h2⟩
  rw [hCI] at hmo hol hos
  have HMO := Aside0.mk hmo
  have HOS := Aside0.mk hos
  have hsl := shaL_len ys
  have HSL := Aside0.mk hsl
  have HSB := Aside0.mk (shaL_bytes ys)
  obtain ⟨dg, hdg⟩ : ∃ dg, shaL ys = dg := ⟨_, rfl⟩
  rw [hdg] at HIOF HSL HSB
  clear hmo hos hsl hys hCI hcount hdg
  go_cut [10, 11] (fun p q wx => q = .int .i64 0 ∧ ∃ (g : Nat) (B : Option Addr) (d : Nat), p = .pointer (some ⟨g, 0, none⟩) ∧ u6.heap.size ≤ g ∧ wx.heap[g]? = some (.cells (Xc a0 b0 c0 dg (.slice B CI.length d)).toArray 29 (0, 0)) ∧ RdI wx B CI.length CI ∧ Below u6.heap.size u6 wx)
  case first =>
    have HB6 := Aside0.mk HQ6.out.below
    refine seq_startN [9] (.take 0 (.take 2 (.take 3 (.fork 1 8 (.fork 4 8 (.take 5 (.take 6 (.pure 7 (.run 8 (.run 9 (.take 10 .done)))))) (.run 4 (.take 5 (.take 6 (.pure 7 (.run 9 (.take 10 .done))))))) (.run 1 (.run 4 (.take 5 (.take 6 (.pure 7 (.run 9 (.take 10 .done))))))))))) (by kernel_rfl) (by kernel_rfl) ?_
    refine seq_take (v := ?_) (a' := ?_) rfl rfl (by rfl) (fun w' hw' => ?_) ?_ ?_
    rotate_left 2
    · go_simp
      with_reducible rfl
    · simp only [Act.put, List.setIfInBounds_toArray, List.set_cons_zero, List.set_cons_succ, Go.Proofs.YtdfahblgnbdndaaDoorW.PrintLast.i64_w, Go.Proofs.YtdfahblgnbdndaaDoorW.PrintLast.i32_w]
      rfl
    refine seq_take (v := ?_) (a' := ?_) rfl rfl (by rfl) (fun w' hw' => ?_) ?_ ?_
    rotate_left 2
    · go_simp
      with_reducible rfl
    · simp only [Act.put, List.setIfInBounds_toArray, List.set_cons_zero, List.set_cons_succ, Go.Proofs.YtdfahblgnbdndaaDoorW.PrintLast.i64_w, Go.Proofs.YtdfahblgnbdndaaDoorW.PrintLast.i32_w]
      rfl
    refine seq_take (v := _) (a' := ?_) rfl rfl (by rfl) (fun w' hw' => load_run rfl rfl (x_params (Later.heap hw' (show u6.drew.heap[g5]? = _ from HQ6.out.at 1 rfl)))) ?_ ?_
    rotate_left
    · simp only [Act.put, List.setIfInBounds_toArray, List.set_cons_zero, List.set_cons_succ, Go.Proofs.YtdfahblgnbdndaaDoorW.PrintLast.i64_w, Go.Proofs.YtdfahblgnbdndaaDoorW.PrintLast.i32_w]
      rfl
    refine seq_fork ?_ ?_
    · refine do_call rfl rfl (by rfl) rfl Tryd.func22 (by kernel_rfl) rfl #[.slice A1 n1 c1, .int .i64 100] (by simp only [List.map_toArray, List.map_cons, List.map_nil]; rfl) ?_
      with_reducible refine (few_new A1 n1 c1 bs 100 _ (Kd.C_below HBS.out (Below.drew HB6.out)) hn1 HBB.out (by omega) (by omega)).mono ?_
      rintro e v7 ⟨B7, d7, y7, rfl, E7, hby7, O7, hd7, hl7, R7, hB7⟩
      refine ⟨_, ?_, rfl, ?_, fun _ => hB7, ?_⟩
      rotate_left
      · simp only [Act.put, List.setIfInBounds_toArray, List.set_cons_zero, List.set_cons_succ, Go.Proofs.YtdfahblgnbdndaaDoorW.PrintLast.i64_w, Go.Proofs.YtdfahblgnbdndaaDoorW.PrintLast.i32_w]
        rfl
      have e7 : y7 = ys := E7.out.trans HYS.out.symm
      have L7 : Below u6.heap.size u6 v7 := (Below.drew (Below.refl _ _)).trans hB7
      have R7' : RdB v7 B7 y7.length ys := by
        have h := R7.out
        rw [e7] at h ⊢
        exact h
      refine seq_fork ?_ ?_
      · refine do_call rfl rfl (by rfl) rfl Tryd.func11 (by kernel_rfl) rfl #[.slice B7 y7.length d7, .agg #[.int .i64 (a0 : Int), .int .i64 (b0 : Int), .int .i64 (c0 : Int)]] (by simp only [List.map_toArray, List.map_cons, List.map_nil]; rfl) ?_
        with_reducible refine (HIOF.out v7 B7 y7.length d7 R7' (HK.out.below (HB6.out.trans (L7.mono HB6.out.size)))).mono ?_
        rintro e v8 ⟨vv, rfl, hO8, hB8⟩
        refine ⟨_, ?_, rfl, ?_, fun _ => hB8, ?_⟩
        rotate_left
        · simp only [Act.put, List.setIfInBounds_toArray, List.set_cons_zero, List.set_cons_succ, Go.Proofs.YtdfahblgnbdndaaDoorW.PrintLast.i64_w, Go.Proofs.YtdfahblgnbdndaaDoorW.PrintLast.i32_w]
          rfl
        obtain ⟨B8, d8, rfl, hd8, hr8⟩ := Kd.R_reads hO8
        have L8 : Below u6.heap.size u6 v8 := L7.trans (hB8.mono L7.size)
        refine seq_take (v := ?_) (a' := ?_) rfl rfl (by rfl) (fun w' hw' => ?_) ?_ ?_
        rotate_left 2
        · go_simp
          with_reducible rfl
        · simp only [Act.put, List.setIfInBounds_toArray, List.set_cons_zero, List.set_cons_succ, Go.Proofs.YtdfahblgnbdndaaDoorW.PrintLast.i64_w, Go.Proofs.YtdfahblgnbdndaaDoorW.PrintLast.i32_w]
          rfl
        refine seq_take (v := ?_) (a' := ?_) rfl rfl (by rfl) (fun w' hw' => ?_) ?_ ?_
        rotate_left 2
        · go_simp
          with_reducible rfl
        · simp only [Act.put, List.setIfInBounds_toArray, List.set_cons_zero, List.set_cons_succ, Go.Proofs.YtdfahblgnbdndaaDoorW.PrintLast.i64_w, Go.Proofs.YtdfahblgnbdndaaDoorW.PrintLast.i32_w]
          rfl
        refine seq_pure (v := ?_) (a' := ?_) rfl rfl (by rfl) (fun w' => ?_) ?_ ?_
        rotate_left 2
        · go_simp
          with_reducible rfl
        · simp only [Act.put, List.setIfInBounds_toArray, List.set_cons_zero, List.set_cons_succ, Go.Proofs.YtdfahblgnbdndaaDoorW.PrintLast.i64_w, Go.Proofs.YtdfahblgnbdndaaDoorW.PrintLast.i32_w]
          rfl
        refine seq_run ?_
        refine do_val (v := ?_) (a' := ?_) (w1 := ?_) rfl rfl (by rfl) ?_ ?_ ?_
        rotate_left 3
        · go_simp
          constructor <;> rfl
        · simp only [Act.put, List.setIfInBounds_toArray, List.set_cons_zero, List.set_cons_succ, Go.Proofs.YtdfahblgnbdndaaDoorW.PrintLast.i64_w, Go.Proofs.YtdfahblgnbdndaaDoorW.PrintLast.i32_w]
          rfl
        refine ⟨fun _ => below_alloc (Below.refl _ _) _, ?_⟩
        refine seq_run ?_
        refine do_blk rfl rfl (by rfl) 29 (.tmp 10) (.tmp 35) rfl rfl rfl (blk_new v8 _) (by rw [Xc_len HSL.out]; rfl) (size_X HSL.out) (Xc_one rfl) ?_
        rintro v9 HS9
        refine ⟨fun h => absurd (by simp) h, ?_⟩
        have hO9 : OwI v9 v7.heap.size (.slice B8 CI.length d8) CI := by
          refine owI_set ?_ HS9 (blk_new v8 _) (by decide)
          exact Kd.R_below hO8 (below_alloc (Below.refl _ v8) _)
        obtain ⟨_, _, e9, _, hr9⟩ := Kd.R_reads hO9
        injection e9 with e91 e92 e93
        rw [← e91] at hr9
        refine seq_take (v := ?_) (a' := ?_) rfl rfl (by rfl) (fun w' hw' => ?_) ?_ ?_
        rotate_left 2
        · go_simp
          with_reducible rfl
        · simp only [Act.put, List.setIfInBounds_toArray, List.set_cons_zero, List.set_cons_succ, Go.Proofs.YtdfahblgnbdndaaDoorW.PrintLast.i64_w, Go.Proofs.YtdfahblgnbdndaaDoorW.PrintLast.i32_w]
          rfl
        refine seq_endN ?_
        go_wp2
        go_meet
        case rel => exact ⟨rfl, _, B8, d8, rfl, L8.size, HS9.at_, hr9, (L8.alloc L8.size _).trans (HS9.below L8.size)⟩
      · refine do_val (v := ?_) (a' := ?_) (w1 := ?_) rfl rfl (by rfl) ?_ ?_ ?_
        rotate_left 3
        · go_simp
          constructor <;> rfl
        · simp only [Act.put, List.setIfInBounds_toArray, List.set_cons_zero, List.set_cons_succ, Go.Proofs.YtdfahblgnbdndaaDoorW.PrintLast.i64_w, Go.Proofs.YtdfahblgnbdndaaDoorW.PrintLast.i32_w]
          rfl
        refine ⟨fun _ => below_alloc (Below.refl _ _) _, ?_⟩
        refine seq_run ?_
        refine do_call rfl rfl (by rfl) rfl Tryd.func11 (by kernel_rfl) rfl #[.slice B7 y7.length d7, .agg #[.int .i64 (a0 : Int), .int .i64 (b0 : Int), .int .i64 (c0 : Int)]] (by simp only [List.map_toArray, List.map_cons, List.map_nil]; rfl) ?_
        with_reducible refine (HIOF.out _ B7 y7.length d7 (Kd.C_alloc R7' _) (HK.out.below (HB6.out.trans (((L7.alloc L7.size _)).mono HB6.out.size)))).mono ?_
        rintro e v8 ⟨vv, rfl, hO8, hB8⟩
        refine ⟨_, ?_, rfl, ?_, fun _ => hB8, ?_⟩
        rotate_left
        · simp only [Act.put, List.setIfInBounds_toArray, List.set_cons_zero, List.set_cons_succ, Go.Proofs.YtdfahblgnbdndaaDoorW.PrintLast.i64_w, Go.Proofs.YtdfahblgnbdndaaDoorW.PrintLast.i32_w]
          rfl
        obtain ⟨B8, d8, rfl, hd8, hr8⟩ := Kd.R_reads hO8
        have hO8' := hO8
        refine seq_take (v := ?_) (a' := ?_) rfl rfl (by rfl) (fun w' hw' => ?_) ?_ ?_
        rotate_left 2
        · go_simp
          with_reducible rfl
        · simp only [Act.put, List.setIfInBounds_toArray, List.set_cons_zero, List.set_cons_succ, Go.Proofs.YtdfahblgnbdndaaDoorW.PrintLast.i64_w, Go.Proofs.YtdfahblgnbdndaaDoorW.PrintLast.i32_w]
          rfl
        refine seq_take (v := ?_) (a' := ?_) rfl rfl (by rfl) (fun w' hw' => ?_) ?_ ?_
        rotate_left 2
        · go_simp
          with_reducible rfl
        · simp only [Act.put, List.setIfInBounds_toArray, List.set_cons_zero, List.set_cons_succ, Go.Proofs.YtdfahblgnbdndaaDoorW.PrintLast.i64_w, Go.Proofs.YtdfahblgnbdndaaDoorW.PrintLast.i32_w]
          rfl
        refine seq_pure (v := ?_) (a' := ?_) rfl rfl (by rfl) (fun w' => ?_) ?_ ?_
        rotate_left 2
        · go_simp
          with_reducible rfl
        · simp only [Act.put, List.setIfInBounds_toArray, List.set_cons_zero, List.set_cons_succ, Go.Proofs.YtdfahblgnbdndaaDoorW.PrintLast.i64_w, Go.Proofs.YtdfahblgnbdndaaDoorW.PrintLast.i32_w]
          rfl
        refine seq_run ?_
        refine do_blk rfl rfl (by rfl) 29 (.tmp 10) (.tmp 35) rfl rfl rfl (Later.heap hB8 (blk_new v7 _)) (by rw [Xc_len HSL.out]; rfl) (size_X HSL.out) (Xc_one rfl) ?_
        rintro v9 HS9
        refine ⟨fun h => absurd (by simp) h, ?_⟩
        have hO9 := owI_set hO8' HS9 (Later.heap hB8 (blk_new v7 _)) (by decide)
        obtain ⟨_, _, e9, _, hr9⟩ := Kd.R_reads hO9
        injection e9 with e91 e92 e93
        rw [← e91] at hr9
        refine seq_take (v := ?_) (a' := ?_) rfl rfl (by rfl) (fun w' hw' => ?_) ?_ ?_
        rotate_left 2
        · go_simp
          with_reducible rfl
        · simp only [Act.put, List.setIfInBounds_toArray, List.set_cons_zero, List.set_cons_succ, Go.Proofs.YtdfahblgnbdndaaDoorW.PrintLast.i64_w, Go.Proofs.YtdfahblgnbdndaaDoorW.PrintLast.i32_w]
          rfl
        refine seq_endN ?_
        go_wp2
        go_meet
        case rel => exact ⟨rfl, _, B8, d8, rfl, L7.size, HS9.at_, hr9, (((L7.alloc L7.size _)).trans (hB8.mono (by have := L7.size; simp; omega))).trans (HS9.below L7.size)⟩
    · refine do_val (v := ?_) (a' := ?_) (w1 := ?_) rfl rfl (by rfl) ?_ ?_ ?_
      rotate_left 3
      · go_simp
        constructor <;> rfl
      · simp only [Act.put, List.setIfInBounds_toArray, List.set_cons_zero, List.set_cons_succ, Go.Proofs.YtdfahblgnbdndaaDoorW.PrintLast.i64_w, Go.Proofs.YtdfahblgnbdndaaDoorW.PrintLast.i32_w]
        rfl
      refine ⟨fun _ => below_alloc (Below.refl _ _) _, ?_⟩
      refine seq_run ?_
      refine do_call rfl rfl (by rfl) rfl Tryd.func22 (by kernel_rfl) rfl #[.slice A1 n1 c1, .int .i64 100] (by simp only [List.map_toArray, List.map_cons, List.map_nil]; rfl) ?_
      with_reducible refine (few_new A1 n1 c1 bs 100 _ (Kd.C_below HBS.out (Below.drew (below_alloc HB6.out _))) hn1 HBB.out (by omega) (by omega)).mono ?_
      rintro e v7 ⟨B7, d7, y7, rfl, E7, hby7, O7, hd7, hl7, R7, hB7⟩
      refine ⟨_, ?_, rfl, ?_, fun _ => hB7, ?_⟩
      rotate_left
      · simp only [Act.put, List.setIfInBounds_toArray, List.set_cons_zero, List.set_cons_succ, Go.Proofs.YtdfahblgnbdndaaDoorW.PrintLast.i64_w, Go.Proofs.YtdfahblgnbdndaaDoorW.PrintLast.i32_w]
        rfl
      have e7 : y7 = ys := E7.out.trans HYS.out.symm
      have L7 : Below u6.heap.size u6 v7 := below_tr (Below.drew (below_alloc (Below.refl _ u6) _)) hB7 (by simp [World.drew])
      have R7' : RdB v7 B7 y7.length ys := by
        have h := R7.out
        rw [e7] at h ⊢
        exact h
      refine seq_run ?_
      refine do_call rfl rfl (by rfl) rfl Tryd.func11 (by kernel_rfl) rfl #[.slice B7 y7.length d7, .agg #[.int .i64 (a0 : Int), .int .i64 (b0 : Int), .int .i64 (c0 : Int)]] (by simp only [List.map_toArray, List.map_cons, List.map_nil]; rfl) ?_
      with_reducible refine (HIOF.out v7 B7 y7.length d7 R7' (HK.out.below (HB6.out.trans (L7.mono HB6.out.size)))).mono ?_
      rintro e v8 ⟨vv, rfl, hO8, hB8⟩
      refine ⟨_, ?_, rfl, ?_, fun _ => hB8, ?_⟩
      rotate_left
      · simp only [Act.put, List.setIfInBounds_toArray, List.set_cons_zero, List.set_cons_succ, Go.Proofs.YtdfahblgnbdndaaDoorW.PrintLast.i64_w, Go.Proofs.YtdfahblgnbdndaaDoorW.PrintLast.i32_w]
        rfl
      obtain ⟨B8, d8, rfl, hd8, hr8⟩ := Kd.R_reads hO8
      have hO8' : OwI v8 v7.heap.size (.slice B8 CI.length d8) CI := hO8
      refine seq_take (v := ?_) (a' := ?_) rfl rfl (by rfl) (fun w' hw' => ?_) ?_ ?_
      rotate_left 2
      · go_simp
        with_reducible rfl
      · simp only [Act.put, List.setIfInBounds_toArray, List.set_cons_zero, List.set_cons_succ, Go.Proofs.YtdfahblgnbdndaaDoorW.PrintLast.i64_w, Go.Proofs.YtdfahblgnbdndaaDoorW.PrintLast.i32_w]
        rfl
      refine seq_take (v := ?_) (a' := ?_) rfl rfl (by rfl) (fun w' hw' => ?_) ?_ ?_
      rotate_left 2
      · go_simp
        with_reducible rfl
      · simp only [Act.put, List.setIfInBounds_toArray, List.set_cons_zero, List.set_cons_succ, Go.Proofs.YtdfahblgnbdndaaDoorW.PrintLast.i64_w, Go.Proofs.YtdfahblgnbdndaaDoorW.PrintLast.i32_w]
        rfl
      refine seq_pure (v := ?_) (a' := ?_) rfl rfl (by rfl) (fun w' => ?_) ?_ ?_
      rotate_left 2
      · go_simp
        with_reducible rfl
      · simp only [Act.put, List.setIfInBounds_toArray, List.set_cons_zero, List.set_cons_succ, Go.Proofs.YtdfahblgnbdndaaDoorW.PrintLast.i64_w, Go.Proofs.YtdfahblgnbdndaaDoorW.PrintLast.i32_w]
        rfl
      refine seq_run ?_
      refine do_blk rfl rfl (by rfl) 29 (.tmp 10) (.tmp 35) rfl rfl rfl (Later.heap hB8 (Later.heap hB7 (blk_new u6 _))) (by rw [Xc_len HSL.out]; rfl) (size_X HSL.out) (Xc_one rfl) ?_
      rintro v9 HS9
      refine ⟨fun h => absurd (by simp) h, ?_⟩
      have hO9 := owI_set hO8' HS9 (Later.heap hB8 (Later.heap hB7 (blk_new u6 _))) (by decide)
      obtain ⟨_, _, e9, _, hr9⟩ := Kd.R_reads hO9
      injection e9 with e91 e92 e93
      rw [← e91] at hr9
      refine seq_take (v := ?_) (a' := ?_) rfl rfl (by rfl) (fun w' hw' => ?_) ?_ ?_
      rotate_left 2
      · go_simp
        with_reducible rfl
      · simp only [Act.put, List.setIfInBounds_toArray, List.set_cons_zero, List.set_cons_succ, Go.Proofs.YtdfahblgnbdndaaDoorW.PrintLast.i64_w, Go.Proofs.YtdfahblgnbdndaaDoorW.PrintLast.i32_w]
        rfl
      refine seq_endN ?_
      go_wp2
      go_meet
      case rel => exact ⟨rfl, _, B8, d8, rfl, Nat.le_refl _, HS9.at_, hr9, (L7.trans (hB8.mono L7.size)).trans (HS9.below (Nat.le_refl _))⟩
  case rest =>
    obtain ⟨rfl, g10, B8, d8, rfl, hg10, hG10, hr10, hBC⟩ := hcut
    have Q7 := HQ6.out.new ⟨hBC, hG10, hg10⟩
    have HR7 : Aside0 (RdI wc B1 GI.length GI) := ⟨Kd.C_below HR6.out hBC⟩
    have HY7 : Aside0 (RdI wc B5 GI.length GI) := ⟨Kd.C_below HY6.out hBC⟩
    have HZ7 := Aside0.mk hr10
    clear hBC hG10 hr10 HR6 HY6
    go_upto_region 7 with (first
      | ((with_reducible refine at_ld (w := wc) 29 (.tmp 10) ?_); refine load_arm rfl 29 (.tmp 10) rfl rfl (ld_row (Q7.at 3 rfl) 29 _ Tryd.underlying29 rfl (by rw [List.size_toArray]; exact size_X HSL.out)) ?_; simp only [Act.put, List.setIfInBounds_toArray, List.set_cons_zero, List.set_cons_succ])
      | (go_at_call 17; refine (iwrite_ok a0 b0 c0 dg B8 CI.length d8 CI _ wc rfl HSL.out HZ7.out HMO.out HSB.out HCB.out).mono ?_; rintro e u8 ⟨v8, rfl, hO, hB⟩; have Q8 := Q7.call hB; have L8 := Aside0.mk hB; obtain ⟨B9, c9, hv9, hc9, hr9⟩ := OwB.reads hO; have HW9 := Aside0.mk hr9; have HC9 := Aside0.mk hc9; clear hO hB hr9 hc9; subst hv9)
      | (go_at_call 31; refine (iread_back a0 b0 c0 dg CI B9 c9 u8 HSL.out HCN.out HMO.out HOS.out HSB.out HCB.out HW9.out HC9.out).mono ?_; rintro e u9 ⟨B11, c11, rfl, hr11, hB⟩; have Q9 := Q8.call hB; have L9 : Aside0 (Below wc.heap.size wc u9) := ⟨below_tr L8.out hB L8.out.size⟩; have HV9 := Aside0.mk hr11; clear hB hr11)
      | ((with_reducible refine at_al 29 ?_); refine new_x rfl rfl rfl rfl (.tmp 45) rfl (of_decide_eq_true rfl) rfl HSL.out rfl ?_; rintro u10 g14 N3; have Q10 := Q9.new N3; have L10 : Aside0 (Below wc.heap.size wc u10) := ⟨below_tr L9.out N3.below L9.out.size⟩; have HV10 : Aside0 (RdI u10 B11 CI.length CI) := ⟨Kd.C_below HV9.out N3.below⟩; clear N3)
      | fail)
    have Q11 := Q10.drew
    have L11 : Aside0 (Below wc.heap.size wc u10.drew) := ⟨Below.drew L10.out⟩
    have HV11 : Aside0 (RdI u10.drew B11 CI.length CI) := ⟨Kd.C_drew HV10.out⟩
    clear Q7 Q8 Q9 Q10 L8 L9 L10 HW9 HV9 HV10
    refine seq_startN [] (.take 0 (.take 1 (.take 2 (.take 3 (.take 4 (.take 5 (.take 6 (.take 7 (.take 8 (.take 9 (.take 10 (.take 11 (.take 12 (.take 13 (.take 14 (.take 15 (.take 16 (.take 17 (.take 18 (.take 19 (.take 20 (.run 21 (.run 22 (.take 23 (.take 24 (.take 25 (.take 26 (.run 27 (.take 28 (.take 29 (.run 30 (.take 31 (.take 32 .done))))))))))))))))))))))))))))))))) (by kernel_rfl) (by kernel_rfl) ?_
    refine seq_take (v := ?_) (a' := ?_) rfl rfl (by rfl) (fun w' hw' => ?_) ?_ ?_
    rotate_left 2
    · go_simp
      with_reducible rfl
    · simp only [Act.put, List.setIfInBounds_toArray, List.set_cons_zero, List.set_cons_succ, Go.Proofs.YtdfahblgnbdndaaDoorW.PrintLast.i64_w, Go.Proofs.YtdfahblgnbdndaaDoorW.PrintLast.i32_w]
      rfl
    refine seq_take (v := ?_) (a' := ?_) rfl rfl (by rfl) (fun w' hw' => ?_) ?_ ?_
    rotate_left 2
    · go_simp
      with_reducible rfl
    · simp only [Act.put, List.setIfInBounds_toArray, List.set_cons_zero, List.set_cons_succ, Go.Proofs.YtdfahblgnbdndaaDoorW.PrintLast.i64_w, Go.Proofs.YtdfahblgnbdndaaDoorW.PrintLast.i32_w]
      rfl
    refine seq_take (v := ?_) (a' := ?_) rfl rfl (by rfl) (fun w' hw' => ?_) ?_ ?_
    rotate_left 2
    · go_simp
      with_reducible rfl
    · simp only [Act.put, List.setIfInBounds_toArray, List.set_cons_zero, List.set_cons_succ, Go.Proofs.YtdfahblgnbdndaaDoorW.PrintLast.i64_w, Go.Proofs.YtdfahblgnbdndaaDoorW.PrintLast.i32_w]
      rfl
    refine seq_take (v := ?_) (a' := ?_) rfl rfl (by rfl) (fun w' hw' => ?_) ?_ ?_
    rotate_left 2
    · go_simp
      with_reducible rfl
    · simp only [Act.put, List.setIfInBounds_toArray, List.set_cons_zero, List.set_cons_succ, Go.Proofs.YtdfahblgnbdndaaDoorW.PrintLast.i64_w, Go.Proofs.YtdfahblgnbdndaaDoorW.PrintLast.i32_w]
      rfl
    refine seq_take (v := ?_) (a' := ?_) rfl rfl (by rfl) (fun w' hw' => ?_) ?_ ?_
    rotate_left 2
    · go_simp
      with_reducible rfl
    · simp only [Act.put, List.setIfInBounds_toArray, List.set_cons_zero, List.set_cons_succ, Go.Proofs.YtdfahblgnbdndaaDoorW.PrintLast.i64_w, Go.Proofs.YtdfahblgnbdndaaDoorW.PrintLast.i32_w]
      rfl
    refine seq_take (v := ?_) (a' := ?_) rfl rfl (by rfl) (fun w' hw' => ?_) ?_ ?_
    rotate_left 2
    · go_simp
      with_reducible rfl
    · simp only [Act.put, List.setIfInBounds_toArray, List.set_cons_zero, List.set_cons_succ, Go.Proofs.YtdfahblgnbdndaaDoorW.PrintLast.i64_w, Go.Proofs.YtdfahblgnbdndaaDoorW.PrintLast.i32_w]
      rfl
    refine seq_take (v := ?_) (a' := ?_) rfl rfl (by rfl) (fun w' hw' => ?_) ?_ ?_
    rotate_left 2
    · go_simp
      with_reducible rfl
    · simp only [Act.put, List.setIfInBounds_toArray, List.set_cons_zero, List.set_cons_succ, Go.Proofs.YtdfahblgnbdndaaDoorW.PrintLast.i64_w, Go.Proofs.YtdfahblgnbdndaaDoorW.PrintLast.i32_w]
      rfl
    refine seq_take (v := ?_) (a' := ?_) rfl rfl (by rfl) (fun w' hw' => ?_) ?_ ?_
    rotate_left 2
    · go_simp
      with_reducible rfl
    · simp only [Act.put, List.setIfInBounds_toArray, List.set_cons_zero, List.set_cons_succ, Go.Proofs.YtdfahblgnbdndaaDoorW.PrintLast.i64_w, Go.Proofs.YtdfahblgnbdndaaDoorW.PrintLast.i32_w]
      rfl
    refine seq_take (v := ?_) (a' := ?_) rfl rfl (by rfl) (fun w' hw' => ?_) ?_ ?_
    rotate_left 2
    · go_simp
      with_reducible rfl
    · simp only [Act.put, List.setIfInBounds_toArray, List.set_cons_zero, List.set_cons_succ, Go.Proofs.YtdfahblgnbdndaaDoorW.PrintLast.i64_w, Go.Proofs.YtdfahblgnbdndaaDoorW.PrintLast.i32_w]
      rfl
    refine seq_take (v := ?_) (a' := ?_) rfl rfl (by rfl) (fun w' hw' => ?_) ?_ ?_
    rotate_left 2
    · go_simp
      with_reducible rfl
    · simp only [Act.put, List.setIfInBounds_toArray, List.set_cons_zero, List.set_cons_succ, Go.Proofs.YtdfahblgnbdndaaDoorW.PrintLast.i64_w, Go.Proofs.YtdfahblgnbdndaaDoorW.PrintLast.i32_w]
      rfl
    refine seq_take (v := ?_) (a' := ?_) rfl rfl (by rfl) (fun w' hw' => ?_) ?_ ?_
    rotate_left 2
    · go_simp
      with_reducible rfl
    · simp only [Act.put, List.setIfInBounds_toArray, List.set_cons_zero, List.set_cons_succ, Go.Proofs.YtdfahblgnbdndaaDoorW.PrintLast.i64_w, Go.Proofs.YtdfahblgnbdndaaDoorW.PrintLast.i32_w]
      rfl
    refine seq_take (v := ?_) (a' := ?_) rfl rfl (by rfl) (fun w' hw' => ?_) ?_ ?_
    rotate_left 2
    · go_simp
      with_reducible rfl
    · simp only [Act.put, List.setIfInBounds_toArray, List.set_cons_zero, List.set_cons_succ, Go.Proofs.YtdfahblgnbdndaaDoorW.PrintLast.i64_w, Go.Proofs.YtdfahblgnbdndaaDoorW.PrintLast.i32_w]
      rfl
    refine seq_take (v := ?_) (a' := ?_) rfl rfl (by rfl) (fun w' hw' => ?_) ?_ ?_
    rotate_left 2
    · go_simp
      with_reducible rfl
    · simp only [Act.put, List.setIfInBounds_toArray, List.set_cons_zero, List.set_cons_succ, Go.Proofs.YtdfahblgnbdndaaDoorW.PrintLast.i64_w, Go.Proofs.YtdfahblgnbdndaaDoorW.PrintLast.i32_w]
      rfl
    refine seq_take (v := ?_) (a' := ?_) rfl rfl (by rfl) (fun w' hw' => ?_) ?_ ?_
    rotate_left 2
    · go_simp
      with_reducible rfl
    · simp only [Act.put, List.setIfInBounds_toArray, List.set_cons_zero, List.set_cons_succ, Go.Proofs.YtdfahblgnbdndaaDoorW.PrintLast.i64_w, Go.Proofs.YtdfahblgnbdndaaDoorW.PrintLast.i32_w]
      rfl
    refine seq_take (v := ?_) (a' := ?_) rfl rfl (by rfl) (fun w' hw' => ?_) ?_ ?_
    rotate_left 2
    · go_simp
      with_reducible rfl
    · simp only [Act.put, List.setIfInBounds_toArray, List.set_cons_zero, List.set_cons_succ, Go.Proofs.YtdfahblgnbdndaaDoorW.PrintLast.i64_w, Go.Proofs.YtdfahblgnbdndaaDoorW.PrintLast.i32_w]
      rfl
    refine seq_take (v := ?_) (a' := ?_) rfl rfl (by rfl) (fun w' hw' => ?_) ?_ ?_
    rotate_left 2
    · go_simp
      with_reducible rfl
    · simp only [Act.put, List.setIfInBounds_toArray, List.set_cons_zero, List.set_cons_succ, Go.Proofs.YtdfahblgnbdndaaDoorW.PrintLast.i64_w, Go.Proofs.YtdfahblgnbdndaaDoorW.PrintLast.i32_w]
      rfl
    refine seq_take (v := ?_) (a' := ?_) rfl rfl (by rfl) (fun w' hw' => ?_) ?_ ?_
    rotate_left 2
    · go_simp
      with_reducible rfl
    · simp only [Act.put, List.setIfInBounds_toArray, List.set_cons_zero, List.set_cons_succ, Go.Proofs.YtdfahblgnbdndaaDoorW.PrintLast.i64_w, Go.Proofs.YtdfahblgnbdndaaDoorW.PrintLast.i32_w]
      rfl
    refine seq_take (v := ?_) (a' := ?_) rfl rfl (by rfl) (fun w' hw' => ?_) ?_ ?_
    rotate_left 2
    · go_simp
      with_reducible rfl
    · simp only [Act.put, List.setIfInBounds_toArray, List.set_cons_zero, List.set_cons_succ, Go.Proofs.YtdfahblgnbdndaaDoorW.PrintLast.i64_w, Go.Proofs.YtdfahblgnbdndaaDoorW.PrintLast.i32_w]
      rfl
    refine seq_take (v := ?_) (a' := ?_) rfl rfl (by rfl) (fun w' hw' => ?_) ?_ ?_
    rotate_left 2
    · go_simp
      with_reducible rfl
    · simp only [Act.put, List.setIfInBounds_toArray, List.set_cons_zero, List.set_cons_succ, Go.Proofs.YtdfahblgnbdndaaDoorW.PrintLast.i64_w, Go.Proofs.YtdfahblgnbdndaaDoorW.PrintLast.i32_w]
      rfl
    refine seq_take (v := _) (a' := ?_) rfl rfl (by rfl) (fun w' hw' => load_run rfl rfl (ld_row (hw'.heap (w := u10.drew) (Q11.at 2 rfl)) 29 _ Tryd.underlying29 rfl (by rw [List.size_toArray]; exact size_X HIM.out))) ?_ ?_
    rotate_left
    · simp only [Act.put, List.setIfInBounds_toArray, List.set_cons_zero, List.set_cons_succ, Go.Proofs.YtdfahblgnbdndaaDoorW.PrintLast.i64_w, Go.Proofs.YtdfahblgnbdndaaDoorW.PrintLast.i32_w]
      rfl
    refine seq_take (v := _) (a' := ?_) rfl rfl (by rfl) (fun w' hw' => load_run rfl rfl (ld_rx (hw'.heap (w := u10.drew) (Q11.at 1 rfl)) HIM.out)) ?_ ?_
    rotate_left
    · simp only [Act.put, List.setIfInBounds_toArray, List.set_cons_zero, List.set_cons_succ, Go.Proofs.YtdfahblgnbdndaaDoorW.PrintLast.i64_w, Go.Proofs.YtdfahblgnbdndaaDoorW.PrintLast.i32_w]
      rfl
    refine seq_run ?_
    refine do_call rfl rfl (by rfl) rfl Tryd.func18 (by kernel_rfl) rfl #[.agg (Xc a0 b0 c0 im (.slice B1 GI.length cp1)).toArray] (by simp only [List.map_toArray, List.map_cons, List.map_nil]; rfl) ?_
    with_reducible refine (xof_calls a0 b0 c0 im B1 GI.length cp1 _ _ rfl HIM.out).mono ?_
    rintro e x1 ⟨rfl, hC1⟩
    refine ⟨_, ?_, rfl, ?_, fun _ => hC1, ?_⟩
    rotate_left
    · simp only [Act.put, List.setIfInBounds_toArray, List.set_cons_zero, List.set_cons_succ, Go.Proofs.YtdfahblgnbdndaaDoorW.PrintLast.i64_w, Go.Proofs.YtdfahblgnbdndaaDoorW.PrintLast.i32_w]
      rfl
    have Q12 := Q11.call hC1
    have L12 : Aside0 (Below wc.heap.size wc x1) := ⟨below_tr L11.out hC1 L11.out.size⟩
    have HV12 : Aside0 (RdI x1 B11 CI.length CI) := ⟨Kd.C_below HV11.out hC1⟩
    clear hC1 Q11 HV11
    refine seq_run ?_
    refine do_call rfl rfl (by rfl) rfl Tryd.func29 (by kernel_rfl) rfl #[.agg (Xc a0 b0 c0 im (.slice B5 GI.length c5)).toArray, .agg (Xc a0 b0 c0 im (.slice B1 GI.length cp1)).toArray] (by simp only [List.map_toArray, List.map_cons, List.map_nil]; rfl) ?_
    with_reducible refine (isame_calls a0 b0 c0 a0 b0 c0 im im B5 B1 GI.length c5 GI.length cp1 GI GI _ _ _ rfl rfl HIM.out HIM.out (Kd.C_below HY7.out L12.out) (Kd.C_below HR7.out L12.out) (by omega) (by omega)).mono ?_
    rintro e x2 ⟨rfl, hC2⟩
    refine ⟨_, ?_, rfl, ?_, fun _ => hC2, ?_⟩
    rotate_left
    · simp only [Act.put, List.setIfInBounds_toArray, List.set_cons_zero, List.set_cons_succ, Go.Proofs.YtdfahblgnbdndaaDoorW.PrintLast.i64_w, Go.Proofs.YtdfahblgnbdndaaDoorW.PrintLast.i32_w]
      rfl
    have Q13 := Q12.call hC2
    have L13 : Aside0 (Below wc.heap.size wc x2) := ⟨below_tr L12.out hC2 L12.out.size⟩
    have HV13 : Aside0 (RdI x2 B11 CI.length CI) := ⟨Kd.C_below HV12.out hC2⟩
    clear hC2 Q12 HV12
    rw [sameX_self]
    refine seq_take (v := ?_) (a' := ?_) rfl rfl (by rfl) (fun w' hw' => ?_) ?_ ?_
    rotate_left 2
    · go_simp
      with_reducible rfl
    · simp only [Act.put, List.setIfInBounds_toArray, List.set_cons_zero, List.set_cons_succ, Go.Proofs.YtdfahblgnbdndaaDoorW.PrintLast.i64_w, Go.Proofs.YtdfahblgnbdndaaDoorW.PrintLast.i32_w]
      rfl
    refine seq_take (v := ?_) (a' := ?_) rfl rfl (by rfl) (fun w' hw' => ?_) ?_ ?_
    rotate_left 2
    · go_simp
      with_reducible rfl
    · simp only [Act.put, List.setIfInBounds_toArray, List.set_cons_zero, List.set_cons_succ, Go.Proofs.YtdfahblgnbdndaaDoorW.PrintLast.i64_w, Go.Proofs.YtdfahblgnbdndaaDoorW.PrintLast.i32_w]
      rfl
    refine seq_take (v := _) (a' := ?_) rfl rfl (by rfl) (fun w' hw' => load_run rfl rfl (ld_row (hw'.heap (w := x2) (Q13.at 4 rfl)) 29 _ Tryd.underlying29 rfl (by rw [List.size_toArray]; exact size_X HSL.out))) ?_ ?_
    rotate_left
    · simp only [Act.put, List.setIfInBounds_toArray, List.set_cons_zero, List.set_cons_succ, Go.Proofs.YtdfahblgnbdndaaDoorW.PrintLast.i64_w, Go.Proofs.YtdfahblgnbdndaaDoorW.PrintLast.i32_w]
      rfl
    refine seq_take (v := _) (a' := ?_) rfl rfl (by rfl) (fun w' hw' => load_run rfl rfl (ld_row (hw'.heap (w := x2) (Q13.at 3 rfl)) 29 _ Tryd.underlying29 rfl (by rw [List.size_toArray]; exact size_X HSL.out))) ?_ ?_
    rotate_left
    · simp only [Act.put, List.setIfInBounds_toArray, List.set_cons_zero, List.set_cons_succ, Go.Proofs.YtdfahblgnbdndaaDoorW.PrintLast.i64_w, Go.Proofs.YtdfahblgnbdndaaDoorW.PrintLast.i32_w]
      rfl
    refine seq_run ?_
    refine do_call rfl rfl (by rfl) rfl Tryd.func29 (by kernel_rfl) rfl #[.agg (Xc a0 b0 c0 dg (.slice B11 CI.length c11)).toArray, .agg (Xc a0 b0 c0 dg (.slice B8 CI.length d8)).toArray] (by simp only [List.map_toArray, List.map_cons, List.map_nil]; rfl) ?_
    with_reducible refine (isame_calls a0 b0 c0 a0 b0 c0 dg dg B11 B8 CI.length c11 CI.length d8 CI CI _ _ _ rfl rfl HSL.out HSL.out HV13.out (Kd.C_below HZ7.out L13.out) (by omega) (by omega)).mono ?_
    rintro e x3 ⟨rfl, hC3⟩
    refine ⟨_, ?_, rfl, ?_, fun _ => hC3, ?_⟩
    rotate_left
    · simp only [Act.put, List.setIfInBounds_toArray, List.set_cons_zero, List.set_cons_succ, Go.Proofs.YtdfahblgnbdndaaDoorW.PrintLast.i64_w, Go.Proofs.YtdfahblgnbdndaaDoorW.PrintLast.i32_w]
      rfl
    have Q14 := Q13.call hC3
    clear hC3
    rw [sameX_self]
    refine seq_take (v := ?_) (a' := ?_) rfl rfl (by rfl) (fun w' hw' => ?_) ?_ ?_
    rotate_left 2
    · go_simp
      with_reducible rfl
    · simp only [Act.put, List.setIfInBounds_toArray, List.set_cons_zero, List.set_cons_succ, Go.Proofs.YtdfahblgnbdndaaDoorW.PrintLast.i64_w, Go.Proofs.YtdfahblgnbdndaaDoorW.PrintLast.i32_w]
      rfl
    refine seq_take (v := ?_) (a' := ?_) rfl rfl (by rfl) (fun w' hw' => ?_) ?_ ?_
    rotate_left 2
    · go_simp
      with_reducible rfl
    · simp only [Act.put, List.setIfInBounds_toArray, List.set_cons_zero, List.set_cons_succ, Go.Proofs.YtdfahblgnbdndaaDoorW.PrintLast.i64_w, Go.Proofs.YtdfahblgnbdndaaDoorW.PrintLast.i32_w]
      rfl
    refine seq_run ?_
    refine do_call rfl rfl (by rfl) rfl Tryd.func13 (by kernel_rfl) rfl #[] (by simp only [List.map_toArray, List.map_nil]) ?_
    with_reducible refine (xlives_calls x3 (HK.out.below Q14.below)).mono ?_
    rintro e x4 ⟨rfl, hC4⟩
    refine ⟨_, ?_, rfl, ?_, fun _ => hC4, ?_⟩
    rotate_left
    · simp only [Act.put, List.setIfInBounds_toArray, List.set_cons_zero, List.set_cons_succ, Go.Proofs.YtdfahblgnbdndaaDoorW.PrintLast.i64_w, Go.Proofs.YtdfahblgnbdndaaDoorW.PrintLast.i32_w]
      rfl
    have Q15 := Q14.call hC4
    refine seq_take (v := ?_) (a' := ?_) rfl rfl (by rfl) (fun w' hw' => ?_) ?_ ?_
    rotate_left 2
    · go_simp
      with_reducible rfl
    · simp only [Act.put, List.setIfInBounds_toArray, List.set_cons_zero, List.set_cons_succ, Go.Proofs.YtdfahblgnbdndaaDoorW.PrintLast.i64_w, Go.Proofs.YtdfahblgnbdndaaDoorW.PrintLast.i32_w]
      rfl
    refine seq_take (v := ?_) (a' := ?_) rfl rfl (by rfl) (fun w' hw' => ?_) ?_ ?_
    rotate_left 2
    · go_simp
      with_reducible rfl
    · simp only [Act.put, List.setIfInBounds_toArray, List.set_cons_zero, List.set_cons_succ, Go.Proofs.YtdfahblgnbdndaaDoorW.PrintLast.i64_w, Go.Proofs.YtdfahblgnbdndaaDoorW.PrintLast.i32_w]
      rfl
    refine seq_endN ?_
    go_wp2
    go_ret
    exact ⟨rfl, Q15.below⟩
end Go.Proofs.YtdfahblgnbdndaaDoor
