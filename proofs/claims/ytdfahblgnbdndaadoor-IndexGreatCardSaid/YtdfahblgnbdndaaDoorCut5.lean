/- cut.All: the iterator's contract. Conditions: its own. -/
import Derived.Test.YtdfahblgnbdndaaDoorCut4
import Derived.Test.YtdfahblgnbdndaaDoorSeqY
namespace Go.Proofs.YtdfahblgnbdndaaDoor
open Go.RowKit Go.Proofs.YtdfahblgnbdndaaDoorW.PrintWords Go.Proofs.YtdfahblgnbdndaaDoorW.PrintMore
set_option linter.unusedVariables false
set_option linter.unusedSimpArgs false
attribute [local go_sem] Oper.semAt_some
theorem RdB.move {w w1 : World} {q n : Nat} {xs : List Int} (h : RdB w (some ⟨q, 0, none⟩) n xs) (hq : w1.heap[q]? = w.heap[q]?) : RdB w1 (some ⟨q, 0, none⟩) n xs := by
  have hr' := Kd.reads_of_C (d := (0 : Int)) h
  refine Kd.C_of_reads (d := (0 : Int)) ⟨hr'.1, hr'.2.1, fun hp => ?_⟩
  obtain ⟨ad, he, hc⟩ := hr'.2.2 hp
  refine ⟨ad, he, fun j hj => ?_⟩
  injection he with he
  subst he
  exact (World.cell?_of_block (a := Addr.add ⟨q, 0, none⟩ j) (by rw [add_blk]; exact hq)).trans (hc j hj)
/-- A chunk that an iterator tells. -/
structure ChY (B : Nat) (x : S3) (ch : List Int) (W : World) : Prop where
  n : x.2.1 = ch.length
  c : ch.length ≤ x.2.2
  by_ : Bytes ch
  ne : ch ≠ []
  rd : RdB W x.1 ch.length ch
  at_ : ∃ q cells, x.1 = some ⟨q, 0, none⟩ ∧ B ≤ q ∧ W.heap[q]? = some (.cells cells 5 (0, 0))
theorem ChY.move {B : Nat} {x : S3} {ch : List Int} {W W1 : World} (h : ChY B x ch W) (hq : ∀ q cells, x.1 = some ⟨q, 0, none⟩ → B ≤ q → W.heap[q]? = some (.cells cells 5 (0, 0)) → W1.heap[q]? = W.heap[q]?) : ChY B x ch W1 := by
  obtain ⟨h1, h2, h3, h4, h5, q, cells, e, hB, hl⟩ := h
  have he := hq q cells e hB hl
  refine ⟨h1, h2, h3, h4, ?_, q, cells, e, hB, he.trans hl⟩
  rw [e] at h5 ⊢
  exact h5.move he
theorem ChY.mono {B B1 : Nat} {x : S3} {ch : List Int} {W : World} (h : ChY B x ch W) (hB : B1 ≤ B) : ChY B1 x ch W := by
  obtain ⟨h1, h2, h3, h4, h5, q, cells, e, hq, hl⟩ := h
  exact ⟨h1, h2, h3, h4, h5, q, cells, e, by omega, hl⟩
def FoC (o : Obj) : Prop := o.isCells = false ∨ ∃ cs, o = .cells cs 140 (0, 0) ∨ o = .cells cs 169 (0, 0)
theorem foc_no {cells : Array Value} {t : Nat} (h1 : t ≠ 140) (h2 : t ≠ 169) : ¬ FoC (.cells cells t (0, 0)) := by
  rintro (h | ⟨cs, h | h⟩)
  · cases h
  · injection h with _ h; exact h1 h
  · injection h with _ h; exact h2 h
theorem Qs.cells {B0 : Nat} {A C : World} (h : Qs FoC B0 A C) {k : Nat} {cells : Array Value} {t : Nat} (hk : A.heap[k]? = some (.cells cells t (0, 0))) (h1 : t ≠ 140) (h2 : t ≠ 169) : C.heap[k]? = A.heap[k]? :=
  h.block k (Array.getElem?_eq_some_iff.1 hk).1 (fun ⟨_, o, ho, hf⟩ => by rw [hk] at ho; cases ho; exact foc_no h1 h2 hf)
theorem ChY.qs {B B0 : Nat} {x : S3} {ch : List Int} {A C : World} (h : ChY B x ch A) (hQ : Qs FoC B0 A C) : ChY B x ch C := h.move fun q cells _ _ hl => hQ.cells hl (by decide) (by decide)
theorem ChY.later {B : Nat} {x : S3} {ch : List Int} {A C : World} (h : ChY B x ch A) (hl : Below A.heap.size A C) : ChY B x ch C := h.move fun q cells _ _ hb => hl.block q (Array.getElem?_eq_some_iff.1 hb).1
def Yc (CH : List (List Int)) (B M : Nat) (pre : List S3) (x : S3) (W : World) : Prop := pre.length < CH.length ∧ B ≤ M ∧ M ≤ W.heap.size ∧ ChY B x (CH.getD pre.length []) W
theorem KL_at {w : World} {B0 : Nat} {ok : Nat → Prop} {q m cap : Nat} {L : List (List Int)} (h : KL.R 33 w B0 ok (.slice (some ⟨q, 0, none⟩) m cap) L) (k : Nat) (hk : k < m) :
    ∃ x cx, w.cell? ⟨q, k, none⟩ = some (.slice x (L.getD k []).length cx) ∧ OwB w B0 (.slice x (L.getD k []).length cx) (L.getD k []) := by
  obtain ⟨c, hc1, hM, hcell, _⟩ := Kd.R_elem h [] (k : Int) (by omega) (by omega)
  rw [Int.toNat_natCast] at hM hcell
  obtain ⟨v, rfl, hR⟩ := hM
  obtain ⟨x, cx, rfl, _, _⟩ := Kd.R_reads hR
  have h1 := hcell 0 _ rfl
  have e : k * (Kd.slice 5 (Kd.int .u8)).sz + 0 = k := by
    have : (Kd.slice 5 (Kd.int .u8)).sz = 1 := rfl
    rw [this]; omega
  rw [e] at h1
  exact ⟨x, cx, h1, Kd.R_mono hR (fun _ _ => trivial)⟩
theorem OwB.chY {w : World} {B : Nat} {x : Option Addr} {cx : Nat} {ch : List Int} (h : OwB w B (.slice x ch.length cx) ch) (hne : ch ≠ []) (hb : Bytes ch) : ChY B (x, ch.length, cx) ch w := by
  obtain ⟨_, hc, hr⟩ := Kd.R_reads' h
  obtain ⟨g, cap, he, hB, hl, cells, hcl⟩ := Kd.R_form h (List.length_pos_iff.2 hne)
  injection he with he _ _
  exact ⟨rfl, hc, hb, hne, hr, g, cells, he, hB, hcl⟩
theorem clone_calls' (ad : Addr) (n c : Nat) (xs : List Int) (w : World) (h : RdB w (some ad) n xs) (hn : n ≤ 70368744177664) :
    Calls Tryd.prog 64 #[.slice (some ad) n c] w fun e w' => ∃ v, e = .returned v ∧ OwB w' w.heap.size v xs ∧ Below w.heap.size w w' := by
  have H := Aside0.mk h
  have hnil := Lib.run_eql_slice_nil (P := Tryd.prog) w 33 5 (some ad) n c 0 0 Tryd.underlying33
  simp only [Option.isNone_some] at hnil
  clear h
  go_enter Tryd.func64, Tryd.ntmps64
  go_wp2_with (at_builtin; refine appBs (w0 := w) w.heap.size rfl (.tmp 5) (.tmp 6) rfl (.slice (some ⟨w.heap.size, 0, none⟩) 0 0) [] xs (some ad) n c rfl rfl (own_litB w _ [] _ _ rfl rfl (Nat.le_refl _) (by simp)) (Kd.C_alloc H.out _) ((Below.refl _ _).alloc (Nat.le_refl _) _) (by simp) (by simp; omega) ?_; intro v1 w1 hO hB _ _)
  go_ret
  exact ⟨_, rfl, by simpa using hO, hB⟩
theorem CSt.kb {B0 g gr a b c M : Nat} {cur : List Int} {v : Value} {w w1 : World} (h : CSt B0 g gr a b c cur v w) (hM : w.heap.size ≤ M) (hk : Kb B0 M w w1) : CSt B0 g gr a b c cur v w1 := by
  obtain ⟨cs, hrt⟩ := h.typed
  have hg := (Array.getElem?_eq_some_iff.1 h.blk).1
  have hr := (Array.getElem?_eq_some_iff.1 hrt).1
  exact ⟨(hk.2 g h.hg (by omega)).trans h.blk, h.roll.move (hk.2 gr h.hr (by omega)), Kd.R_mono (Kd.R_move (Kd.R_bound h.own) (fun q hq => hk.2 q hq.2.1 (by have := hq.2.2.1; omega))) (fun _ hq => trivial), h.by_, h.hg, h.hr⟩
theorem KL.kb {B0 M : Nat} {vo : Value} {L : List (List Int)} {w w1 : World} {ok : Nat → Prop} (h : KL.R 33 w B0 ok vo L) (hM : w.heap.size ≤ M) (hk : Kb B0 M w w1) : KL.R 33 w1 B0 ok vo L :=
  Kd.R_mono (Kd.R_move (Kd.R_bound h) (fun q hq => hk.2 q hq.2.1 (by have := hq.2.2.1; omega))) (fun _ hq => hq.1)
theorem wrL_count (a c p : Nat) : ∀ (xs cur : List Int), (wrL a c p cur xs).1.length ≤ xs.length
  | [], cur => by simp [wrL]
  | x :: t, cur => by
    by_cases h : cutAt a c p (cur ++ [x]) = true
    · rw [wrL_step_cut h]
      have := wrL_count a c p t []
      simp; omega
    · rw [wrL_step_on h]
      have := wrL_count a c p t (cur ++ [x])
      simp; omega
theorem wrL_bytes {a c p : Nat} {xs : List Int} (h : Bytes xs) : (∀ ch ∈ (wrL a c p [] xs).1, Bytes ch) ∧ Bytes (wrL a c p [] xs).2 := by
  have hf := wrL_flat (mn := a) (mx := c) (p := p) xs []
  rw [List.nil_append] at hf
  rw [← hf] at h
  refine ⟨fun ch hc x hx => h x (List.mem_append_left _ (List.mem_flatten.2 ⟨ch, hc, hx⟩)), fun x hx => h x (List.mem_append_right _ hx)⟩
theorem qs_end {B g gr a b c : Nat} {cur : List Int} {v : Value} {w w3 : World} (hC : CSt B g gr a b c cur v w) (hF : Fr w w3 (fun k => k = g ∨ k = gr)) : Qs FoC B w w3 := Fr.mono hF (by
  obtain ⟨cs, hrt⟩ := hC.typed
  rintro k (rfl | rfl)
  · exact ⟨hC.hg, _, hC.blk, .inr ⟨_, .inl rfl⟩⟩
  · exact ⟨hC.hr, _, hrt, .inr ⟨_, .inr rfl⟩⟩)
theorem hout_new {W w1 : World} {g gr a b c : Nat} {A : Option Addr} {n : Nat} {xs cur : List Int} {v : Value} (hX : RdB W A n xs) (hC : CSt W.heap.size g gr a b c cur v w1) : ∀ ad, A = some ad → 0 < n → ¬ SW g gr (.slice none 0 0) ad.block := by
  rintro ad rfl hp hs
  have h1 := rdB_lt hX hp
  have h2 := hC.hg
  have h3 := hC.hr
  rcases hs with h | h | h
  · omega
  · omega
  · simp [Value.ownBlock] at h
theorem hsw_ge {B g gr a b c : Nat} {cur : List Int} {v : Value} {w1 : World} (hC : CSt B g gr a b c cur v w1) : ∀ k, SW g gr (.slice none 0 0) k → B ≤ k := by
  rintro k (h | h | h)
  · have := hC.hg; omega
  · have := hC.hr; omega
  · simp [Value.ownBlock] at h
set_option maxRecDepth 100000 in
set_option maxHeartbeats 4000000 in
theorem all1_seq (a b c pB bB n cp : Nat) (A : Option Addr) (xs : List Int) (w : World) (hpB : w.heap[pB]? = some (.cells #[.int .i64 (a : Int), .int .i64 (b : Int), .int .i64 (c : Int)] 24 (0, 0))) (hbB : w.heap[bB]? = some (.cells #[.slice A n cp] 33 (0, 0))) (hX : RdB w A n xs) (hby : Bytes xs) (hm : mayB a b c = true) (hn : n ≤ 1073741824) :
    SeqY FoC Fence.wide 9 Tryd.prog 74 #[.pointer (some ⟨pB, 0, none⟩), .pointer (some ⟨bB, 0, none⟩)] (fun x => #[encS x]) (Yc (al a c (pw b) [] xs)) (fun ys => ys.length = (al a c (pw b) [] xs).length) (fun pre => pre.length ≤ (al a c (pw b) [] xs).length) w := by
  intro l J Jx W hW hJ hY h0
  obtain rfl : xs.length = n := hX.1
  obtain ⟨m1, m2, m3, m4⟩ : 1 ≤ a ∧ a ≤ b ∧ b ≤ c ∧ c ≤ 4096 := by unfold mayB at hm; simp at hm; omega
  have HPB := Aside0.mk (Later.heap hW hpB)
  have HBB := Aside0.mk (Later.heap hW hbB)
  have HX := Aside0.mk (Kd.C_below hX hW)
  have HM := Aside0.mk hm
  have HJ := Aside0.mk hJ
  have HY := Aside0.mk hY
  have H0 := Aside0.mk h0
  have HSZ := Aside0.mk (wrL_sizes (p := pw b) (by omega : a ≤ c) xs [] (by simp; omega))
  have HBY := Aside0.mk (wrL_bytes (a := a) (c := c) (p := pw b) hby)
  have HLN : Aside0 ((wrL a c (pw b) [] xs).1.length ≤ xs.length) := ⟨wrL_count a c (pw b) xs []⟩
  obtain ⟨CHw, hCHw⟩ : ∃ z, (wrL a c (pw b) [] xs).1 = z := ⟨_, rfl⟩
  obtain ⟨rst, hrst⟩ : ∃ z, (wrL a c (pw b) [] xs).2 = z := ⟨_, rfl⟩
  have HCH : Aside0 (al a c (pw b) [] xs = CHw ++ (if rst = [] then [] else [rst])) := ⟨by unfold al; rw [hCHw, hrst]⟩
  rw [hCHw, hrst] at HSZ HBY
  rw [hCHw] at HLN
  have HW1 := Aside0.mk hCHw
  have HBYX := Aside0.mk hby
  have HW2 := Aside0.mk hrst
  obtain ⟨CH, hCH⟩ : ∃ z, al a c (pw b) [] xs = z := ⟨_, rfl⟩
  rw [hCH] at HY HCH ⊢
  clear hm hJ hY h0 hCHw hrst hCH hX hpB hbB hW hby
  obtain ⟨q0, q1, q2⟩ := pm_cells HPB.out
  refine callsIn_of_wp Tryd.func74 rfl trivial ?_ rfl
  simp only [Tryd.ntmps74, List.size_toArray, List.length_cons, List.length_nil, Nat.reduceAdd, Nat.reduceSub, Array.replicate_succ, Array.replicate_zero, List.push_toArray, List.append_toArray, List.nil_append, List.cons_append]
  gi_wp2_with (first
    | (refine ⟨trivial, ?_⟩; gi_at_call 75; refine callsIn_wide.2 ((cnew_ok a b c W HM.out).mono ?_); rintro e w1 ⟨g, gr, rfl, hC1, hB1⟩; have HC1 := Aside0.mk hC1; have HB1 := Aside0.mk hB1; have hbx : w1.cell? ⟨bB, 0, none⟩ = some (.slice A xs.length cp) := (by rw [blk_cell (Later.heap hB1 HBB.out)]; rfl); clear hC1 hB1)
    | (refine ⟨trivial, ?_⟩; gi_at_call 76; refine callsIn_wide.2 ((cwrite_calls W.heap.size g gr a b c [] (.slice none 0 0) A xs.length cp xs w1 HC1.out (Kd.C_below HX.out HB1.out) (hout_new HX.out HC1.out) HBYX.out HB1.out.size hn (by simp) (by omega) (by omega)).mono ?_); rw [HW1.out, HW2.out]; rintro e w2 ⟨vo, v, rfl, hC2, hO2, hF2, -, -⟩; have hB2 : Below W.heap.size W w2 := HB1.out.trans (hF2.below (hsw_ge HC1.out) HB1.out.size); have HJ0 := Aside0.mk (H0.out w2 hB2); have HC2 := Aside0.mk hC2; have HO2 := Aside0.mk hO2; have hs2 : W.heap.size ≤ w2.heap.size := hB2.size; obtain ⟨vA, vc, rfl, hvc, -⟩ := Kd.R_reads hO2; clear hC2 hO2 hF2 hB2 hbx))
  gi_loopw [7, 20] (fun _ i wr => ∃ (k : Nat) (pre : List S3), pre.length = k ∧ k ≤ CHw.length ∧ i = .int .i64 k ∧ J w2.heap.size pre wr ∧ Kb W.heap.size w2.heap.size w2 wr) (fun _ i _ => CHw.length - (intOf i).toNat)
  case atStart => exact ⟨0, [], rfl, Nat.zero_le _, rfl, HJ0.out, Kb.refl _ _ _⟩
  case round =>
    obtain ⟨k, pre, hpl, hk, rfl, hJk, hKb⟩ := hrel
    have HKB := Aside0.mk hKb
    have HJK := Aside0.mk hJk
    have HPL := Aside0.mk hpl
    clear hKb hJk hpl
    have hsr : w2.heap.size ≤ wr.heap.size := HKB.out.1
    by_cases hlt : k < CHw.length
    · obtain ⟨q, cap, he, hq0, hq1, -⟩ := Kd.R_form HO2.out (by omega)
      injection he with he1 _ he3
      subst he1; subst he3
      obtain ⟨x, cx, hcell, hOx⟩ := KL_at (KL.kb HO2.out (Nat.le_refl _) HKB.out) k hlt
      have hmem : CHw.getD k [] ∈ CHw := by rw [List.getD_eq_getElem?_getD, List.getElem?_eq_getElem hlt]; exact List.getElem_mem _
      have hgd : CH.getD k [] = CHw.getD k [] := by rw [HCH.out, List.getD_eq_getElem?_getD, List.getElem?_append_left hlt, ← List.getD_eq_getElem?_getD]
      have hlC : CHw.length ≤ CH.length := by rw [HCH.out, List.length_append]; omega
      have hne : CHw.getD k [] ≠ [] := List.length_pos_iff.1 (HSZ.out.1 _ hmem).2.1
      have hYc : Yc CH W.heap.size w2.heap.size pre (x, (CHw.getD k []).length, cx) wr := ⟨by rw [HPL.out]; omega, hs2, hsr, by rw [HPL.out, hgd]; exact hOx.chY hne (HBY.out.1 _ hmem)⟩
      obtain ⟨fn, tmps, assign, body, hy, hR⟩ := HY.out w2.heap.size pre (x, (CHw.getD k []).length, cx) wr HJK.out hYc
      have HR := Aside0.mk hR
      dsimp only [encS] at hy
      generalize (CHw.getD k []).length = m at *
      clear hOx hmem hgd hne hYc hR
      gi_wp2
      refine HR.out.mono ?_
      rintro e W3 (⟨rfl, hJ3, hk3⟩ | ⟨rfl, hJx3⟩)
      · gi_wp2
        go_roundw
        case rel => exact ⟨k + 1, pre ++ [(x, m, cx)], by rw [List.length_append, HPL.out]; rfl, by omega, by rw [show wrap64 ((k : Int) + 1) = ((k + 1 : Nat) : Int) by have := HLN.out; unfold wrap64; omega], hJ3, HKB.out.trans hk3⟩
        case measure => rw [show wrap64 ((k : Int) + 1) = ((k + 1 : Nat) : Int) by have := HLN.out; unfold wrap64; omega]; simp [intOf]; omega
      · gi_wp2
        refine bodyPost_ret (results_none rfl _ _ _) rfl ⟨⟨_, rfl⟩, .inr ⟨_, _, ?_, hJx3⟩⟩
        rw [List.length_append, HPL.out]
        simp; omega
    · obtain rfl : k = CHw.length := by omega
      have HCr := Aside0.mk (HC2.out.kb (Nat.le_refl _) HKB.out)
      obtain ⟨vB, d, rfl, hvd, -⟩ := HC2.out.own.reads
      by_cases hr0 : rst.length = 0
      · gi_wp2_with (refine ⟨trivial, ?_⟩; gi_at_call 77; refine callsIn_wide.2 ((end_calls W.heap.size g gr a b c rst _ wr HCr.out).mono ?_); rintro e w3 ⟨rfl, -, -, hF3⟩; have HJ3 := Aside0.mk (HJ.out _ _ _ _ HJK.out (qs_end HCr.out hF3)); clear hF3)
        refine bodyPost_end (results_none rfl _ _ _) rfl ⟨⟨_, rfl⟩, .inl ⟨pre, w2.heap.size, ?_, HJ3.out⟩⟩
        rw [HPL.out, HCH.out, if_pos (List.eq_nil_of_length_eq_zero hr0), List.append_nil]
      · have hrp : 0 < rst.length := by omega
        have hrne : rst ≠ [] := List.length_pos_iff.1 hrp
        have HCHr : Aside0 (CH = CHw ++ [rst]) := ⟨by rw [HCH.out, if_neg hrne]⟩
        have HRL : Aside0 (rst.length ≤ 4096) := ⟨by have := HSZ.out.2; omega⟩
        gi_wp2_with (first
          | (refine ⟨trivial, ?_⟩; gi_at_call 77; refine callsIn_wide.2 ((end_calls W.heap.size g gr a b c rst _ wr HCr.out).mono ?_); rintro e w3 ⟨rfl, -, hO3, hF3⟩; have HJ3 := Aside0.mk (HJ.out _ _ _ _ HJK.out (qs_end HCr.out hF3)); obtain ⟨qB, cB, heB, -⟩ := Kd.R_form hO3 hrp; injection heB with heB _ _; subst heB; have HR3 := Aside0.mk (Kd.R_reads' hO3).2.2; have hs3 := hF3.size; clear hO3 hF3)
          | (refine ⟨trivial, ?_⟩; gi_at_call 64; refine callsIn_wide.2 ((clone_calls' _ rst.length _ rst w3 HR3.out (by have := HRL.out; omega)).mono ?_); rintro e w4 ⟨v4, rfl, hO4, hB4⟩; have hs4 := hB4.size; have HJ4 := Aside0.mk (HJ.out _ _ _ _ HJ3.out (Fr.mono (Fr.later (S := fun _ => False) hB4) (fun _ h => h.elim))); obtain ⟨x, cx, rfl, -, -⟩ := hO4.reads; have hYc : Yc CH W.heap.size w2.heap.size pre (x, rst.length, cx) w4 := ⟨by rw [HPL.out, HCHr.out]; simp, hs2, by omega, by rw [HPL.out, HCHr.out]; simp only [List.getD_eq_getElem?_getD, List.getElem?_concat_length, Option.getD_some]; exact (hO4.chY hrne HBY.out.2).mono (by omega)⟩; obtain ⟨fn, tmps, assign, body, hy, hR⟩ := HY.out w2.heap.size pre (x, rst.length, cx) w4 HJ4.out hYc; have HR := Aside0.mk hR; dsimp only [encS] at hy; clear hO4 hB4 hYc hR))
        refine HR.out.mono ?_
        rintro e W5 (⟨rfl, hJ5, -⟩ | ⟨rfl, hJx5⟩)
        · gi_wp2
          refine bodyPost_end (results_none rfl _ _ _) rfl ⟨⟨_, rfl⟩, .inl ⟨_, _, ?_, hJ5⟩⟩
          rw [HCHr.out, List.length_append, List.length_append, HPL.out]
          rfl
        · gi_wp2
          refine bodyPost_end (results_none rfl _ _ _) rfl ⟨⟨_, rfl⟩, .inr ⟨_, _, ?_, hJx5⟩⟩
          rw [HCHr.out, List.length_append, List.length_append, HPL.out]
          exact Nat.le_refl _
end Go.Proofs.YtdfahblgnbdndaaDoor
