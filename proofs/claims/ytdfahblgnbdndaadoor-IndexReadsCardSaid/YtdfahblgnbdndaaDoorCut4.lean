/- cut.Cutter: Write. Conditions: its own. -/
import Derived.Test.YtdfahblgnbdndaaDoorG7
namespace Go.Proofs.YtdfahblgnbdndaaDoor
open Go.RowKit Go.Proofs.YtdfahblgnbdndaaDoorW.PrintWords Go.Proofs.YtdfahblgnbdndaaDoorW.PrintMore
set_option linter.unusedVariables false
set_option linter.unusedSimpArgs false
/-- hash & mask. -/
theorem and_mask (h : Int) (p k : Nat) (h0 : 0 ≤ h) (h1 : h < 4294967296) (hp : p = 2 ^ k) (hk : k ≤ 12) : Go.bits .and .u32 h ((p - 1 : Nat) : Int) = h % (p : Int) := by
  have hp2 : p ≤ 2 ^ 12 := by rw [hp]; exact Nat.pow_le_pow_right (by omega) hk
  have hp1 : 0 < p := by rw [hp]; exact Nat.two_pow_pos k
  rw [u32_and h _ h0 h1 (by omega) (by omega), Int.toNat_natCast, hp, Nat.and_two_pow_sub_one_eq_mod, ← hp]
  rw [Int.natCast_emod, Int.toNat_of_nonneg h0]
def SW (g gr : Nat) (v0 : Value) (q : Nat) : Prop := q = g ∨ q = gr ∨ some q = v0.ownBlock
/-- What goes along in Write. -/
structure WrI (w : World) (B0 g gr a b c : Nat) (cur0 xs : List Int) (v0 : Value) (k : Nat) (cur : List Int) (v : Value) (L : List (List Int)) (vo : Value) (wq : World) : Prop where
  cs : CSt B0 g gr a b c cur v wq
  out : KL.R 33 wq B0 (fun q => some q ≠ v.ownBlock) vo L
  eq : wrL a c (pw b) cur0 xs = (L ++ (wrL a c (pw b) cur (xs.drop k)).1, (wrL a c (pw b) cur (xs.drop k)).2)
  fr : Fr w wq (SW g gr v0)
  hv : ∀ q, v.ownBlock = some q → some q = v0.ownBlock ∨ w.heap.size ≤ q
  ho : ∀ q, vo.ownBlock = some q → w.heap.size ≤ q
  lc : cur.length ≤ cur0.length + k
  ll : L.length ≤ k
  hB0 : B0 ≤ w.heap.size
theorem KL_types {w : World} {B0 g t : Nat} {ok : Nat → Prop} {vo : Value} {L : List (List Int)} {cs : Array Value} (h : KL.R 33 w B0 ok vo L) (hb : w.heap[g]? = some (.cells cs t (0, 0))) (h1 : 33 ≠ t) (h2 : 5 ≠ t) : KL.R 33 w B0 (fun q => ok q ∧ q ≠ g) vo L :=
  Kd.R_types h hb (fun q hq => by
    rcases List.mem_cons.1 hq with rfl | hq
    · exact h1
    · rcases List.mem_cons.1 hq with rfl | hq
      · exact h2
      · cases hq)
/-- Behind add, append and the store of what is there now. -/
theorem WrI.mid {w wq w1 w2 : World} {B0 g gr a b c : Nat} {cur0 xs : List Int} {v0 v v2 vo : Value} {k : Nat} {cur C : List Int} {L : List (List Int)} {o : Obj} (h : WrI w B0 g gr a b c cur0 xs v0 k cur v L vo wq)
    (hS : SetBlk wq w1 gr o) (hR : RSt w1 gr C) (hC : Bytes C) (hO : OwB w2 B0 v2 C) (hG : w1.grownBy w2 v.ownBlock) (hAt : v2.ownBlock = v.ownBlock ∨ ∃ q, v2.ownBlock = some q ∧ w1.heap.size ≤ q) :
    (w2.heap[g]? = wq.heap[g]?) ∧ CSt B0 g gr a b c C v2 (w2.setCell ⟨g, 5, none⟩ v2) ∧ KL.R 33 (w2.setCell ⟨g, 5, none⟩ v2) B0 (fun q => some q ≠ v2.ownBlock) vo L ∧ Fr w (w2.setCell ⟨g, 5, none⟩ v2) (SW g gr v0) ∧ (∀ q, v2.ownBlock = some q → some q = v0.ownBlock ∨ w.heap.size ≤ q) := by
  have hne := h.cs.ne
  obtain ⟨cs, hrt⟩ := h.cs.typed
  have hgl : g < wq.heap.size := (Array.getElem?_eq_some_iff.1 h.cs.blk).1
  have hgrl : gr < wq.heap.size := (Array.getElem?_eq_some_iff.1 hrt).1
  have hgv : some g ≠ v.ownBlock := Kd.R_ne h.cs.own h.cs.blk (by decide)
  have hgrv : some gr ≠ v.ownBlock := Kd.R_ne h.cs.own hrt (by decide)
  have hs1 : w1.heap.size = wq.heap.size := hS.size
  have hg2 : w2.heap[g]? = wq.heap[g]? := by rw [hG.block g (by omega) hgv, hS.else_ g hne]
  have hr2 : w2.heap[gr]? = w1.heap[gr]? := by rw [hG.block gr (by omega) hgrv]
  have hCS : CSt B0 g gr a b c C v2 (w2.setCell ⟨g, 5, none⟩ v2) := h.cs.setB hg2 (hR.move hr2) hO hC
  have hF1 : Fr w w1 (SW g gr v0) := h.fr.set hS (.inl (.inr (.inl rfl)))
  have hF2 : Fr w w2 (SW g gr v0) := hF1.grown hG (fun i hi => by
    rcases h.hv i hi with h1 | h1
    · exact .inl (.inr (.inr h1))
    · exact .inr h1)
  have hv2 : ∀ q, v2.ownBlock = some q → some q = v0.ownBlock ∨ w.heap.size ≤ q := fun q hq => by
    rcases hAt with e | ⟨q', e, hq'⟩
    · exact h.hv q (by rw [← e]; exact hq)
    · rw [e] at hq
      injection hq with hq
      have := h.fr.size
      exact .inr (by omega)
  have ho1 := Kd.R_step (KL_types h.out hrt (by decide) (by decide)) (fun q hq hl => hS.else_ q hq.2) (w1 := w1)
  have ho2 : KL.R 33 w2 B0 (fun q => some q ≠ v2.ownBlock) vo L := by
    refine Kd.R_mono (Kd.R_bound (Kd.R_step (Kd.R_bound ho1) (fun q hq hl => ?_) (w1 := w2))) (fun q hq => ?_)
    · rw [hG.block q (by omega) hq.1.1]
    · rcases hAt with e | ⟨q', e, hq'⟩
      · rw [e]; exact hq.1.1.1
      · rw [e]
        intro h3
        injection h3 with h3
        have := hq.1.2.2.1
        omega
  have hg2' := hg2.trans h.cs.blk
  have ho3 := Kd.R_set ho2 hg2' (by decide) 5 v2
  exact ⟨hg2, hCS, ho3, hF2.set (setBlk_cell hg2' v2) (.inl (.inl rfl)), hv2⟩
theorem infoBS : (Tryd.prog.info? 33).map (fun i => (i.zero, i.size, i.bytes)) = some (some (.slice none 0 0), 1, 24) := by kernel_rfl
theorem out_cut {w3 w4 : World} {B0 g gr a b c : Nat} {C : List Int} {L : List (List Int)} {v2 vo : Value} (hC : CSt B0 g gr a b c C v2 w3) (hO : KL.R 33 w3 B0 (fun q => some q ≠ v2.ownBlock) vo L) (hF : Fr w3 w4 (fun k => k = g ∨ k = gr)) (hE : OwB w4 B0 v2 C) :
    KL.R 33 w4 B0 (fun _ => True) vo L ∧ KL.M w4 B0 (fun k => some k = v2.ownBlock) C [v2] ∧ ∀ k, some k = v2.ownBlock → True ∧ some k ≠ vo.ownBlock := by
  obtain ⟨cs, hrt⟩ := hC.typed
  have h1 := KL_types (KL_types hO hC.blk (by decide) (by decide)) hrt (by decide) (by decide)
  have h2 := Kd.R_step h1 (fun q hq hl => hF.block q hl (by rintro (h | h); exact hq.1.2 h; exact hq.2 h)) (w1 := w4)
  refine ⟨Kd.R_mono h2 (fun _ _ => trivial), Kd.M_row (Kd.R_tight rfl hE), fun k hk => ⟨trivial, ?_⟩⟩
  obtain ⟨cs2, hty⟩ := Kd.R_typed hE k hk.symm
  exact Kd.R_ne h2 hty (by decide)
theorem wrL_step_cut {a c p : Nat} {cur : List Int} {x : Int} {t : List Int} (h : cutAt a c p (cur ++ [x]) = true) : wrL a c p cur (x :: t) = ((cur ++ [x]) :: (wrL a c p [] t).1, (wrL a c p [] t).2) := by rw [wrL, if_pos h]
theorem wrL_step_on {a c p : Nat} {cur : List Int} {x : Int} {t : List Int} (h : ¬ cutAt a c p (cur ++ [x]) = true) : wrL a c p cur (x :: t) = wrL a c p (cur ++ [x]) t := by rw [wrL, if_neg h]
theorem WrI.on {w wq w3 : World} {B0 g gr a b c : Nat} {cur0 xs : List Int} {v0 v v2 vo : Value} {k : Nat} {cur C : List Int} {L : List (List Int)} {x : Int} (h : WrI w B0 g gr a b c cur0 xs v0 k cur v L vo wq) (hx : xs.drop k = x :: xs.drop (k + 1)) (hCe : C = cur ++ [x]) (hcut : ¬ cutAt a c (pw b) C = true)
    (hC : CSt B0 g gr a b c C v2 w3) (hO : KL.R 33 w3 B0 (fun q => some q ≠ v2.ownBlock) vo L) (hF : Fr w w3 (SW g gr v0)) (hv : ∀ q, v2.ownBlock = some q → some q = v0.ownBlock ∨ w.heap.size ≤ q) :
    WrI w B0 g gr a b c cur0 xs v0 (k + 1) C v2 L vo w3 := by
  subst hCe
  have he := h.eq
  rw [hx, wrL_step_on hcut] at he
  have := h.lc
  have := h.ll
  exact ⟨hC, hO, he, hF, hv, h.ho, by simp; omega, by omega, h.hB0⟩
theorem WrI.cut {w wq w3 w4 w5 : World} {B0 g gr a b c : Nat} {cur0 xs : List Int} {v0 v vo vo5 : Value} {k : Nat} {cur C : List Int} {L : List (List Int)} {x : Int} (h : WrI w B0 g gr a b c cur0 xs v0 k cur v L vo wq) (hx : xs.drop k = x :: xs.drop (k + 1)) (hCe : C = cur ++ [x]) (hcut : cutAt a c (pw b) C = true)
    (hF : Fr w w3 (SW g gr v0)) (hC4 : CSt B0 g gr a b c [] (.slice none 0 0) w4) (hFE : Fr w3 w4 (fun k => k = g ∨ k = gr)) (hO4 : KL.R 33 w4 B0 (fun _ => True) vo L)
    (hO5 : KL.R 33 w5 B0 (fun _ => True) vo5 (L ++ [C])) (hG : w4.grownBy w5 vo.ownBlock) (hAt : vo5.ownBlock = vo.ownBlock ∨ ∃ q, vo5.ownBlock = some q ∧ w4.heap.size ≤ q) :
    WrI w B0 g gr a b c cur0 xs v0 (k + 1) [] (.slice none 0 0) (L ++ [C]) vo5 w5 := by
  subst hCe
  have he := h.eq
  rw [hx, wrL_step_cut hcut] at he
  have h1 := h.lc
  have h2 := h.ll
  have hF4 : Fr w w4 (SW g gr v0) := hF.trans (hFE.mono (fun q hq => hq.elim .inl (fun h => .inr (.inl h))))
  have hs := hF4.size
  obtain ⟨cs, hrt⟩ := hC4.typed
  have hgl : g < w4.heap.size := (Array.getElem?_eq_some_iff.1 hC4.blk).1
  have hgrl : gr < w4.heap.size := (Array.getElem?_eq_some_iff.1 hrt).1
  have hg5 : w5.heap[g]? = w4.heap[g]? := by rw [hG.block g (by omega) (Kd.R_ne hO4 hC4.blk (by decide))]
  have hr5 : w5.heap[gr]? = w4.heap[gr]? := by rw [hG.block gr (by omega) (Kd.R_ne hO4 hrt (by decide))]
  refine ⟨⟨hg5.trans hC4.blk, hC4.roll.move hr5, Kd.R_nil _ _ _ _ _, Bytes.nil, hC4.hg, hC4.hr⟩, Kd.R_mono hO5 (fun q _ => by simp [Value.ownBlock]), ?_, hF4.grown hG (fun i hi => .inr (h.ho i hi)), fun q hq => (by simp [Value.ownBlock] at hq), fun q hq => ?_, by simp, by simp; omega, h.hB0⟩
  · rw [he]; simp
  · rcases hAt with e | ⟨q', e, hq'⟩
    · exact h.ho q (by rw [← e]; exact hq)
    · rw [e] at hq
      injection hq with hq
      omega
set_option maxRecDepth 20000 in
set_option maxHeartbeats 3200000 in
theorem cwrite_calls (B0 g gr a b c : Nat) (cur0 : List Int) (v0 : Value) (A : Option Addr) (n cp : Nat) (xs : List Int) (w : World) (hcs : CSt B0 g gr a b c cur0 v0 w) (hX : RdB w A n xs) (hout : ∀ ad, A = some ad → 0 < n → ¬ SW g gr v0 ad.block) (hby : Bytes xs) (hB0 : B0 ≤ w.heap.size) (hn : n ≤ 1073741824) (hc0 : cur0.length ≤ 1073741824) (hb12 : b ≤ 4096) (hb1 : 1 ≤ b) :
    Calls Tryd.prog 76 #[.pointer (some ⟨g, 0, none⟩), .slice A n cp] w fun e w' => ∃ vo v, e = .returned vo ∧ CSt B0 g gr a b c (wrL a c (pw b) cur0 xs).2 v w' ∧ KL.R 33 w' B0 (fun q => some q ≠ v.ownBlock) vo (wrL a c (pw b) cur0 xs).1 ∧ Fr w w' (SW g gr v0) ∧ (∀ q, v.ownBlock = some q → some q = v0.ownBlock ∨ w.heap.size ≤ q) ∧ (∀ q, vo.ownBlock = some q → w.heap.size ≤ q) := by
  obtain rfl : xs.length = n := hX.1
  have HX := Aside0.mk hX
  have HC := Aside0.mk hcs
  have HOUT := Aside0.mk hout
  have hmf : ∀ (fn : Fn) (first cap : Array Value) (w : World), (Instr.makeFunc fn first cap).run Tryd.prog w = .ok (.func fn first cap) w := fun _ _ _ _ => rfl
  obtain ⟨q0, q2, q3, q4, q5, qf⟩ := hcs.cells
  clear hX hcs hout
  go_enter Tryd.func76, Tryd.ntmps76
  go_wp2
  go_loopw [6, 8, 9, 10, 18] (fun vo _ _ _ i wq => ∃ (k : Nat) (cur : List Int) (v : Value) (L : List (List Int)), k ≤ xs.length ∧ i = .int .i64 k ∧ WrI w B0 g gr a b c cur0 xs v0 k cur v L vo wq) (fun _ _ _ _ i _ => xs.length - (intOf i).toNat)
  case atStart => exact ⟨0, cur0, v0, [], by omega, rfl, ⟨HC.out, Kd.R_nil _ _ _ _ _, rfl, Fr.refl _ _, fun q hq => .inl hq.symm, (fun q hq => (by cases hq)), by omega, by simp, hB0⟩⟩
  case round =>
    clear q0 q2 q3 q4 q5 qf
    obtain ⟨k, cur, v, L, hk, rfl, hI⟩ := hrel
    have HI := Aside0.mk hI
    have hlc := hI.lc
    have hll := hI.ll
    clear hI
    by_cases hlt : k < xs.length
    · obtain ⟨ad, ea⟩ : ∃ ad, A = some ad := by obtain ⟨ad, e, _⟩ := Kd.at_int HX.out 0 (by omega) (by omega); exact ⟨ad, e⟩
      subst ea
      have hcell := HI.out.fr.cell (rdB_at HX.out k hlt) (by rw [add_blk]; exact HOUT.out ad rfl (by omega))
      have hbx := hby.at_ (k : Int)
      have hdrop : Aside0 (xs.drop k = rd xs (k : Int) :: xs.drop (k + 1)) := ⟨by
        rw [List.drop_eq_getElem_cons hlt]
        unfold Go.Proofs.YtdfahblgnbdndaaDoorW.PrintWords.rd
        rw [Int.toNat_natCast, List.getD_eq_getElem?_getD, List.getElem?_eq_getElem hlt]
        rfl⟩
      generalize rd xs (k : Int) = x at *
      obtain ⟨C, hCe⟩ : ∃ C, C = cur ++ [x] := ⟨_, rfl⟩
      have hCl : C.length = cur.length + 1 := by rw [hCe]; simp
      have HCL := Aside0.mk hCl
      have hclb : C.length ≤ 2147483649 := by omega
      have HCE := Aside0.mk hCe
      have HBC : Aside0 (Bytes C) := ⟨by rw [hCe]; exact HI.out.cs.by_.append (Bytes.one hbx.1 hbx.2)⟩
      have hvr := hov_range C
      have HPW : Aside0 (Go.bits .and .u32 (hov C) ((pw b - 1 : Nat) : Int) = hov C % (pw b : Int)) := ⟨and_mask _ _ b.log2 hvr.1 hvr.2 rfl (log2_le hb12)⟩
      have hcutI := cutAt_iff (mn := a) (mx := c) (p := pw b) (c := C)
      obtain ⟨H, hH⟩ : ∃ H, hov C = H := ⟨_, rfl⟩
      rw [hH] at HPW hvr hcutI
      have HH := Aside0.mk hH
      clear hCe hH hCl
      by_cases hmx : C.length = c
      · have hmxB : ((C.length : Int) == (c : Int)) = true := by simp [hmx]
        replace hcutI := hcutI.2 (.inl hmx)
        clear hmx
        go_wp2_with (first
          | (go_at_call 100; (with_reducible refine at_cw wr ?_); refine (add_calls gr cur x wr HI.out.cs.roll (by omega) hbx.1 hbx.2).mono ?_; rw [← HCE.out, HH.out]; rintro e w1 ⟨rfl, hR, o, hS⟩; have HR1 := Aside0.mk hR; have HS1 := Aside0.mk hS; have hc5 : w1.cell? ⟨g, 5, none⟩ = some v := (by rw [blk_cell ((hS.else_ g HI.out.cs.ne).trans HI.out.cs.blk) 5]; rfl); clear hR hS)
          | (at_builtin; refine appB (w0 := w1) B0 rfl (.tmp 29) (.tmp 31) rfl v cur x rfl rfl (OwB.setTyped HI.out.cs.own HI.out.cs.typed.choose_spec (by decide) HS1.out) (Below.refl _ _) (by have := HI.out.fr.size; have := HS1.out.size; have := HI.out.hB0; omega) (by omega) ?_; intro v2 w2 hO hB hG hAt; rw [← HCE.out] at hO; obtain ⟨A2, d2, rfl, _, _⟩ := hO.reads; obtain ⟨hg2, hC3, hO3, hF3, hv3⟩ := HI.out.mid HS1.out HR1.out HBC.out hO hG hAt; have hc52 : w2.cell? ⟨g, 5, none⟩ = some v := (by rw [blk_cell (hg2.trans HI.out.cs.blk) 5]; rfl); have hf52 : w2.frozen? ⟨g, 5, none⟩ = false := blk_frozen (hg2.trans HI.out.cs.blk) 5; have HC3 := Aside0.mk hC3; have HO3 := Aside0.mk hO3; have HF3 := Aside0.mk hF3; have HV3 := Aside0.mk hv3; obtain ⟨s0, s2, s3, s4, s5, sf⟩ := hC3.cells; clear hO hB hG hAt hg2 hC3 hO3 hF3 hv3)
          | (go_at_call 77; refine (end_calls B0 g gr a b c C _ _ HC3.out).mono ?_; rintro e w4 ⟨rfl, hC4, hO4, hF4⟩; obtain ⟨hoo, hom, hop⟩ := out_cut HC3.out HO3.out hF4 hO4; have HC4 := Aside0.mk hC4; have HF4 := Aside0.mk hF4; have HOO := Aside0.mk hoo; have HOM := Aside0.mk hom; have HOP := Aside0.mk hop; clear hC4 hF4 hoo hom hop hO4)
          | (at_builtin; refine Kd.R_append (w0 := w4) KL B0 rfl (.tmp 65) (.tmp 68) 61 33 (.slice none 0 0) 24 rfl Tryd.underlying61 infoBS rfl (by decide) (by decide) u6 L C [.slice A2 C.length d2] (fun _ => True) (fun k => some k = (Value.slice A2 C.length d2).ownBlock) rfl rfl HOM.out HOP.out (fun _ _ => trivial) HOO.out (Below.refl _ _) (by have := HF3.out.size; have := HF4.out.size; have := HI.out.hB0; omega) (by omega) ?_; intro vo5 w5 hO5 hB5 hG5 hAt5; have HN := Aside0.mk (HI.out.cut hdrop.out HCE.out hcutI HF3.out HC4.out HF4.out HOO.out hO5 hG5 hAt5); clear hO5 hB5 hG5 hAt5))
        (try simp only [Exit.inBlock, Exit.then])
        exact ⟨⟨k + 1, [], _, L ++ [C], by omega, rfl, HN.out⟩, by simp [intOf]; omega⟩
      · have hmxB : ((C.length : Int) == (c : Int)) = false := by simp; omega
        by_cases hmn : a ≤ C.length
        · have hmnB : (decide ((a : Int) ≤ (C.length : Int))) = true := by simp [hmn]
          by_cases hH : H % (pw b : Int) = 0
          · have hHB : (Go.bits .and .u32 H ((pw b - 1 : Nat) : Int) == 0) = true := by rw [HPW.out]; simp [hH]
            replace hcutI := hcutI.2 (.inr ⟨hmn, hH⟩)
            go_wp2_with (first
              | (go_at_call 100; (with_reducible refine at_cw wr ?_); refine (add_calls gr cur x wr HI.out.cs.roll (by omega) hbx.1 hbx.2).mono ?_; rw [← HCE.out, HH.out]; rintro e w1 ⟨rfl, hR, o, hS⟩; have HR1 := Aside0.mk hR; have HS1 := Aside0.mk hS; have hc5 : w1.cell? ⟨g, 5, none⟩ = some v := (by rw [blk_cell ((hS.else_ g HI.out.cs.ne).trans HI.out.cs.blk) 5]; rfl); clear hR hS)
              | (at_builtin; refine appB (w0 := w1) B0 rfl (.tmp 29) (.tmp 31) rfl v cur x rfl rfl (OwB.setTyped HI.out.cs.own HI.out.cs.typed.choose_spec (by decide) HS1.out) (Below.refl _ _) (by have := HI.out.fr.size; have := HS1.out.size; have := HI.out.hB0; omega) (by omega) ?_; intro v2 w2 hO hB hG hAt; rw [← HCE.out] at hO; obtain ⟨A2, d2, rfl, _, _⟩ := hO.reads; obtain ⟨hg2, hC3, hO3, hF3, hv3⟩ := HI.out.mid HS1.out HR1.out HBC.out hO hG hAt; have hc52 : w2.cell? ⟨g, 5, none⟩ = some v := (by rw [blk_cell (hg2.trans HI.out.cs.blk) 5]; rfl); have hf52 : w2.frozen? ⟨g, 5, none⟩ = false := blk_frozen (hg2.trans HI.out.cs.blk) 5; have HC3 := Aside0.mk hC3; have HO3 := Aside0.mk hO3; have HF3 := Aside0.mk hF3; have HV3 := Aside0.mk hv3; obtain ⟨s0, s2, s3, s4, s5, sf⟩ := hC3.cells; clear hO hB hG hAt hg2 hC3 hO3 hF3 hv3)
              | (go_at_call 77; refine (end_calls B0 g gr a b c C _ _ HC3.out).mono ?_; rintro e w4 ⟨rfl, hC4, hO4, hF4⟩; obtain ⟨hoo, hom, hop⟩ := out_cut HC3.out HO3.out hF4 hO4; have HC4 := Aside0.mk hC4; have HF4 := Aside0.mk hF4; have HOO := Aside0.mk hoo; have HOM := Aside0.mk hom; have HOP := Aside0.mk hop; clear hC4 hF4 hoo hom hop hO4)
              | (at_builtin; refine Kd.R_append (w0 := w4) KL B0 rfl (.tmp 65) (.tmp 68) 61 33 (.slice none 0 0) 24 rfl Tryd.underlying61 infoBS rfl (by decide) (by decide) u6 L C [.slice A2 C.length d2] (fun _ => True) (fun k => some k = (Value.slice A2 C.length d2).ownBlock) rfl rfl HOM.out HOP.out (fun _ _ => trivial) HOO.out (Below.refl _ _) (by have := HF3.out.size; have := HF4.out.size; have := HI.out.hB0; omega) (by omega) ?_; intro vo5 w5 hO5 hB5 hG5 hAt5; have HN := Aside0.mk (HI.out.cut hdrop.out HCE.out hcutI HF3.out HC4.out HF4.out HOO.out hO5 hG5 hAt5); clear hO5 hB5 hG5 hAt5))
            (try simp only [Exit.inBlock, Exit.then])
            exact ⟨⟨k + 1, [], _, L ++ [C], by omega, rfl, HN.out⟩, by simp [intOf]; omega⟩
          · have hHB : (Go.bits .and .u32 H ((pw b - 1 : Nat) : Int) == 0) = false := by rw [HPW.out]; simp [hH]
            replace hcutI : ¬ cutAt a c (pw b) C = true := fun h => (hcutI.1 h).elim hmx (fun h => hH h.2)
            go_wp2_with (first
              | (go_at_call 100; (with_reducible refine at_cw wr ?_); refine (add_calls gr cur x wr HI.out.cs.roll (by omega) hbx.1 hbx.2).mono ?_; rw [← HCE.out, HH.out]; rintro e w1 ⟨rfl, hR, o, hS⟩; have HR1 := Aside0.mk hR; have HS1 := Aside0.mk hS; have hc5 : w1.cell? ⟨g, 5, none⟩ = some v := (by rw [blk_cell ((hS.else_ g HI.out.cs.ne).trans HI.out.cs.blk) 5]; rfl); clear hR hS)
              | (at_builtin; refine appB (w0 := w1) B0 rfl (.tmp 29) (.tmp 31) rfl v cur x rfl rfl (OwB.setTyped HI.out.cs.own HI.out.cs.typed.choose_spec (by decide) HS1.out) (Below.refl _ _) (by have := HI.out.fr.size; have := HS1.out.size; have := HI.out.hB0; omega) (by omega) ?_; intro v2 w2 hO hB hG hAt; rw [← HCE.out] at hO; obtain ⟨A2, d2, rfl, _, _⟩ := hO.reads; obtain ⟨hg2, hC3, hO3, hF3, hv3⟩ := HI.out.mid HS1.out HR1.out HBC.out hO hG hAt; have hc52 : w2.cell? ⟨g, 5, none⟩ = some v := (by rw [blk_cell (hg2.trans HI.out.cs.blk) 5]; rfl); have hf52 : w2.frozen? ⟨g, 5, none⟩ = false := blk_frozen (hg2.trans HI.out.cs.blk) 5; have HC3 := Aside0.mk hC3; have HO3 := Aside0.mk hO3; have HF3 := Aside0.mk hF3; have HV3 := Aside0.mk hv3; obtain ⟨s0, s2, s3, s4, s5, sf⟩ := hC3.cells; clear hO hB hG hAt hg2 hC3 hO3 hF3 hv3))
            (try simp only [Exit.inBlock, Exit.then])
            exact ⟨⟨k + 1, C, _, L, by omega, rfl, HI.out.on hdrop.out HCE.out hcutI HC3.out HO3.out HF3.out HV3.out⟩, by simp [intOf]; omega⟩
        · have hmnB : (decide ((a : Int) ≤ (C.length : Int))) = false := by simp [hmn]
          replace hcutI : ¬ cutAt a c (pw b) C = true := fun h => (hcutI.1 h).elim hmx (fun h => hmn h.1)
          go_wp2_with (first
            | (go_at_call 100; (with_reducible refine at_cw wr ?_); refine (add_calls gr cur x wr HI.out.cs.roll (by omega) hbx.1 hbx.2).mono ?_; rw [← HCE.out, HH.out]; rintro e w1 ⟨rfl, hR, o, hS⟩; have HR1 := Aside0.mk hR; have HS1 := Aside0.mk hS; have hc5 : w1.cell? ⟨g, 5, none⟩ = some v := (by rw [blk_cell ((hS.else_ g HI.out.cs.ne).trans HI.out.cs.blk) 5]; rfl); clear hR hS)
            | (at_builtin; refine appB (w0 := w1) B0 rfl (.tmp 29) (.tmp 31) rfl v cur x rfl rfl (OwB.setTyped HI.out.cs.own HI.out.cs.typed.choose_spec (by decide) HS1.out) (Below.refl _ _) (by have := HI.out.fr.size; have := HS1.out.size; have := HI.out.hB0; omega) (by omega) ?_; intro v2 w2 hO hB hG hAt; rw [← HCE.out] at hO; obtain ⟨A2, d2, rfl, _, _⟩ := hO.reads; obtain ⟨hg2, hC3, hO3, hF3, hv3⟩ := HI.out.mid HS1.out HR1.out HBC.out hO hG hAt; have hc52 : w2.cell? ⟨g, 5, none⟩ = some v := (by rw [blk_cell (hg2.trans HI.out.cs.blk) 5]; rfl); have hf52 : w2.frozen? ⟨g, 5, none⟩ = false := blk_frozen (hg2.trans HI.out.cs.blk) 5; have HC3 := Aside0.mk hC3; have HO3 := Aside0.mk hO3; have HF3 := Aside0.mk hF3; have HV3 := Aside0.mk hv3; obtain ⟨s0, s2, s3, s4, s5, sf⟩ := hC3.cells; clear hO hB hG hAt hg2 hC3 hO3 hF3 hv3))
          (try simp only [Exit.inBlock, Exit.then])
          exact ⟨⟨k + 1, C, _, L, by omega, rfl, HI.out.on hdrop.out HCE.out hcutI HC3.out HO3.out HF3.out HV3.out⟩, by simp [intOf]; omega⟩
    · obtain rfl : k = xs.length := by omega
      go_wp2
      (try simp only [Exit.inBlock, Exit.then])
      have heq := HI.out.eq
      rw [List.drop_of_length_le (Nat.le_refl _)] at heq
      have e1 : wrL a c (pw b) cur [] = ([], cur) := rfl
      rw [e1, List.append_nil] at heq
      refine bodyPost_ret (results_tmp rfl _ _ _) rfl ⟨u6, v, rfl, ?_, ?_, HI.out.fr, HI.out.hv, HI.out.ho⟩
      · rw [heq]; exact HI.out.cs
      · rw [heq]; exact HI.out.out
end Go.Proofs.YtdfahblgnbdndaaDoor
