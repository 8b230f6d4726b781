/- Literal tokens; the boxes of lz.Pack; contract of its put. Conditions: its own. -/
import Derived.Test.YtcbcoaafdggniaaLz7
import Derived.Test.YtcbcoaafdggniaaG1
namespace Go.Proofs.Ytcbcoaafdggniaa
open Go.RowKit Go.Shelf Go.Proofs.YtcbcoaafdggniaaW.PrintWords Go.Proofs.YtcbcoaafdggniaaW.PrintMore
attribute [local go_sem] max2_int min2_int max_two min_two
set_option linter.unusedVariables false
set_option linter.unusedSimpArgs false
/-- Literal tokens of bytes. -/
def litF : Nat → List Int → List Int
  | 0, _ => []
  | f + 1, xs => if xs = [] then [] else (((min xs.length 128 : Nat) : Int) - 1) :: (xs.take 128 ++ litF f (xs.drop 128))
def litL (xs : List Int) : List Int := litF xs.length xs
theorem litF_fuel : ∀ (f : Nat) (xs : List Int), xs.length ≤ f → litF f xs = litL xs
  | 0, xs, h => by
    obtain rfl : xs = [] := List.eq_nil_of_length_eq_zero (by omega)
    rfl
  | f + 1, xs, h => by
    by_cases hx : xs = []
    · subst hx; rfl
    · have hp : 0 < xs.length := List.length_pos_iff.2 hx
      obtain ⟨m, hm⟩ : ∃ m, xs.length = m + 1 := ⟨xs.length - 1, by omega⟩
      have hd : (xs.drop 128).length ≤ m := by rw [List.length_drop]; omega
      unfold litL
      rw [hm]
      unfold litF
      rw [if_neg hx, if_neg hx, litF_fuel f _ (by rw [List.length_drop]; omega)]
      by_cases hmf : m = f
      · subst hmf; rw [litF_fuel m _ hd]
      · rw [litF_fuel m _ hd]
termination_by f => f
theorem litL_nil : litL [] = [] := rfl
theorem litL_cons {xs : List Int} (h : 0 < xs.length) : litL xs = (((min xs.length 128 : Nat) : Int) - 1) :: (xs.take (min xs.length 128) ++ litL (xs.drop (min xs.length 128))) := by
  obtain ⟨m, hm⟩ : ∃ m, xs.length = m + 1 := ⟨xs.length - 1, by omega⟩
  have e1 : xs.take 128 = xs.take (min xs.length 128) := by
    by_cases h1 : xs.length ≤ 128
    · rw [List.take_of_length_le h1, List.take_of_length_le (by omega)]
    · rw [show min xs.length 128 = 128 by omega]
  have e2 : xs.drop 128 = xs.drop (min xs.length 128) := by
    by_cases h1 : xs.length ≤ 128
    · rw [List.drop_of_length_le h1, List.drop_of_length_le (by omega)]
    · rw [show min xs.length 128 = 128 by omega]
  rw [← e1, ← e2, ← litF_fuel m (xs.drop 128) (by rw [List.length_drop]; omega)]
  unfold litL
  rw [hm]
  conv => lhs; unfold litF
  rw [if_neg (by rintro rfl; simp at h), hm]
theorem litL_len (n : Nat) : ∀ (xs : List Int), xs.length ≤ n → (litL xs).length ≤ 2 * xs.length := by
  induction n with
  | zero => intro xs h; obtain rfl : xs = [] := List.eq_nil_of_length_eq_zero (by omega); simp [litL_nil]
  | succ n ih =>
    intro xs h
    rcases Nat.eq_zero_or_pos xs.length with h0 | h0
    · obtain rfl : xs = [] := List.eq_nil_of_length_eq_zero h0
      simp [litL_nil]
    · have := ih (xs.drop (min xs.length 128)) (by rw [List.length_drop]; omega)
      rw [litL_cons h0, List.length_cons, List.length_append, List.length_take]
      rw [List.length_drop] at this
      omega
theorem litL_bytes (n : Nat) : ∀ (xs : List Int), xs.length ≤ n → Bytes xs → Bytes (litL xs) := by
  induction n with
  | zero => intro xs h _; obtain rfl : xs = [] := List.eq_nil_of_length_eq_zero (by omega); exact Bytes.nil
  | succ n ih =>
    intro xs h hb
    rcases Nat.eq_zero_or_pos xs.length with h0 | h0
    · obtain rfl : xs = [] := List.eq_nil_of_length_eq_zero h0
      exact Bytes.nil
    · rw [litL_cons h0]
      intro x hx
      rcases List.mem_cons.1 hx with rfl | hx
      · omega
      · exact ((hb.take _).append (ih _ (by rw [List.length_drop]; omega) (hb.drop _))) x hx
/-- The boxes of out (at p4) and own (at p5). -/
structure PkSt (w : World) (p4 p5 : Nat) (vo vn : Value) (out own : List Int) : Prop where
  bo : w.heap[p4]? = some (.cells #[vo] 22 (0, 0))
  bn : w.heap[p5]? = some (.cells #[vn] 22 (0, 0))
  ro : QB w 0 vo out
  rn : QB w 0 vn own
  ap : ∀ k, vo.ownBlock = some k → vn.ownBlock ≠ some k
  ne : p4 ≠ p5
theorem PkSt.no4 {w : World} {p4 p5 : Nat} {vo vn : Value} {out own : List Int} (h : PkSt w p4 p5 vo vn out own) : vo.ownBlock ≠ some p4 ∧ vo.ownBlock ≠ some p5 ∧ vn.ownBlock ≠ some p4 ∧ vn.ownBlock ≠ some p5 :=
  ⟨h.ro.typed h.bo (by decide), h.ro.typed h.bn (by decide), h.rn.typed h.bo (by decide), h.rn.typed h.bn (by decide)⟩
theorem PkSt.later {w w1 : World} {p4 p5 : Nat} {vo vn : Value} {out own : List Int} (h : PkSt w p4 p5 vo vn out own) (k : Later w w1) : PkSt w1 p4 p5 vo vn out own :=
  ⟨Later.heap k h.bo, Later.heap k h.bn, h.ro.below k, h.rn.below k, h.ap, h.ne⟩
theorem store_bs {W : World} {g : Nat} {v : Value} (h : W.heap[g]? = some (.cells #[v] 22 (0, 0))) (A : Option Addr) (n c : Nat) :
    ∃ W1, (Instr.storeAt 22 (.pointer (some ⟨g, 0, none⟩)) (.slice A n c)).run Try.prog W = .ok () W1 ∧ SetBlk W W1 g (.cells #[.slice A n c] 22 (0, 0)) := by
  have hc : W.cell? ⟨g, 0, none⟩ = some v := by rw [blk_cell h]; rfl
  have hf := blk_frozen h 0
  have h2 := setBlk_cell h (.slice A n c) (i := 0)
  refine ⟨W.setCell ⟨g, 0, none⟩ (.slice A n c), ?_, by simpa using h2⟩
  clear h h2
  go_simp
/-- q[:k] of a row that may begin inside its block. -/
theorem QB.take_ {w : World} {base n c : Nat} {A : Option Addr} {xs : List Int} (h : QB w base (.slice A n c) xs) (hn : n = xs.length) (k : Nat) (hk : k ≤ xs.length) :
    (∀ W : World, (Instr.slice 22 (.slice A n c) none (some (.int .i64 k)) none).run Try.prog W = .ok (.slice A k c) W) ∧ RdB w A k (xs.take k) := by
  obtain ⟨A', c', he, hc, hr⟩ := h.reads
  injection he with e1 e2 e3
  subst e1; subst e3
  have := cutTo hr hc (k : Int) (by omega) (by omega)
  rw [Int.toNat_natCast] at this
  subst hn
  exact this
/-- After put: what was own is out, as literals. -/
structure PutPost (w : World) (p4 p5 : Nat) (vo vn : Value) (out own : List Int) (w' : World) : Prop where
  ex : ∃ vo' vn', PkSt w' p4 p5 vo' vn' (out ++ litL own) [] ∧ (vo'.ownBlock = vo.ownBlock ∨ ∃ q, vo'.ownBlock = some q ∧ w.heap.size ≤ q) ∧ vn'.ownBlock = vn.ownBlock
  fr : Fr w w' (fun k => k = p4 ∨ k = p5 ∨ vo.ownBlock = some k)
def sLen (w : World) (p : Nat) : Nat := match w.cell? ⟨p, 0, none⟩ with
  | some (.slice _ n _) => n
  | _ => 0
theorem PkSt.sLen {w : World} {p4 p5 : Nat} {vo vn : Value} {out own : List Int} (h : PkSt w p4 p5 vo vn out own) : sLen w p5 = own.length := by
  obtain ⟨A, c, rfl, _, _⟩ := h.rn.reads
  unfold Go.Proofs.Ytcbcoaafdggniaa.sLen
  rw [blk_cell h.bn]
  rfl
structure PInv (w : World) (p4 p5 : Nat) (vo vn : Value) (out own o' n' : List Int) (vo' vn' : Value) (wr : World) : Prop where
  st : PkSt wr p4 p5 vo' vn' o' n'
  eq : o' ++ litL n' = out ++ litL own
  le : n'.length ≤ own.length
  fr : Fr w wr (fun k => k = p4 ∨ k = p5 ∨ vo.ownBlock = some k)
  lo : vo'.ownBlock = vo.ownBlock ∨ ∃ q, vo'.ownBlock = some q ∧ w.heap.size ≤ q
  ln : vn'.ownBlock = vn.ownBlock
set_option maxRecDepth 20000 in
set_option maxHeartbeats 1600000 in
theorem put_calls (p4 p5 : Nat) (vo vn : Value) (out own : List Int) (w : World) (h : PkSt w p4 p5 vo vn out own) (hlo : out.length ≤ 8796093022208) (hln : own.length ≤ 1099511627776) :
    Calls Try.prog 34 #[.pointer (some ⟨p5, 0, none⟩), .pointer (some ⟨p4, 0, none⟩)] w fun e w' => e = .returned (.tuple #[]) ∧ PutPost w p4 p5 vo vn out own w' := by
  have HS := Aside0.mk h
  clear h
  go_enter Try.func34, Try.ntmps34
  go_wp2
  go_loopw [2] (fun _ wr => ∃ o' n' vo' vn', PInv w p4 p5 vo vn out own o' n' vo' vn' wr) (fun _ wr => sLen wr p5)
  case atStart => exact ⟨out, own, vo, vn, HS.out, rfl, Nat.le_refl _, Fr.refl _ _, .inl rfl, rfl⟩
  case round =>
    obtain ⟨o', n', vo', vn', hI⟩ := hrel
    have HI := Aside0.mk hI
    have hst := hI.st
    have hle := hI.le
    have hlen : o'.length ≤ 17592186044416 := by
      have h1 := congrArg List.length hI.eq
      rw [List.length_append, List.length_append] at h1
      have h2 := litL_len own.length own (Nat.le_refl _)
      omega
    clear hI
    obtain ⟨An, cn, rfl, hcn, hrn⟩ := hst.rn.reads
    obtain ⟨Ao, co, rfl, hco, hro⟩ := hst.ro.reads
    have hcell5 : wr.cell? ⟨p5, 0, none⟩ = some (.slice An n'.length cn) := by rw [blk_cell hst.bn]; rfl
    have HST := Aside0.mk hst
    clear hst hro
    by_cases hp : 0 < n'.length
    · have hpI : (0 : Int) < (n'.length : Int) := by omega
      obtain ⟨m, hm⟩ : ∃ m, m = min n'.length 128 := ⟨_, rfl⟩
      have hmI : (if (128 : Int) < (n'.length : Int) then (128 : Int) else (n'.length : Int)) = (m : Int) := by split <;> omega
      have hm1 : 1 ≤ m ∧ m ≤ n'.length ∧ m ≤ 128 := by omega
      have HM := Aside0.mk hm
      clear hm
      go_wp2
      have hcell4 : wr.drew.cell? ⟨p4, 0, none⟩ = some (.slice Ao o'.length co) := by rw [World.cell?_drew, blk_cell HST.out.bo]; rfl
      have HC4 := Aside0.mk hcell4
      have HC5 : Aside0 (wr.drew.cell? ⟨p5, 0, none⟩ = some (.slice An n'.length cn)) := ⟨hcell5⟩
      have hN := HST.out.no4
      have HN := Aside0.mk hN
      obtain ⟨hcut, hrt⟩ := QB.take_ HST.out.rn rfl m hm1.2.1
      have HCUT := Aside0.mk hcut
      clear hcut hcell4 hcell5 hN
      refine seqX_startN [9, 10] (fun k => (Value.slice Ao o'.length co).ownBlock = some k) (.take 0 (.pure 1 (.pure 2 (.pure 3 (.take 6 (.pure 7 (.pure 8 (.run 4 (.run 5 (.run 9 (.run 10 .done))))))))))) (by kernel_rfl) (by kernel_rfl) ?_
      refine seqX_take (v := ?_) (a' := ?_) rfl rfl (by rfl) (fun w' hw' => ?_) ?_ ?_
      rotate_left 2
      · have hq := hw'.cell HC4.out (fun e => HN.out.1 e); go_simp
        with_reducible rfl
      · simp only [Act.put, List.setIfInBounds_toArray, List.set_cons_zero, List.set_cons_succ, Go.Proofs.YtcbcoaafdggniaaW.PrintLast.i64_w, Go.Proofs.YtcbcoaafdggniaaW.PrintLast.i32_w]
        rfl
      refine seqX_pure (v := ?_) (a' := ?_) rfl rfl (by rfl) (fun w' => ?_) ?_ ?_
      rotate_left 2
      · go_simp
        with_reducible rfl
      · simp only [Act.put, List.setIfInBounds_toArray, List.set_cons_zero, List.set_cons_succ, Go.Proofs.YtcbcoaafdggniaaW.PrintLast.i64_w, Go.Proofs.YtcbcoaafdggniaaW.PrintLast.i32_w]
        rfl
      refine seqX_pure (v := ?_) (a' := ?_) rfl rfl (by rfl) (fun w' => ?_) ?_ ?_
      rotate_left 2
      · go_simp
        with_reducible rfl
      · simp only [Act.put, List.setIfInBounds_toArray, List.set_cons_zero, List.set_cons_succ, Go.Proofs.YtcbcoaafdggniaaW.PrintLast.i64_w, Go.Proofs.YtcbcoaafdggniaaW.PrintLast.i32_w]
        rfl
      refine seqX_pure (v := ?_) (a' := ?_) rfl rfl (by rfl) (fun w' => ?_) ?_ ?_
      rotate_left 2
      · go_simp
        with_reducible rfl
      · simp only [Act.put, List.setIfInBounds_toArray, List.set_cons_zero, List.set_cons_succ, Go.Proofs.YtcbcoaafdggniaaW.PrintLast.i64_w, Go.Proofs.YtcbcoaafdggniaaW.PrintLast.i32_w]
        rfl
      refine seqX_take (v := ?_) (a' := ?_) rfl rfl (by rfl) (fun w' hw' => ?_) ?_ ?_
      rotate_left 2
      · have hq := hw'.cell HC5.out (fun e => HN.out.2.1 e); go_simp
        with_reducible rfl
      · simp only [Act.put, List.setIfInBounds_toArray, List.set_cons_zero, List.set_cons_succ, Go.Proofs.YtcbcoaafdggniaaW.PrintLast.i64_w, Go.Proofs.YtcbcoaafdggniaaW.PrintLast.i32_w]
        rfl
      refine seqX_pure (v := ?_) (a' := ?_) rfl rfl (by rfl) (fun w' => ?_) ?_ ?_
      rotate_left 2
      · go_simp
        with_reducible rfl
      · simp only [Act.put, List.setIfInBounds_toArray, List.set_cons_zero, List.set_cons_succ, Go.Proofs.YtcbcoaafdggniaaW.PrintLast.i64_w, Go.Proofs.YtcbcoaafdggniaaW.PrintLast.i32_w]
        rfl
      refine seqX_pure (v := ?_) (a' := ?_) rfl rfl (by rfl) (fun w' => ?_) ?_ ?_
      rotate_left 2
      · have hq := HCUT.out w'; go_simp
        with_reducible rfl
      · simp only [Act.put, List.setIfInBounds_toArray, List.set_cons_zero, List.set_cons_succ, Go.Proofs.YtcbcoaafdggniaaW.PrintLast.i64_w, Go.Proofs.YtcbcoaafdggniaaW.PrintLast.i32_w]
        rfl
      refine seqX_run ?_
      refine do_val (v := ?_) (a' := ?_) (w1 := ?_) rfl rfl (by rfl) ?_ ?_ ?_
      rotate_left 3
      · go_simp
        constructor <;> rfl
      · simp only [Act.put, List.setIfInBounds_toArray, List.set_cons_zero, List.set_cons_succ, Go.Proofs.YtcbcoaafdggniaaW.PrintLast.i64_w, Go.Proofs.YtcbcoaafdggniaaW.PrintLast.i32_w]
        rfl
      refine ⟨fun _ => Fr.later (below_alloc (Below.refl _ _) _), ?_⟩
      have hwm : IntKind.u8.wrap (wrap64 ((m : Int) - 1)) = (m : Int) - 1 := by
        rw [show wrap64 ((m : Int) - 1) = (m : Int) - 1 by unfold wrap64; omega, IntKind.wrap_u8]
        omega
      obtain ⟨W, hW, KW⟩ : ∃ W, Aside0 (W = (wr.alloc (.cells #[.int .u8 (IntKind.u8.wrap (wrap64 ((m : Int) - 1)))] 5)).drew) ∧ Aside0 (Later wr W) := ⟨_, ⟨rfl⟩, ⟨Below.drew (below_alloc (Later.refl wr) _)⟩⟩
      have HRI : Aside0 (RdB W (some ⟨wr.heap.size, 0, none⟩) 1 [(m : Int) - 1]) := ⟨by rw [hW.out, hwm]; exact Kd.C_drew (rd_lit wr _ _ _ _ rfl rfl (by simp))⟩
      rw [← hW.out]
      clear hwm hW HC4
      have HSW := Aside0.mk (HST.out.later KW.out)
      refine seqX_run ?_
      refine do_appQ 0 rfl rfl (by rfl) (.tmp 9) (.tmp 13) rfl (.slice Ao o'.length co) o' [(m : Int) - 1] (some ⟨wr.heap.size, 0, none⟩) 1 1 rfl rfl HSW.out.ro HRI.out (Nat.zero_le _) (by omega) ?_
      intro v1 w1 hq1 hg1 hl1
      simp only [Act.put, List.setIfInBounds_toArray, List.set_cons_zero, List.set_cons_succ]
      have F1 : Fr W w1 (fun k => (Value.slice Ao o'.length co).ownBlock = some k) := (Fr.refl W _).grown hg1 (fun i hi => .inl hi)
      refine ⟨fun _ => F1, ?_⟩
      have hn1 : QB w1 0 (.slice An n'.length cn) n' := HSW.out.rn.move (fun k hk => F1.block k (HSW.out.rn.lt k hk) (fun e => HST.out.ap k e hk))
      have hr1 := (QB.take_ hn1 rfl m hm1.2.1).2
      have hv1 : ∀ k, v1.ownBlock = some k → (Value.slice An n'.length cn).ownBlock ≠ some k := fun k hk => by
        rcases hl1 with e | ⟨q, e, hq⟩
        · exact HST.out.ap k (e ▸ hk)
        · rw [hk] at e
          injection e with e
          subst e
          intro e2
          have := HSW.out.rn.lt k e2
          omega
      refine seqX_run ?_
      refine do_appQ 0 rfl rfl (by rfl) (.tmp 14) (.tmp 17) rfl v1 (o' ++ [(m : Int) - 1]) (n'.take m) An m cn rfl rfl hq1 hr1 (Nat.zero_le _) (by rw [List.length_append, List.length_singleton]; omega) ?_
      intro v2 w2 hq2 hg2 hl2
      simp only [Act.put, List.setIfInBounds_toArray, List.set_cons_zero, List.set_cons_succ]
      refine ⟨fun h => absurd (by simp) h, ?_⟩
      have hn2 : QB w2 0 (.slice An n'.length cn) n' := hn1.move (fun k hk => hg2.block k (hn1.lt k hk) (fun e => hv1 k e.symm hk))
      have hv2 : ∀ k, v2.ownBlock = some k → (Value.slice An n'.length cn).ownBlock ≠ some k := fun k hk => by
        rcases hl2 with e | ⟨q, e, hq⟩
        · exact hv1 k (e ▸ hk)
        · rw [hk] at e
          injection e with e
          subst e
          intro e2
          have := hn1.lt k e2
          omega
      have b42 : w2.heap[p4]? = some (.cells #[.slice Ao o'.length co] 22 (0, 0)) := by
        have h1 := (F1.block p4 (blk_lt HSW.out.bo) (fun e => HN.out.1 e)).trans HSW.out.bo
        refine (hg2.block p4 (blk_lt h1) (fun e => ?_)).trans h1
        exact hq1.typed h1 (by decide) e.symm
      have b52 : w2.heap[p5]? = some (.cells #[.slice An n'.length cn] 22 (0, 0)) := by
        have h1 := (F1.block p5 (blk_lt HSW.out.bn) (fun e => HN.out.2.1 e)).trans HSW.out.bn
        refine (hg2.block p5 (blk_lt h1) (fun e => ?_)).trans h1
        exact hq1.typed h1 (by decide) e.symm
      obtain ⟨A2, c2, rfl, hc2, _⟩ := hq2.reads
      obtain ⟨w3, hst3, hS3⟩ := store_bs b42 A2 (o' ++ [(m : Int) - 1] ++ n'.take m).length c2
      refine seqX_run ?_
      refine do_store (w1 := w3) rfl rfl (by rfl) (store_run rfl rfl rfl hst3) ?_
      refine ⟨fun h => absurd (by simp) h, ?_⟩
      refine seqX_endN ?_
      have hno := hq2.typed b42 (by decide)
      have hno5 := hn2.typed b42 (by decide)
      have S3 : PkSt w3 p4 p5 (.slice A2 (o' ++ [(m : Int) - 1] ++ n'.take m).length c2) (.slice An n'.length cn) (o' ++ [(m : Int) - 1] ++ n'.take m) n' :=
        ⟨hS3.at_, (hS3.else_ _ HST.out.ne.symm).trans b52, hq2.move (fun k hk => hS3.else_ k (fun e => hno (e ▸ hk))), hn2.move (fun k hk => hS3.else_ k (fun e => hno5 (e ▸ hk))), hv2, HST.out.ne⟩
      obtain ⟨B, hdr, hrd, hbl⟩ := QB.drop S3.rn rfl m hm1.2.1
      obtain ⟨w4, hst4, hS4⟩ := store_bs S3.bn B (n'.length - m) (cn - m)
      have c53 : w3.cell? ⟨p5, 0, none⟩ = some (.slice An n'.length cn) := by rw [blk_cell S3.bn]; rfl
      have hno4 := S3.no4
      have S4 : PkSt w4 p4 p5 (.slice A2 (o' ++ [(m : Int) - 1] ++ n'.take m).length c2) (.slice B (n'.length - m) (cn - m)) (o' ++ [(m : Int) - 1] ++ n'.take m) (n'.drop m) :=
        ⟨(hS4.else_ _ HST.out.ne).trans S3.bo, hS4.at_, S3.ro.move (fun k hk => hS4.else_ k (fun e => hno4.2.1 (e ▸ hk))), hrd.move (fun k hk => hS4.else_ k (fun e => hno4.2.2.2 (by rw [← hbl, hk, e]))), fun k hk => by rw [hbl]; exact hv2 k hk, HST.out.ne⟩
      have hlit : litL n' = ((m : Int) - 1) :: (n'.take m ++ litL (n'.drop m)) := by rw [litL_cons hp, ← HM.out]
      have FW : Fr wr w4 (fun k => k = p4 ∨ k = p5 ∨ (Value.slice Ao o'.length co).ownBlock = some k) := by
        have f1 : Fr wr w1 (fun k => k = p4 ∨ k = p5 ∨ (Value.slice Ao o'.length co).ownBlock = some k) := (Fr.later KW.out).trans (F1.mono (fun k hk => .inr (.inr hk)) |> fun (f : Fr W w1 _) => f)
        have f2 : Fr wr w2 (fun k => k = p4 ∨ k = p5 ∨ (Value.slice Ao o'.length co).ownBlock = some k) := f1.grown hg2 (fun i hi => by
          rcases hl1 with e | ⟨q, e, hq⟩
          · exact .inl (.inr (.inr (e ▸ hi)))
          · rw [hi] at e
            injection e with e
            exact .inr (by have := Later.size KW.out; omega))
        exact (f2.set hS3 (.inl (.inl rfl))).set hS4 (.inl (.inr (.inl rfl)))
      have HI4 : Aside0 (PInv w p4 p5 vo vn out own (o' ++ [(m : Int) - 1] ++ n'.take m) (n'.drop m) (.slice A2 (o' ++ [(m : Int) - 1] ++ n'.take m).length c2) (.slice B (n'.length - m) (cn - m)) w4) := ⟨by
        refine ⟨S4, ?_, by rw [List.length_drop]; omega, ?_, ?_, by rw [hbl]; exact HI.out.ln⟩
        · rw [← HI.out.eq, hlit]
          simp
        · refine HI.out.fr.next FW (fun i hi => ?_)
          rcases hi with hi | hi | hi
          · exact .inl (.inl hi)
          · exact .inl (.inr (.inl hi))
          · rcases HI.out.lo with e | ⟨q, e, hq⟩
            · exact .inl (.inr (.inr (e ▸ hi)))
            · rw [hi] at e; injection e with e; exact .inr (by omega)
        · have hloc2 : (Value.slice A2 (o' ++ [(m : Int) - 1] ++ n'.take m).length c2).ownBlock = (Value.slice Ao o'.length co).ownBlock ∨ ∃ q, (Value.slice A2 (o' ++ [(m : Int) - 1] ++ n'.take m).length c2).ownBlock = some q ∧ w.heap.size ≤ q := by
            have s1 := HI.out.fr.size
            have s2 := Later.size KW.out
            have s3 := F1.size
            rcases hl2 with e | ⟨q, e, hq⟩
            · rcases hl1 with e' | ⟨q', e', hq'⟩
              · exact .inl (e.trans e')
              · exact .inr ⟨q', e.trans e', by omega⟩
            · exact .inr ⟨q, e, by omega⟩
          rcases hloc2 with e | h
          · rcases HI.out.lo with e' | ⟨q, e', hq⟩
            · exact .inl (e.trans e')
            · exact .inr ⟨q, e.trans e', hq⟩
          · exact .inr h⟩
      have HL3 : Aside0 (sLen w4 p5 = (n'.drop m).length) := ⟨S4.sLen⟩
      have HL0 : Aside0 (sLen wr p5 = n'.length) := ⟨HST.out.sLen⟩
      clear hq1 hg1 hl1 F1 hn1 hr1 hv1 hq2 hg2 hl2 hn2 hv2 b42 b52 hst3 hS3 hno hno5 S3 hrd hbl hS4 hno4 S4 hlit FW hc2
      go_wp2_with (first
        | ((with_reducible refine at_st 22 _ _ ?_); refine store_arm rfl _ _ _ rfl rfl rfl hst4 ?_))
      go_frame
      go_roundw
      case rel => exact ⟨_, _, _, _, HI4.out⟩
      case measure => rw [HL3.out, HL0.out, List.length_drop]; omega
    · obtain rfl : n' = [] := List.eq_nil_of_length_eq_zero (by omega)
      go_wp2
      (try simp only [Exit.inBlock, Exit.then])
      refine bodyPost_end (results_none rfl _ _ _) rfl ?_
      have he := HI.out.eq
      rw [litL_nil, List.append_nil] at he
      refine ⟨rfl, ⟨⟨_, _, by rw [← he]; exact HST.out, HI.out.lo, HI.out.ln⟩, HI.out.fr⟩⟩
end Go.Proofs.Ytcbcoaafdggniaa
