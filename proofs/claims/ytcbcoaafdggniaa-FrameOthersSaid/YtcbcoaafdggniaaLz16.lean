/- Contract: lighterageref05.Unpack. Conditions: its own. -/
import Derived.Test.YtcbcoaafdggniaaLzUn3
import Derived.Test.YtcbcoaafdggniaaLz7
namespace Go.Proofs.Ytcbcoaafdggniaa
open Go.RowKit Go.Shelf Go.Proofs.YtcbcoaafdggniaaW.PrintWords Go.Proofs.YtcbcoaafdggniaaW.PrintMore
set_option linter.unusedVariables false
set_option linter.unusedSimpArgs false
theorem zeroU : (Try.prog.info? 53).bind (fun i => i.zero.map (·.cells)) = some #[.slice none 0 0, .int .i64 0, .int .i64 0] := by kernel_rfl
def ucs (v : Value) (n : Nat) (e : Int) : List Value := [v, .int .i64 n, .int .i64 e]
theorem sizeU (v : Value) (n : Nat) (e : Int) : (Try.prog.info? 53).map (·.size) = some (ucs v n e).length := by
  show _ = some 3
  kernel_rfl
theorem ucs_one (A : Option Addr) (m c n : Nat) (e : Int) : ∀ v ∈ ucs (.slice A m c) n e, v.oneCell' = true := fun v hv => by
  simp [ucs] at hv
  rcases hv with rfl | rfl | rfl <;> rfl
theorem builtU2 (e : Int) : Try.prog.built 53 [(2, .int .i64 e)] = some (ucs (.slice none 0 0) 0 e).toArray := by kernel_rfl
theorem builtU (A : Option Addr) (m c n : Nat) : Try.prog.built 53 [(0, .slice A m c), (1, .int .i64 n)] = some (ucs (.slice A m c) n 0).toArray := by kernel_rfl
theorem rd_drop (p : List Int) (i j : Nat) : rd (p.drop i) (j : Int) = rd p ((i + j : Nat) : Int) := by rw [rd_getD, rd_getD, List.getElem?_drop]
theorem tokd_num (i y z d : Nat) (hd : d = 1 + y + 256 * z) (hi : i ≤ 549755813888) (hy : y < 256) (hz : z < 256) :
    wrap64 ((i : Int) + 1) = (i : Int) + 1 ∧ wrap64 ((i : Int) + 2) = (i : Int) + 2 ∧ ((i : Int) + 1).toNat = i + 1 ∧ ((i : Int) + 2).toNat = i + 2 ∧ wrap64 (y : Int) = (y : Int) ∧ wrap64 (z : Int) = (z : Int) ∧ wrap64 (1 + (y : Int)) = 1 + (y : Int) ∧ wrap64 (256 * (z : Int)) = 256 * (z : Int) ∧ wrap64 (1 + (y : Int) + 256 * (z : Int)) = (d : Int) := by
  refine ⟨?_, ?_, ?_, ?_, ?_, ?_, ?_, ?_, ?_⟩ <;> (first | omega | (unfold wrap64; omega))
structure RUI (w0 : World) (most : Int) (p : List Int) (i n : Nat) (out : List Int) (v : Value) (wr : World) : Prop where
  le : i ≤ p.length
  ni : n ≤ i
  lo : out.length + 131 * (p.length - i) ≤ 131 * p.length
  eq : unpR most (p.drop i) out = unp most p
  md : MadeI w0 v out wr
def RUPost (w : World) (r : UR) (e : Ending) (w' : World) : Prop := ∃ A c n, e = .returned (.agg (ucs (.slice A r.B.length c) n r.E).toArray) ∧ OwB w' w.heap.size (.slice A r.B.length c) r.B ∧ Bytes r.B ∧ Below w.heap.size w w'
/-- What stands behind the store of an error. -/
theorem RUPost.err {w w0 wr w2 : World} {C : Array Value} {E : Int} {r : UR} {o : Obj} (h0 : w0 = w.alloc (.cells C 53)) (hb : Below w0.heap.size w0 wr) (hs : SetBlk wr w2 w.heap.size o) (hr : r = ⟨[], E⟩) : RUPost w r (.returned (.agg (ucs (.slice none 0 0) 0 E).toArray)) w2 := by
  subst hr
  subst h0
  refine ⟨none, 0, 0, rfl, Kd.R_nil _ _ _ _ _, Bytes.nil, ?_⟩
  exact (Below.trans (below_alloc (Below.refl _ w) _) (hb.mono (by simp))).trans (hs.below (Nat.le_refl _))
theorem RUPost.ok {w w0 wr w2 : World} {C : Array Value} {r : UR} {o : Obj} {A : Option Addr} {X : List Int} {c n : Nat} (h0 : w0 = w.alloc (.cells C 53)) (hm : MadeI w0 (.slice A X.length c) X wr) (hs : SetBlk wr w2 w.heap.size o) (hr : r = ⟨X, 0⟩) : RUPost w r (.returned (.agg (ucs (.slice A X.length c) n 0).toArray)) w2 := by
  subst hr
  subst h0
  have hg : ∀ k, (Value.slice A X.length c).ownBlock = some k → k ≠ w.heap.size := fun k hk e => by
    have := Kd.R_base hm.own k hk
    have h1 : (w.alloc (.cells C 53)).heap.size = w.heap.size + 1 := by simp
    omega
  refine ⟨A, c, n, rfl, ?_, hm.by_, ?_⟩
  · exact Kd.R_lower (((Fr.refl wr (fun k => k = w.heap.size)).set hs (.inl rfl)).ownB hm.own hg) (by simp)
  · exact (Below.trans (below_alloc (Below.refl _ w) _) (hm.below.mono (by simp))).trans (hs.below (Nat.le_refl _))
set_option maxRecDepth 20000 in
set_option maxHeartbeats 3200000 in
theorem runpack_calls (A : Option Addr) (N c : Nat) (p : List Int) (most : Int) (w : World) (h : RdB w A N p) (hb : Bytes p) (hc : N ≤ c) (hN : N ≤ 549755813888) :
    Calls Try.prog 30 #[.slice A N c, .int .i64 most] w fun e w' => RUPost w (unp most p) e w' := by
  obtain rfl : p.length = N := h.1
  have HX := Aside0.mk h
  clear h
  obtain ⟨C, hC, hz⟩ : ∃ C, Aside0 (C = #[.slice none 0 0, .int .i64 0, .int .i64 0]) ∧ (Try.prog.info? 53).bind (fun i => i.zero.map (·.cells)) = some C := ⟨_, ⟨rfl⟩, zeroU⟩
  have HZ := Aside0.mk hz
  clear hz
  obtain ⟨w0, hw0⟩ : ∃ w0, w0 = w.alloc (.cells C 53) := ⟨_, rfl⟩
  have HW0 := Aside0.mk hw0
  have HC0 : Aside0 (∀ w', Below w0.heap.size w0 w' → w'.heap[w.heap.size]? = some (.cells C 53 (0, 0))) := ⟨fun w' h => by
    subst hw0
    exact Later.heap h (blk_new w _)⟩
  have HX0 := Aside0.mk (Kd.C_below HX.out (below_alloc (Below.refl _ w) (.cells C 53)))
  rw [← hw0] at HX0
  have hCs : Aside0 (C.size = 3) := ⟨by rw [hC.out]; rfl⟩
  go_enter Try.func30, Try.ntmps30
  go_wp2_with (first
    | ((with_reducible refine at_alr 53 ?_); refine alloc_arm rfl rfl 53 rfl HZ.out ?_))
  rw [← hw0]
  clear hw0
  go_loopw [5, 6, 7, 8, 9, 10] (fun v n i _ _ _ wr => ∃ (iN nN : Nat) (out : List Int), i = .int .i64 iN ∧ n = .int .i64 nN ∧ RUI w0 most p iN nN out v wr) (fun _ _ i _ _ _ _ => p.length - (intOf i).toNat)
  case atStart => exact ⟨0, 0, [], rfl, rfl, Nat.zero_le _, Nat.le_refl _, by simp, rfl, Kd.R_nil _ _ _ _ _, Bytes.nil, Below.refl _ _⟩
  case round =>
    obtain ⟨i, n, out, rfl, rfl, hI⟩ := hrel
    have HI := Aside0.mk hI
    have HM := Aside0.mk hI.md
    have hiN := hI.le
    have hni := hI.ni
    have hlo := hI.lo
    obtain ⟨B, d0, rfl, hd0, hr0⟩ := hI.md.own.reads
    clear hI hr0
    by_cases hlt : i < p.length
    · have hltI : (i : Int) < (p.length : Int) := by omega
      obtain ⟨ad, ea⟩ : ∃ ad, A = some ad := by obtain ⟨ad, e, _⟩ := Kd.at_int HX.out 0 (by omega) (by omega); exact ⟨ad, e⟩
      subst ea
      have HXR := Aside0.mk (Kd.C_below HX0.out HM.out.below)
      have hcell := rdB_at HXR.out i hlt
      have hxr := hb.at_ (i : Int)
      obtain ⟨x, hx⟩ := Int.eq_ofNat_of_zero_le hxr.1
      rw [hx] at hcell hxr
      have hql : (p.drop i).length = p.length - i := List.length_drop
      have hqn : p.drop i ≠ [] := fun e => by rw [e] at hql; simp at hql; omega
      have hr0 : rd (p.drop i) 0 = (x : Int) := by have := rd_drop p i 0; rw [Nat.add_zero, hx] at this; exact this
      by_cases h128 : x < 128
      · have h128I : (x : Int) < 128 := by omega
        by_cases h1 : i + x + 2 ≤ p.length
        · have h1I : ¬ (p.length : Int) < (i : Int) + (x : Int) + 2 := by omega
          have HT : Aside0 (tk (p.drop i) = some (x + 2, x + 1, 0)) := ⟨by unfold tk; rw [hr0, if_pos h128I, Int.toNat_natCast, if_pos (by omega)]⟩
          by_cases hrg : most < ((out.length + (x + 1) : Nat) : Int)
          · have hrI : most < (out.length : Int) + (x : Int) + 1 := by omega
            clear hx hr0 hql
            have hbt := builtU2 3
            have HCW := Aside0.mk (HC0.out wr HM.out.below)
            have HEQ : Aside0 (unp most p = ⟨[], 3⟩) := ⟨by
              rw [← HI.out.eq]
              exact unpR_range hqn HT.out (by omega) hrg⟩
            go_wp2_with (first
              | ((with_reducible refine at_bd 53 ?_); refine build_arm rfl 53 _ rfl hbt ?_; simp only [Act.put, List.setIfInBounds_toArray, List.set_cons_zero, List.set_cons_succ])
              | ((with_reducible refine at_st 53 (.tmp 4) (.tmp 39) ?_); refine store_blk rfl 53 (.tmp 4) (.tmp 39) rfl rfl rfl HCW.out hCs.out (sizeU _ 0 3) (ucs_one none 0 0 0 3) ?_; rintro w2 HS2))
            (try simp only [Exit.inBlock, Exit.then])
            refine bodyPost_ret (v := .agg (ucs (.slice none 0 0) 0 3).toArray) (results_cell_row rfl _ _ w.heap.size _ _ _ _ rfl HS2.at_ Try.underlying53 rfl (by rw [List.size_toArray]; exact sizeU _ 0 3)) rfl ?_
            exact RUPost.err HW0.out HM.out.below HS2 HEQ.out
          · have hrI : ¬ most < (out.length : Int) + (x : Int) + 1 := by omega
            have hmq : midL (p.drop i) 1 (x + 2) = midL p (i + 1) (i + x + 2) := by
              unfold midL
              rw [show (p.drop i).take (x + 2) = (p.take (i + x + 2)).drop i by rw [List.drop_take, show i + x + 2 - i = x + 2 by omega], List.drop_drop]
            have HE : Aside0 (unpR most (p.drop (i + x + 2)) (out ++ midL p (i + 1) (i + x + 2)) = unp most p) := ⟨by
              rw [← HI.out.eq, unpR_step hqn HT.out (by omega) hrg, List.drop_drop, ← hmq]
              unfold growU
              rw [if_pos rfl, show i + (x + 2) = i + x + 2 by omega]⟩
            obtain ⟨B3, c3, hmid, hr3⟩ : ∃ B3 c3, (∀ W : World, (Instr.slice 22 (.slice (some ad) p.length c) (some (.int .i64 ((i : Int) + 1))) (some (.int .i64 ((i : Int) + (x : Int) + 2))) none).run Try.prog W = .ok (.slice B3 (x + 1) c3) W) ∧ RdB w0 B3 (x + 1) (midL p (i + 1) (i + x + 2)) := by
              have := cutMid HX0.out hc ((i : Int) + 1) ((i : Int) + (x : Int) + 2) (by omega) (by omega) (by omega)
              rw [show ((i : Int) + 1).toNat = i + 1 by omega, show ((i : Int) + (x : Int) + 2).toNat = i + x + 2 by omega, show i + x + 2 - (i + 1) = x + 1 by omega] at this
              exact ⟨_, _, this⟩
            have HR3 := Aside0.mk hr3
            have hml : (midL p (i + 1) (i + x + 2)).length = x + 1 := by rw [midL_len (by omega)]; omega
            have HLO : Aside0 ((out ++ midL p (i + 1) (i + x + 2)).length + 131 * (p.length - (i + x + 2)) ≤ 131 * p.length) := ⟨by rw [List.length_append, hml]; omega⟩
            have hol : out.length ≤ 100000000000000 := by omega
            clear hx hr0 hql hmq hr3 hml
            go_wp2_with (first
              | (at_builtin; refine appBs (w0 := w0) w0.heap.size rfl (.tmp 40) (.tmp 48) rfl _ out (midL p (i + 1) (i + x + 2)) B3 (x + 1) c3 rfl rfl HM.out.own (Kd.C_below HR3.out HM.out.below) HM.out.below HM.out.below.size (by omega) ?_; intro v6 w6 hO6 hB6 _ _))
            go_roundw
            case rel => exact ⟨i + x + 2, n + 1, _, by go_num, by go_num, by omega, by omega, HLO.out, HE.out, hO6, HM.out.by_.append (hb.mid _ _), hB6⟩
            case measure => simp [intOf]; omega
        · have h1I : (p.length : Int) < (i : Int) + (x : Int) + 2 := by omega
          have HT : Aside0 (tk (p.drop i) = none) := ⟨by unfold tk; rw [hr0, if_pos h128I, Int.toNat_natCast, if_neg (by omega)]⟩
          clear hx hr0 hql
          have hbt := builtU2 2
          have HCW := Aside0.mk (HC0.out wr HM.out.below)
          have HEQ : Aside0 (unp most p = ⟨[], 2⟩) := ⟨by
            rw [← HI.out.eq]
            exact unpR_none hqn HT.out⟩
          go_wp2_with (first
            | ((with_reducible refine at_bd 53 ?_); refine build_arm rfl 53 _ rfl hbt ?_; simp only [Act.put, List.setIfInBounds_toArray, List.set_cons_zero, List.set_cons_succ])
            | ((with_reducible refine at_st 53 (.tmp 4) (.tmp 31) ?_); refine store_blk rfl 53 (.tmp 4) (.tmp 31) rfl rfl rfl HCW.out hCs.out (sizeU _ 0 2) (ucs_one none 0 0 0 2) ?_; rintro w2 HS2))
          (try simp only [Exit.inBlock, Exit.then])
          refine bodyPost_ret (v := .agg (ucs (.slice none 0 0) 0 2).toArray) (results_cell_row rfl _ _ w.heap.size _ _ _ _ rfl HS2.at_ Try.underlying53 rfl (by rw [List.size_toArray]; exact sizeU _ 0 2)) rfl ?_
          exact RUPost.err HW0.out HM.out.below HS2 HEQ.out
      · have h128I : ¬ (x : Int) < 128 := by omega
        by_cases h1 : i + 3 ≤ p.length
        · have h1I : ¬ (p.length : Int) < (i : Int) + 3 := by omega
          have hyr := hb.at_ ((i + 1 : Nat) : Int)
          have hzr := hb.at_ ((i + 2 : Nat) : Int)
          obtain ⟨y, hy⟩ := Int.eq_ofNat_of_zero_le hyr.1
          obtain ⟨z, hz⟩ := Int.eq_ofNat_of_zero_le hzr.1
          have hc1 := rdB_at HXR.out (i + 1) (by omega)
          have hc2 := rdB_at HXR.out (i + 2) (by omega)
          rw [hy] at hc1 hyr
          rw [hz] at hc2 hzr
          obtain ⟨m, hm⟩ : ∃ m, m = x - 124 := ⟨_, rfl⟩
          obtain ⟨d, hd⟩ : ∃ d, d = 1 + y + 256 * z := ⟨_, rfl⟩
          have HT : Aside0 (tk (p.drop i) = some (3, m, d)) := ⟨by
            have h1 := rd_drop p i 1
            have h2 := rd_drop p i 2
            rw [hy] at h1
            rw [hz] at h2
            have h1' : rd (p.drop i) 1 = (y : Int) := h1
            have h2' : rd (p.drop i) 2 = (z : Int) := h2
            unfold tk
            rw [hr0, if_neg h128I, h1', h2', Int.toNat_natCast, Int.toNat_natCast, Int.toNat_natCast, if_neg (by omega), hm, hd]⟩
          have HC1 : Aside0 (wr.drew.cell? ⟨ad.block, ad.off + (i + 1), none⟩ = some (.int .u8 y)) := ⟨hc1⟩
          have HC2 : Aside0 (wr.drew.cell? ⟨ad.block, ad.off + (i + 1 + 1), none⟩ = some (.int .u8 z)) := ⟨hc2⟩
          have HNM := Aside0.mk (tokd_num i y z d hd (by omega) (by omega) (by omega))
          have hxm : (x : Int) - 124 = (m : Int) := by omega
          have hd1 : 1 ≤ d ∧ d ≤ 70000 := by omega
          have hm1 : 4 ≤ m ∧ m ≤ 131 := by omega
          have hI1 : (i : Int) + 1 < (p.length : Int) := by omega
          have hI2 : (i : Int) + 2 < (p.length : Int) := by omega
          have hP1 : (0 : Int) ≤ (i : Int) + 1 := by omega
          have hP2 : (0 : Int) ≤ (i : Int) + 2 := by omega
          clear hx hr0 hql hy hz hc1 hc2 hyr hzr hd
          go_wp2_with fail
          clear hcell
          have hn1 := HNM.out.1
          have hn2 := HNM.out.2.1
          have hn3 := HNM.out.2.2.1
          have hn4 := HNM.out.2.2.2.1
          have hn5 := HNM.out.2.2.2.2.1
          have hn6 := HNM.out.2.2.2.2.2.1
          have hn7 := HNM.out.2.2.2.2.2.2.1
          have hn8 := HNM.out.2.2.2.2.2.2.2.1
          have hn9 := HNM.out.2.2.2.2.2.2.2.2
          refine seq_start [] (.take 0 (.take 1 (.take 2 (.take 3 (.take 4 (.take 5 (.take 6 (.take 7 (.take 8 (.take 9 (.take 10 (.take 11 (.take 12 (.take 13 (.take 14 (.take 15 .done)))))))))))))))) (by kernel_rfl) (by kernel_rfl) (fun _ _ d _ _ h => by cases d <;> exact h) ?_
          refine seq_take (v := ?_) (a' := ?_) rfl rfl (by rfl) (fun w' hw' => ?_) ?_ ?_
          rotate_left 2
          · go_simp
            with_reducible rfl
          · simp only [Act.put, List.setIfInBounds_toArray, List.set_cons_zero, List.set_cons_succ, Go.Proofs.YtcbcoaafdggniaaW.PrintLast.i64_w, Go.Proofs.YtcbcoaafdggniaaW.PrintLast.i32_w]
            rfl
          refine seq_take (v := ?_) (a' := ?_) rfl rfl (by rfl) (fun w' hw' => ?_) ?_ ?_
          rotate_left 2
          · go_simp
            with_reducible rfl
          · simp only [Act.put, List.setIfInBounds_toArray, List.set_cons_zero, List.set_cons_succ, Go.Proofs.YtcbcoaafdggniaaW.PrintLast.i64_w, Go.Proofs.YtcbcoaafdggniaaW.PrintLast.i32_w]
            rfl
          refine seq_take (v := ?_) (a' := ?_) rfl rfl (by rfl) (fun w' hw' => ?_) ?_ ?_
          rotate_left 2
          · go_simp
            with_reducible rfl
          · simp only [Act.put, List.setIfInBounds_toArray, List.set_cons_zero, List.set_cons_succ, Go.Proofs.YtcbcoaafdggniaaW.PrintLast.i64_w, Go.Proofs.YtcbcoaafdggniaaW.PrintLast.i32_w]
            rfl
          refine seq_take (v := ?_) (a' := ?_) rfl rfl (by rfl) (fun w' hw' => ?_) ?_ ?_
          rotate_left 2
          · go_simp
            with_reducible rfl
          · simp only [Act.put, List.setIfInBounds_toArray, List.set_cons_zero, List.set_cons_succ, Go.Proofs.YtcbcoaafdggniaaW.PrintLast.i64_w, Go.Proofs.YtcbcoaafdggniaaW.PrintLast.i32_w]
            rfl
          refine seq_take (v := ?_) (a' := ?_) rfl rfl (by rfl) (fun w' hw' => ?_) ?_ ?_
          rotate_left 2
          · have hq := pw_cell_below hw' HC1.out; go_simp
            with_reducible rfl
          · simp only [Act.put, List.setIfInBounds_toArray, List.set_cons_zero, List.set_cons_succ, Go.Proofs.YtcbcoaafdggniaaW.PrintLast.i64_w, Go.Proofs.YtcbcoaafdggniaaW.PrintLast.i32_w]
            rfl
          refine seq_take (v := ?_) (a' := ?_) rfl rfl (by rfl) (fun w' hw' => ?_) ?_ ?_
          rotate_left 2
          · go_simp
            with_reducible rfl
          · simp only [Act.put, List.setIfInBounds_toArray, List.set_cons_zero, List.set_cons_succ, Go.Proofs.YtcbcoaafdggniaaW.PrintLast.i64_w, Go.Proofs.YtcbcoaafdggniaaW.PrintLast.i32_w]
            rfl
          refine seq_take (v := ?_) (a' := ?_) rfl rfl (by rfl) (fun w' hw' => ?_) ?_ ?_
          rotate_left 2
          · go_simp
            with_reducible rfl
          · simp only [Act.put, List.setIfInBounds_toArray, List.set_cons_zero, List.set_cons_succ, Go.Proofs.YtcbcoaafdggniaaW.PrintLast.i64_w, Go.Proofs.YtcbcoaafdggniaaW.PrintLast.i32_w]
            rfl
          refine seq_take (v := ?_) (a' := ?_) rfl rfl (by rfl) (fun w' hw' => ?_) ?_ ?_
          rotate_left 2
          · go_simp
            with_reducible rfl
          · simp only [Act.put, List.setIfInBounds_toArray, List.set_cons_zero, List.set_cons_succ, Go.Proofs.YtcbcoaafdggniaaW.PrintLast.i64_w, Go.Proofs.YtcbcoaafdggniaaW.PrintLast.i32_w]
            rfl
          refine seq_take (v := ?_) (a' := ?_) rfl rfl (by rfl) (fun w' hw' => ?_) ?_ ?_
          rotate_left 2
          · go_simp
            with_reducible rfl
          · simp only [Act.put, List.setIfInBounds_toArray, List.set_cons_zero, List.set_cons_succ, Go.Proofs.YtcbcoaafdggniaaW.PrintLast.i64_w, Go.Proofs.YtcbcoaafdggniaaW.PrintLast.i32_w]
            rfl
          refine seq_take (v := ?_) (a' := ?_) rfl rfl (by rfl) (fun w' hw' => ?_) ?_ ?_
          rotate_left 2
          · go_simp
            with_reducible rfl
          · simp only [Act.put, List.setIfInBounds_toArray, List.set_cons_zero, List.set_cons_succ, Go.Proofs.YtcbcoaafdggniaaW.PrintLast.i64_w, Go.Proofs.YtcbcoaafdggniaaW.PrintLast.i32_w]
            rfl
          refine seq_take (v := ?_) (a' := ?_) rfl rfl (by rfl) (fun w' hw' => ?_) ?_ ?_
          rotate_left 2
          · go_simp
            with_reducible rfl
          · simp only [Act.put, List.setIfInBounds_toArray, List.set_cons_zero, List.set_cons_succ, Go.Proofs.YtcbcoaafdggniaaW.PrintLast.i64_w, Go.Proofs.YtcbcoaafdggniaaW.PrintLast.i32_w]
            rfl
          refine seq_take (v := ?_) (a' := ?_) rfl rfl (by rfl) (fun w' hw' => ?_) ?_ ?_
          rotate_left 2
          · have hq := pw_cell_below hw' HC2.out; go_simp
            with_reducible rfl
          · simp only [Act.put, List.setIfInBounds_toArray, List.set_cons_zero, List.set_cons_succ, Go.Proofs.YtcbcoaafdggniaaW.PrintLast.i64_w, Go.Proofs.YtcbcoaafdggniaaW.PrintLast.i32_w]
            rfl
          refine seq_take (v := ?_) (a' := ?_) rfl rfl (by rfl) (fun w' hw' => ?_) ?_ ?_
          rotate_left 2
          · go_simp
            with_reducible rfl
          · simp only [Act.put, List.setIfInBounds_toArray, List.set_cons_zero, List.set_cons_succ, Go.Proofs.YtcbcoaafdggniaaW.PrintLast.i64_w, Go.Proofs.YtcbcoaafdggniaaW.PrintLast.i32_w]
            rfl
          refine seq_take (v := ?_) (a' := ?_) rfl rfl (by rfl) (fun w' hw' => ?_) ?_ ?_
          rotate_left 2
          · go_simp
            with_reducible rfl
          · simp only [Act.put, List.setIfInBounds_toArray, List.set_cons_zero, List.set_cons_succ, Go.Proofs.YtcbcoaafdggniaaW.PrintLast.i64_w, Go.Proofs.YtcbcoaafdggniaaW.PrintLast.i32_w]
            rfl
          refine seq_take (v := ?_) (a' := ?_) rfl rfl (by rfl) (fun w' hw' => ?_) ?_ ?_
          rotate_left 2
          · go_simp
            with_reducible rfl
          · simp only [Act.put, List.setIfInBounds_toArray, List.set_cons_zero, List.set_cons_succ, Go.Proofs.YtcbcoaafdggniaaW.PrintLast.i64_w, Go.Proofs.YtcbcoaafdggniaaW.PrintLast.i32_w]
            rfl
          refine seq_take (v := ?_) (a' := ?_) rfl rfl (by rfl) (fun w' hw' => ?_) ?_ ?_
          rotate_left 2
          · go_simp
            with_reducible rfl
          · simp only [Act.put, List.setIfInBounds_toArray, List.set_cons_zero, List.set_cons_succ, Go.Proofs.YtcbcoaafdggniaaW.PrintLast.i64_w, Go.Proofs.YtcbcoaafdggniaaW.PrintLast.i32_w]
            rfl
          refine seq_end ?_
          clear hn1 hn2 hn3 hn4 hn5 hn6 hn7 hn8 hn9 HC1 HC2 hI1 hI2 hP1 hP2
          obtain ⟨wz, hwz⟩ : ∃ wz, wz = wr.drew := ⟨_, rfl⟩
          have HMZ : Aside0 (MadeI w0 (.slice B out.length d0) out wz) := ⟨by
            subst hwz
            exact ⟨HM.out.own.below (Below.drew (Below.refl _ _)), HM.out.by_, HM.out.below.drew⟩⟩
          rw [← hwz]
          clear hwz
          have hol : out.length ≤ 100000000000000 := by omega
          by_cases hfar : out.length < d
          · have hfI : (out.length : Int) < (d : Int) := by omega
            have hbt := builtU2 2
            have HCW := Aside0.mk (HC0.out wz HMZ.out.below)
            have HEQ : Aside0 (unp most p = ⟨[], 2⟩) := ⟨by
              rw [← HI.out.eq]
              exact unpR_far hqn HT.out hfar⟩
            go_wp2_with (first
              | ((with_reducible refine at_bd 53 ?_); refine build_arm rfl 53 _ rfl hbt ?_; simp only [Act.put, List.setIfInBounds_toArray, List.set_cons_zero, List.set_cons_succ])
              | ((with_reducible refine at_st 53 (.tmp 4) (.tmp 79) ?_); refine store_blk rfl 53 (.tmp 4) (.tmp 79) rfl rfl rfl HCW.out hCs.out (sizeU _ 0 2) (ucs_one none 0 0 0 2) ?_; rintro w2 HS2))
            (try simp only [Exit.inBlock, Exit.then])
            refine bodyPost_ret (v := .agg (ucs (.slice none 0 0) 0 2).toArray) (results_cell_row rfl _ _ w.heap.size _ _ _ _ rfl HS2.at_ Try.underlying53 rfl (by rw [List.size_toArray]; exact sizeU _ 0 2)) rfl ?_
            exact RUPost.err HW0.out HMZ.out.below HS2 HEQ.out
          · have hfI : ¬ (out.length : Int) < (d : Int) := by omega
            by_cases hrg : most < ((out.length + m : Nat) : Int)
            · have hrI : most < (out.length : Int) + (x : Int) - 124 := by omega
              have hbt := builtU2 3
              have HCW := Aside0.mk (HC0.out wz HMZ.out.below)
              have HEQ : Aside0 (unp most p = ⟨[], 3⟩) := ⟨by
                rw [← HI.out.eq]
                exact unpR_range hqn HT.out hfar hrg⟩
              go_wp2_with (first
                | ((with_reducible refine at_bd 53 ?_); refine build_arm rfl 53 _ rfl hbt ?_; simp only [Act.put, List.setIfInBounds_toArray, List.set_cons_zero, List.set_cons_succ])
                | ((with_reducible refine at_st 53 (.tmp 4) (.tmp 87) ?_); refine store_blk rfl 53 (.tmp 4) (.tmp 87) rfl rfl rfl HCW.out hCs.out (sizeU _ 0 3) (ucs_one none 0 0 0 3) ?_; rintro w2 HS2))
              (try simp only [Exit.inBlock, Exit.then])
              refine bodyPost_ret (v := .agg (ucs (.slice none 0 0) 0 3).toArray) (results_cell_row rfl _ _ w.heap.size _ _ _ _ rfl HS2.at_ Try.underlying53 rfl (by rw [List.size_toArray]; exact sizeU _ 0 3)) rfl ?_
              exact RUPost.err HW0.out HMZ.out.below HS2 HEQ.out
            · have hrI : ¬ most < (out.length : Int) + (x : Int) - 124 := by omega
              have hgr : growU (p.drop i) out (3, m, d) = rep d m out := by unfold growU; rw [if_neg (by show ¬ d = 0; omega)]
              have HE : Aside0 (unpR most (p.drop (i + 3)) (rep d m out) = unp most p) := ⟨by
                rw [← HI.out.eq, unpR_step hqn HT.out hfar hrg, List.drop_drop, hgr]⟩
              have HLO : Aside0 ((rep d m out).length + 131 * (p.length - (i + 3)) ≤ 131 * p.length) := ⟨by rw [rep_len]; omega⟩
              clear hgr
              go_wp2
              go_loopw [5, 10] (fun v k wq => ∃ (t : Nat) (ys : List Int), t ≤ m ∧ k = .int .i64 t ∧ ys.length = out.length + t ∧ rep d (m - t) ys = rep d m out ∧ MadeI w0 v ys wq) (fun _ k _ => m - (intOf k).toNat)
              case atStart => exact ⟨0, out, by omega, rfl, rfl, rfl, HMZ.out⟩
              case round =>
                obtain ⟨t, ys, ht, rfl, hys, hrp, hMy⟩ := hrel
                obtain ⟨B4, d4, rfl, hd4, hr4⟩ := hMy.own.reads
                have HMy := Aside0.mk hMy
                have HR4 := Aside0.mk hr4
                have HRP := Aside0.mk hrp
                have HYS := Aside0.mk hys
                have hyl : ys.length ≤ 200000000000000 := by omega
                clear hMy hr4 hrp
                by_cases htm : t < m
                · have htI : (t : Int) < (m : Int) := by omega
                  obtain ⟨u, hu⟩ : ∃ u : Nat, u + d = ys.length := ⟨ys.length - d, by omega⟩
                  have huI : (ys.length : Int) - (d : Int) = (u : Int) := by omega
                  have hul : u < ys.length := by omega
                  have hyl2 : ys.length ≤ 140737488355327 := by omega
                  obtain ⟨ay, ey⟩ : ∃ ad, B4 = some ad := by obtain ⟨ad, e, _⟩ := Kd.at_int HR4.out 0 (by omega) (by omega); exact ⟨ad, e⟩
                  subst ey
                  have hcy := rdB_at HR4.out u hul
                  have HRS : Aside0 (rep d (m - (t + 1)) (ys ++ [rd ys (u : Int)]) = rep d m out) := ⟨by
                    rw [← HRP.out, show m - t = (m - (t + 1)) + 1 by omega, rep, show ys.length - d = u by omega]⟩
                  have hxy := HMy.out.by_.at_ (u : Int)
                  clear hys
                  generalize rd ys (u : Int) = y' at *
                  go_wp2_with (at_builtin; refine appB (w0 := w0) w0.heap.size rfl (.tmp 94) (.tmp 102) rfl _ _ _ rfl rfl HMy.out.own HMy.out.below HMy.out.below.size (by omega) ?_; intro v5 w5 hO5 hB5 _ _)
                  go_roundw
                  case rel => exact ⟨t + 1, _, by omega, by go_num, by rw [List.length_append, List.length_singleton, HYS.out]; omega, HRS.out, ⟨hO5, HMy.out.by_.append (Bytes.one hxy.1 hxy.2), hB5⟩⟩
                  case measure => simp [intOf]; omega
                · have htI : ¬ (t : Int) < (m : Int) := by omega
                  obtain rfl : t = m := by omega
                  have hrp := HRP.out
                  rw [Nat.sub_self, rep] at hrp
                  clear hys
                  go_wp2
                  go_roundw
                  case rel => exact ⟨i + 3, n + 1, ys, by go_num, by go_num, by omega, by omega, by rw [hrp]; exact HLO.out, by rw [hrp]; exact HE.out, HMy.out⟩
                  case measure => simp [intOf]; omega
        · have h1I : (p.length : Int) < (i : Int) + 3 := by omega
          have HT : Aside0 (tk (p.drop i) = none) := ⟨by unfold tk; rw [hr0, if_neg h128I, if_pos (by omega)]⟩
          clear hx hr0 hql
          have hbt := builtU2 2
          have HCW := Aside0.mk (HC0.out wr HM.out.below)
          have HEQ : Aside0 (unp most p = ⟨[], 2⟩) := ⟨by
            rw [← HI.out.eq]
            exact unpR_none hqn HT.out⟩
          go_wp2_with (first
            | ((with_reducible refine at_bd 53 ?_); refine build_arm rfl 53 _ rfl hbt ?_; simp only [Act.put, List.setIfInBounds_toArray, List.set_cons_zero, List.set_cons_succ])
            | ((with_reducible refine at_st 53 (.tmp 4) (.tmp 59) ?_); refine store_blk rfl 53 (.tmp 4) (.tmp 59) rfl rfl rfl HCW.out hCs.out (sizeU _ 0 2) (ucs_one none 0 0 0 2) ?_; rintro w2 HS2))
          (try simp only [Exit.inBlock, Exit.then])
          refine bodyPost_ret (v := .agg (ucs (.slice none 0 0) 0 2).toArray) (results_cell_row rfl _ _ w.heap.size _ _ _ _ rfl HS2.at_ Try.underlying53 rfl (by rw [List.size_toArray]; exact sizeU _ 0 2)) rfl ?_
          exact RUPost.err HW0.out HM.out.below HS2 HEQ.out
    · have hltI : ¬ (i : Int) < (p.length : Int) := by omega
      obtain rfl : i = p.length := by omega
      have hbt := builtU B out.length d0 n
      have HCW := Aside0.mk (HC0.out wr HM.out.below)
      have HEQ : Aside0 (unp most p = ⟨out, 0⟩) := ⟨by
        have := HI.out.eq
        rw [List.drop_length, unpR_nil] at this
        exact this.symm⟩
      go_wp2_with (first
        | ((with_reducible refine at_bd 53 ?_); refine build_arm rfl 53 _ rfl hbt ?_; simp only [Act.put, List.setIfInBounds_toArray, List.set_cons_zero, List.set_cons_succ])
        | ((with_reducible refine at_st 53 (.tmp 4) (.tmp 108) ?_); refine store_blk rfl 53 (.tmp 4) (.tmp 108) rfl rfl rfl HCW.out hCs.out (sizeU _ n 0) (ucs_one B out.length d0 n 0) ?_; rintro w2 HS2))
      (try simp only [Exit.inBlock, Exit.then])
      refine bodyPost_ret (v := .agg (ucs (.slice B out.length d0) n 0).toArray) (results_cell_row rfl _ _ w.heap.size _ _ _ _ rfl HS2.at_ Try.underlying53 rfl (by rw [List.size_toArray]; exact sizeU _ n 0)) rfl ?_
      exact RUPost.ok HW0.out HM.out HS2 HEQ.out
end Go.Proofs.Ytcbcoaafdggniaa
