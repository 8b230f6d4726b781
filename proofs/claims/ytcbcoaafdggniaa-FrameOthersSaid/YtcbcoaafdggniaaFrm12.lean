/- Contract: lighterageref06.Open. Conditions: its own. -/
import Derived.Test.YtcbcoaafdggniaaFrm10
import Derived.Test.YtcbcoaafdggniaaFrm11
import Derived.Test.YtcbcoaafdggniaaLz16
namespace Go.Proofs.Ytcbcoaafdggniaa
open Go.RowKit Go.Shelf Go.Proofs.YtcbcoaafdggniaaW.PrintWords Go.Proofs.YtcbcoaafdggniaaW.PrintMore
set_option linter.unusedVariables false
set_option linter.unusedSimpArgs false
def ROPost (w : World) (r : UR) (e : Ending) (w' : World) : Prop := ∃ B d, e = .returned (.tuple #[.slice B r.B.length d, .int .i64 r.E]) ∧ r.B.length ≤ d ∧ RdB w' B r.B.length r.B ∧ Bytes r.B ∧ Below w.heap.size w w'
theorem ROPost.err {w w' : World} (E : Int) (hB : Below w.heap.size w w') : ROPost w ⟨[], E⟩ (.returned (.tuple #[.slice none 0 0, .int .i64 E])) w' := ⟨none, 0, rfl, Nat.le_refl _, Kd.C_nil _ _, Bytes.nil, hB⟩
theorem lenL_lt {f : List Int} {n : Nat} (hb : Bytes f) (h : lenL f = some n) : n < 4294967296 := by
  unfold lenL at h
  split at h
  · cases h
  · have b2 := hb.at_ 2
    have b3 := hb.at_ 3
    have b4 := hb.at_ 4
    have b5 := hb.at_ 5
    simp only [Option.some.injEq] at h
    omega
theorem str_eq1 {xs ys : List Int} (hx : Bytes xs) (hy : Bytes ys) (h : xs = ys) : ((strOfNums xs).toList == (strOfNums ys).toList) = true := by rw [str_beq hx hy]; simp [h]
theorem str_eq0 {xs ys : List Int} (hx : Bytes xs) (hy : Bytes ys) (h : xs ≠ ys) : ((strOfNums xs).toList == (strOfNums ys).toList) = false := by rw [str_beq hx hy]; simp [h]
set_option maxRecDepth 20000 in
set_option maxHeartbeats 1600000 in
theorem ropen_form (A : Option Addr) (N c : Nat) (f : List Int) (most : Int) (w : World) (h : RdB w A N f) (hb : Bytes f) (hc : N ≤ c) (hN : N ≤ 549755813888) (hl : lenL f = none) :
    Calls Try.prog 17 #[.slice A N c, .int .i64 most] w fun e w' => ROPost w ⟨[], 2⟩ e w' := by
  obtain rfl : f.length = N := h.1
  have HX := Aside0.mk h
  clear h
  have HV := Aside0.mk (lenI_none hl)
  go_enter Try.func17, Try.ntmps17
  go_wp2_with (go_at_call 18; (with_reducible refine at_cw w ?_); refine (rlength_calls A f.length c f w HX.out hb (Nat.le_trans hN (by decide))).mono ?_; rw [HV.out]; rintro e w1 ⟨rfl, hB⟩; have L1 : Aside0 (Later w w1) := ⟨hB⟩; clear hB)
  (try simp only [Exit.inBlock, Exit.then])
  refine bodyPost_ret (results_tmp2 rfl _ _ _) rfl ?_
  exact ROPost.err 2 L1.out
set_option maxRecDepth 20000 in
set_option maxHeartbeats 1600000 in
theorem ropen_range (A : Option Addr) (N c n : Nat) (f : List Int) (most : Int) (w : World) (h : RdB w A N f) (hb : Bytes f) (hc : N ≤ c) (hN : N ≤ 549755813888) (hl : lenL f = some n) (hn : ¬ (n : Int) ≤ most) :
    Calls Try.prog 17 #[.slice A N c, .int .i64 most] w fun e w' => ROPost w ⟨[], 3⟩ e w' := by
  obtain rfl : f.length = N := h.1
  have HX := Aside0.mk h
  clear h
  have HV : Aside0 (lenI f = (n : Int)) := ⟨by unfold lenI; rw [hl]⟩
  have hn2 : most < (n : Int) := by omega
  go_enter Try.func17, Try.ntmps17
  go_wp2_with (go_at_call 18; (with_reducible refine at_cw w ?_); refine (rlength_calls A f.length c f w HX.out hb (Nat.le_trans hN (by decide))).mono ?_; rw [HV.out]; rintro e w1 ⟨rfl, hB⟩; have L1 : Aside0 (Later w w1) := ⟨hB⟩; clear hB)
  (try simp only [Exit.inBlock, Exit.then])
  refine bodyPost_ret (results_tmp2 rfl _ _ _) rfl ?_
  exact ROPost.err 3 L1.out
set_option maxRecDepth 20000 in
set_option maxHeartbeats 1600000 in
theorem ropen_t0 (A : Option Addr) (N c n : Nat) (f b : List Int) (most : Int) (w : World) (h : RdB w A N f) (hb : Bytes f) (hc : N ≤ c) (hN : N ≤ 549755813888) (hl : lenL f = some n) (hn : (n : Int) ≤ most) (he : midL f 6 (f.length - 4) = b) (hp : ¬ rd f 1 = 1) (ht : b.length ≠ n) :
    Calls Try.prog 17 #[.slice A N c, .int .i64 most] w fun e w' => ROPost w ⟨[], 2⟩ e w' := by
  obtain rfl : f.length = N := h.1
  have HX := Aside0.mk h
  clear h
  have HV : Aside0 (lenI f = (n : Int)) := ⟨by unfold lenI; rw [hl]⟩
  have h10 := (lenL_some hl).1
  have hnl := lenL_lt hb hl
  have hn2 : ¬ most < (n : Int) := by omega
  have hn3 : ¬ (n : Int) < 0 := by omega
  have hbb : Bytes b := by rw [← he]; exact Bytes.mid hb _ _
  have hbl : b.length = f.length - 4 - 6 := by rw [← he]; exact midL_len (by omega)
  obtain ⟨B, hcut, hr⟩ : ∃ B, (∀ W : World, (Instr.slice 22 (.slice A f.length c) (some (.int .i64 6)) (some (.int .i64 ((f.length : Int) - 4))) none).run Try.prog W = .ok (.slice B b.length (c - 6)) W) ∧ RdB w B b.length b := by
    have hwm := cutMid HX.out hc 6 ((f.length : Int) - 4) (by omega) (by omega) (by omega)
    rw [show ((f.length : Int) - 4).toNat = f.length - 4 by omega, show (6 : Int).toNat = 6 from rfl, he, ← hbl] at hwm
    exact ⟨_, hwm⟩
  obtain ⟨C, hcutF, hrF⟩ : ∃ C, (∀ W : World, (Instr.slice 22 (.slice A f.length c) (some (.int .i64 ((f.length : Int) - 4))) none none).run Try.prog W = .ok (.slice C 4 (c - (f.length - 4))) W) ∧ RdB w C 4 (f.drop (f.length - 4)) := by
    have hwm := cutFrom HX.out hc ((f.length : Int) - 4) (by omega) (by omega)
    rw [show ((f.length : Int) - 4).toNat = f.length - 4 by omega, show f.length - (f.length - 4) = 4 by omega] at hwm
    exact ⟨_, hwm⟩
  have HF := Aside0.mk hrF
  have HWF : Aside0 (wrap64 ((f.length : Int) - 4) = (f.length : Int) - 4) := ⟨by unfold wrap64; omega⟩
  have HR := Aside0.mk hr
  have hbl2 : b.length ≤ f.length := by omega
  have hbl3 : b.length ≤ c - 6 := by omega
  obtain ⟨ad, ea⟩ : ∃ ad, A = some ad := by obtain ⟨ad, e, _⟩ := Kd.at_int HX.out 0 (by omega) (by omega); exact ⟨ad, e⟩
  subst ea
  have hp1 : (1 : Int) < (f.length : Int) := by omega
  have HC : Aside0 (w.cell? ⟨ad.block, ad.off + 1, none⟩ = some (.int .u8 (rd f 1))) := ⟨rdB_at HX.out 1 (by omega)⟩
  clear hr he hbl hrF
  have ht2 : ¬ (b.length : Int) = (n : Int) := by omega
  clear ht
  go_enter Try.func17, Try.ntmps17
  go_wp2_with (first
    | (go_at_call 18; (with_reducible refine at_cw w ?_); refine (rlength_calls (some ad) f.length c f w HX.out hb (Nat.le_trans hN (by decide))).mono ?_; rw [HV.out]; rintro e w1 ⟨rfl, hB⟩; have L1 : Aside0 (Later w w1) := ⟨hB⟩; clear hB; have hc1 := pw_cell_below L1.out HC.out))
  (try simp only [Exit.inBlock, Exit.then])
  refine bodyPost_ret (results_tmp2 rfl _ _ _) rfl ?_
  exact ROPost.err 2 L1.out
set_option maxRecDepth 20000 in
set_option maxHeartbeats 1600000 in
theorem ropen_t1 (A : Option Addr) (N c n : Nat) (f b : List Int) (most : Int) (w : World) (h : RdB w A N f) (hb : Bytes f) (hc : N ≤ c) (hN : N ≤ 549755813888) (hl : lenL f = some n) (hn : (n : Int) ≤ most) (he : midL f 6 (f.length - 4) = b) (hp : ¬ rd f 1 = 1) (ht : n = b.length) (hs : le32 (crc 0 b) ≠ f.drop (f.length - 4)) :
    Calls Try.prog 17 #[.slice A N c, .int .i64 most] w fun e w' => ROPost w ⟨[], 7⟩ e w' := by
  obtain rfl : f.length = N := h.1
  have HX := Aside0.mk h
  clear h
  have HV : Aside0 (lenI f = (n : Int)) := ⟨by unfold lenI; rw [hl]⟩
  have h10 := (lenL_some hl).1
  have hnl := lenL_lt hb hl
  have hn2 : ¬ most < (n : Int) := by omega
  have hn3 : ¬ (n : Int) < 0 := by omega
  have hbb : Bytes b := by rw [← he]; exact Bytes.mid hb _ _
  have hbl : b.length = f.length - 4 - 6 := by rw [← he]; exact midL_len (by omega)
  obtain ⟨B, hcut, hr⟩ : ∃ B, (∀ W : World, (Instr.slice 22 (.slice A f.length c) (some (.int .i64 6)) (some (.int .i64 ((f.length : Int) - 4))) none).run Try.prog W = .ok (.slice B b.length (c - 6)) W) ∧ RdB w B b.length b := by
    have hwm := cutMid HX.out hc 6 ((f.length : Int) - 4) (by omega) (by omega) (by omega)
    rw [show ((f.length : Int) - 4).toNat = f.length - 4 by omega, show (6 : Int).toNat = 6 from rfl, he, ← hbl] at hwm
    exact ⟨_, hwm⟩
  obtain ⟨C, hcutF, hrF⟩ : ∃ C, (∀ W : World, (Instr.slice 22 (.slice A f.length c) (some (.int .i64 ((f.length : Int) - 4))) none none).run Try.prog W = .ok (.slice C 4 (c - (f.length - 4))) W) ∧ RdB w C 4 (f.drop (f.length - 4)) := by
    have hwm := cutFrom HX.out hc ((f.length : Int) - 4) (by omega) (by omega)
    rw [show ((f.length : Int) - 4).toNat = f.length - 4 by omega, show f.length - (f.length - 4) = 4 by omega] at hwm
    exact ⟨_, hwm⟩
  have HF := Aside0.mk hrF
  have HWF : Aside0 (wrap64 ((f.length : Int) - 4) = (f.length : Int) - 4) := ⟨by unfold wrap64; omega⟩
  have HR := Aside0.mk hr
  have hbl2 : b.length ≤ f.length := by omega
  have hbl3 : b.length ≤ c - 6 := by omega
  obtain ⟨ad, ea⟩ : ∃ ad, A = some ad := by obtain ⟨ad, e, _⟩ := Kd.at_int HX.out 0 (by omega) (by omega); exact ⟨ad, e⟩
  subst ea
  have hp1 : (1 : Int) < (f.length : Int) := by omega
  have HC : Aside0 (w.cell? ⟨ad.block, ad.off + 1, none⟩ = some (.int .u8 (rd f 1))) := ⟨rdB_at HX.out 1 (by omega)⟩
  clear hr he hbl hrF
  subst ht
  have HS := Aside0.mk hs
  clear hs
  go_enter Try.func17, Try.ntmps17
  go_wp2_with (first
    | (go_at_call 18; (with_reducible refine at_cw w ?_); refine (rlength_calls (some ad) f.length c f w HX.out hb (Nat.le_trans hN (by decide))).mono ?_; rw [HV.out]; rintro e w1 ⟨rfl, hB⟩; have L1 : Aside0 (Later w w1) := ⟨hB⟩; clear hB; have hc1 := pw_cell_below L1.out HC.out))
  have LW : Aside0 (Below w.heap.size w w1) := ⟨L1.out⟩
  have HRW : Aside0 (RdB w1 B b.length b) := ⟨Kd.C_below HR.out L1.out⟩
  have HRd := Aside0.mk (Kd.C_below HRW.out (Below.drew (Below.refl _ _)))
  have LD : Aside0 (Below w.heap.size w (World.drew w1)) := ⟨Below.drew LW.out⟩
  have HS1 := Aside0.mk (str_eq0 (le32_bytes _) (hb.drop _) HS.out)
  refine seq_start [] (.take 0 (.take 3 (.take 4 (.take 5 (.take 6 (.take 7 (.take 8 (.run 1 (.take 2 (.take 9 .done)))))))))) (by kernel_rfl) (by kernel_rfl) (fun _ _ d _ _ h => by cases d <;> exact h) ?_
  refine seq_take (v := ?_) (a' := ?_) rfl rfl (by rfl) (fun w' hw' => ?_) ?_ ?_
  rotate_left 2
  · go_simp
    with_reducible rfl
  · simp only [Act.put, List.setIfInBounds_toArray, List.set_cons_zero, List.set_cons_succ, Go.Proofs.YtcbcoaafdggniaaW.PrintLast.i64_w, Go.Proofs.YtcbcoaafdggniaaW.PrintLast.i32_w]
    rfl
  refine seq_take (v := ?_) (a' := ?_) rfl rfl (by rfl) (fun w' hw' => ?_) ?_ ?_
  rotate_left 2
  · go_simp
    with_reducible rfl
  · simp only [Act.put, List.setIfInBounds_toArray, List.set_cons_zero, List.set_cons_succ, Go.Proofs.YtcbcoaafdggniaaW.PrintLast.i64_w, Go.Proofs.YtcbcoaafdggniaaW.PrintLast.i32_w]
    rfl
  refine seq_take (v := ?_) (a' := ?_) rfl rfl (by rfl) (fun w' hw' => ?_) ?_ ?_
  rotate_left 2
  · go_simp
    with_reducible rfl
  · simp only [Act.put, List.setIfInBounds_toArray, List.set_cons_zero, List.set_cons_succ, Go.Proofs.YtcbcoaafdggniaaW.PrintLast.i64_w, Go.Proofs.YtcbcoaafdggniaaW.PrintLast.i32_w]
    rfl
  refine seq_take (v := ?_) (a' := ?_) rfl rfl (by rfl) (fun w' hw' => ?_) ?_ ?_
  rotate_left 2
  · go_simp
    with_reducible rfl
  · simp only [Act.put, List.setIfInBounds_toArray, List.set_cons_zero, List.set_cons_succ, Go.Proofs.YtcbcoaafdggniaaW.PrintLast.i64_w, Go.Proofs.YtcbcoaafdggniaaW.PrintLast.i32_w]
    rfl
  refine seq_take (v := ?_) (a' := ?_) rfl rfl (by rfl) (fun w' hw' => ?_) ?_ ?_
  rotate_left 2
  · go_simp
    with_reducible rfl
  · simp only [Act.put, List.setIfInBounds_toArray, List.set_cons_zero, List.set_cons_succ, Go.Proofs.YtcbcoaafdggniaaW.PrintLast.i64_w, Go.Proofs.YtcbcoaafdggniaaW.PrintLast.i32_w]
    rfl
  refine seq_take (v := ?_) (a' := ?_) rfl rfl (by rfl) (fun w' hw' => ?_) ?_ ?_
  rotate_left 2
  · have hq := HWF.out; go_simp
    with_reducible rfl
  · simp only [Act.put, List.setIfInBounds_toArray, List.set_cons_zero, List.set_cons_succ, Go.Proofs.YtcbcoaafdggniaaW.PrintLast.i64_w, Go.Proofs.YtcbcoaafdggniaaW.PrintLast.i32_w]
    rfl
  refine seq_take (v := ?_) (a' := ?_) rfl rfl (by rfl) (fun w' hw' => ?_) ?_ ?_
  rotate_left 2
  · have hq := conv_str (Kd.C_below HF.out (below_tr LD.out hw'.bel LD.out.size)) (c - (f.length - 4)); go_simp
    with_reducible rfl
  · simp only [Act.put, List.setIfInBounds_toArray, List.set_cons_zero, List.set_cons_succ, Go.Proofs.YtcbcoaafdggniaaW.PrintLast.i64_w, Go.Proofs.YtcbcoaafdggniaaW.PrintLast.i32_w]
    rfl
  refine seq_run ?_
  refine do_call rfl rfl (by rfl) rfl Try.func29 (by kernel_rfl) rfl #[.slice B b.length (c - 6)] (by simp only [List.map_toArray, List.map_cons, List.map_nil]; rfl) ?_
  with_reducible refine (rsum6_calls B b.length (c - 6) b _ HRd.out hbb (by omega)).mono ?_
  rintro e w5 ⟨B5, d5, rfl, hr5, hB5⟩
  refine ⟨_, ?_, rfl, ?_, fun _ => hB5, ?_⟩
  rotate_left
  · simp only [Act.put, List.setIfInBounds_toArray, List.set_cons_zero, List.set_cons_succ, Go.Proofs.YtcbcoaafdggniaaW.PrintLast.i64_w, Go.Proofs.YtcbcoaafdggniaaW.PrintLast.i32_w]
    rfl
  have HR5 := Aside0.mk hr5
  clear hr5
  refine seq_take (v := ?_) (a' := ?_) rfl rfl (by rfl) (fun w' hw' => ?_) ?_ ?_
  rotate_left 2
  · have hq := conv_str (Kd.C_below HR5.out hw'.bel) d5; go_simp
    with_reducible rfl
  · simp only [Act.put, List.setIfInBounds_toArray, List.set_cons_zero, List.set_cons_succ, Go.Proofs.YtcbcoaafdggniaaW.PrintLast.i64_w, Go.Proofs.YtcbcoaafdggniaaW.PrintLast.i32_w]
    rfl
  refine seq_take (v := ?_) (a' := ?_) rfl rfl (by rfl) (fun w' hw' => ?_) ?_ ?_
  rotate_left 2
  · have hq := HS1.out; go_simp
    with_reducible rfl
  · simp only [Act.put, List.setIfInBounds_toArray, List.set_cons_zero, List.set_cons_succ, Go.Proofs.YtcbcoaafdggniaaW.PrintLast.i64_w, Go.Proofs.YtcbcoaafdggniaaW.PrintLast.i32_w]
    rfl
  refine seq_end ?_
  go_wp2
  (try simp only [Exit.inBlock, Exit.then])
  refine bodyPost_ret (results_tmp2 rfl _ _ _) rfl ?_
  exact ROPost.err 7 (below_tr LD.out hB5 LD.out.size)
set_option maxRecDepth 20000 in
set_option maxHeartbeats 1600000 in
theorem ropen_t2 (A : Option Addr) (N c n : Nat) (f b : List Int) (most : Int) (w : World) (h : RdB w A N f) (hb : Bytes f) (hc : N ≤ c) (hN : N ≤ 549755813888) (hl : lenL f = some n) (hn : (n : Int) ≤ most) (he : midL f 6 (f.length - 4) = b) (hp : ¬ rd f 1 = 1) (ht : n = b.length) (hs : le32 (crc 0 b) = f.drop (f.length - 4)) :
    Calls Try.prog 17 #[.slice A N c, .int .i64 most] w fun e w' => ROPost w ⟨b, 0⟩ e w' := by
  obtain rfl : f.length = N := h.1
  have HX := Aside0.mk h
  clear h
  have HV : Aside0 (lenI f = (n : Int)) := ⟨by unfold lenI; rw [hl]⟩
  have h10 := (lenL_some hl).1
  have hnl := lenL_lt hb hl
  have hn2 : ¬ most < (n : Int) := by omega
  have hn3 : ¬ (n : Int) < 0 := by omega
  have hbb : Bytes b := by rw [← he]; exact Bytes.mid hb _ _
  have hbl : b.length = f.length - 4 - 6 := by rw [← he]; exact midL_len (by omega)
  obtain ⟨B, hcut, hr⟩ : ∃ B, (∀ W : World, (Instr.slice 22 (.slice A f.length c) (some (.int .i64 6)) (some (.int .i64 ((f.length : Int) - 4))) none).run Try.prog W = .ok (.slice B b.length (c - 6)) W) ∧ RdB w B b.length b := by
    have hwm := cutMid HX.out hc 6 ((f.length : Int) - 4) (by omega) (by omega) (by omega)
    rw [show ((f.length : Int) - 4).toNat = f.length - 4 by omega, show (6 : Int).toNat = 6 from rfl, he, ← hbl] at hwm
    exact ⟨_, hwm⟩
  obtain ⟨C, hcutF, hrF⟩ : ∃ C, (∀ W : World, (Instr.slice 22 (.slice A f.length c) (some (.int .i64 ((f.length : Int) - 4))) none none).run Try.prog W = .ok (.slice C 4 (c - (f.length - 4))) W) ∧ RdB w C 4 (f.drop (f.length - 4)) := by
    have hwm := cutFrom HX.out hc ((f.length : Int) - 4) (by omega) (by omega)
    rw [show ((f.length : Int) - 4).toNat = f.length - 4 by omega, show f.length - (f.length - 4) = 4 by omega] at hwm
    exact ⟨_, hwm⟩
  have HF := Aside0.mk hrF
  have HWF : Aside0 (wrap64 ((f.length : Int) - 4) = (f.length : Int) - 4) := ⟨by unfold wrap64; omega⟩
  have HR := Aside0.mk hr
  have hbl2 : b.length ≤ f.length := by omega
  have hbl3 : b.length ≤ c - 6 := by omega
  obtain ⟨ad, ea⟩ : ∃ ad, A = some ad := by obtain ⟨ad, e, _⟩ := Kd.at_int HX.out 0 (by omega) (by omega); exact ⟨ad, e⟩
  subst ea
  have hp1 : (1 : Int) < (f.length : Int) := by omega
  have HC : Aside0 (w.cell? ⟨ad.block, ad.off + 1, none⟩ = some (.int .u8 (rd f 1))) := ⟨rdB_at HX.out 1 (by omega)⟩
  clear hr he hbl hrF
  subst ht
  have HS := Aside0.mk hs
  clear hs
  go_enter Try.func17, Try.ntmps17
  go_wp2_with (first
    | (go_at_call 18; (with_reducible refine at_cw w ?_); refine (rlength_calls (some ad) f.length c f w HX.out hb (Nat.le_trans hN (by decide))).mono ?_; rw [HV.out]; rintro e w1 ⟨rfl, hB⟩; have L1 : Aside0 (Later w w1) := ⟨hB⟩; clear hB; have hc1 := pw_cell_below L1.out HC.out))
  have LW : Aside0 (Below w.heap.size w w1) := ⟨L1.out⟩
  have HRW : Aside0 (RdB w1 B b.length b) := ⟨Kd.C_below HR.out L1.out⟩
  have HRd := Aside0.mk (Kd.C_below HRW.out (Below.drew (Below.refl _ _)))
  have LD : Aside0 (Below w.heap.size w (World.drew w1)) := ⟨Below.drew LW.out⟩
  have HS1 := Aside0.mk (str_eq1 (le32_bytes _) (hb.drop _) HS.out)
  refine seq_start [] (.take 0 (.take 3 (.take 4 (.take 5 (.take 6 (.take 7 (.take 8 (.run 1 (.take 2 (.take 9 .done)))))))))) (by kernel_rfl) (by kernel_rfl) (fun _ _ d _ _ h => by cases d <;> exact h) ?_
  refine seq_take (v := ?_) (a' := ?_) rfl rfl (by rfl) (fun w' hw' => ?_) ?_ ?_
  rotate_left 2
  · go_simp
    with_reducible rfl
  · simp only [Act.put, List.setIfInBounds_toArray, List.set_cons_zero, List.set_cons_succ, Go.Proofs.YtcbcoaafdggniaaW.PrintLast.i64_w, Go.Proofs.YtcbcoaafdggniaaW.PrintLast.i32_w]
    rfl
  refine seq_take (v := ?_) (a' := ?_) rfl rfl (by rfl) (fun w' hw' => ?_) ?_ ?_
  rotate_left 2
  · go_simp
    with_reducible rfl
  · simp only [Act.put, List.setIfInBounds_toArray, List.set_cons_zero, List.set_cons_succ, Go.Proofs.YtcbcoaafdggniaaW.PrintLast.i64_w, Go.Proofs.YtcbcoaafdggniaaW.PrintLast.i32_w]
    rfl
  refine seq_take (v := ?_) (a' := ?_) rfl rfl (by rfl) (fun w' hw' => ?_) ?_ ?_
  rotate_left 2
  · go_simp
    with_reducible rfl
  · simp only [Act.put, List.setIfInBounds_toArray, List.set_cons_zero, List.set_cons_succ, Go.Proofs.YtcbcoaafdggniaaW.PrintLast.i64_w, Go.Proofs.YtcbcoaafdggniaaW.PrintLast.i32_w]
    rfl
  refine seq_take (v := ?_) (a' := ?_) rfl rfl (by rfl) (fun w' hw' => ?_) ?_ ?_
  rotate_left 2
  · go_simp
    with_reducible rfl
  · simp only [Act.put, List.setIfInBounds_toArray, List.set_cons_zero, List.set_cons_succ, Go.Proofs.YtcbcoaafdggniaaW.PrintLast.i64_w, Go.Proofs.YtcbcoaafdggniaaW.PrintLast.i32_w]
    rfl
  refine seq_take (v := ?_) (a' := ?_) rfl rfl (by rfl) (fun w' hw' => ?_) ?_ ?_
  rotate_left 2
  · go_simp
    with_reducible rfl
  · simp only [Act.put, List.setIfInBounds_toArray, List.set_cons_zero, List.set_cons_succ, Go.Proofs.YtcbcoaafdggniaaW.PrintLast.i64_w, Go.Proofs.YtcbcoaafdggniaaW.PrintLast.i32_w]
    rfl
  refine seq_take (v := ?_) (a' := ?_) rfl rfl (by rfl) (fun w' hw' => ?_) ?_ ?_
  rotate_left 2
  · have hq := HWF.out; go_simp
    with_reducible rfl
  · simp only [Act.put, List.setIfInBounds_toArray, List.set_cons_zero, List.set_cons_succ, Go.Proofs.YtcbcoaafdggniaaW.PrintLast.i64_w, Go.Proofs.YtcbcoaafdggniaaW.PrintLast.i32_w]
    rfl
  refine seq_take (v := ?_) (a' := ?_) rfl rfl (by rfl) (fun w' hw' => ?_) ?_ ?_
  rotate_left 2
  · have hq := conv_str (Kd.C_below HF.out (below_tr LD.out hw'.bel LD.out.size)) (c - (f.length - 4)); go_simp
    with_reducible rfl
  · simp only [Act.put, List.setIfInBounds_toArray, List.set_cons_zero, List.set_cons_succ, Go.Proofs.YtcbcoaafdggniaaW.PrintLast.i64_w, Go.Proofs.YtcbcoaafdggniaaW.PrintLast.i32_w]
    rfl
  refine seq_run ?_
  refine do_call rfl rfl (by rfl) rfl Try.func29 (by kernel_rfl) rfl #[.slice B b.length (c - 6)] (by simp only [List.map_toArray, List.map_cons, List.map_nil]; rfl) ?_
  with_reducible refine (rsum6_calls B b.length (c - 6) b _ HRd.out hbb (by omega)).mono ?_
  rintro e w5 ⟨B5, d5, rfl, hr5, hB5⟩
  refine ⟨_, ?_, rfl, ?_, fun _ => hB5, ?_⟩
  rotate_left
  · simp only [Act.put, List.setIfInBounds_toArray, List.set_cons_zero, List.set_cons_succ, Go.Proofs.YtcbcoaafdggniaaW.PrintLast.i64_w, Go.Proofs.YtcbcoaafdggniaaW.PrintLast.i32_w]
    rfl
  have HR5 := Aside0.mk hr5
  clear hr5
  refine seq_take (v := ?_) (a' := ?_) rfl rfl (by rfl) (fun w' hw' => ?_) ?_ ?_
  rotate_left 2
  · have hq := conv_str (Kd.C_below HR5.out hw'.bel) d5; go_simp
    with_reducible rfl
  · simp only [Act.put, List.setIfInBounds_toArray, List.set_cons_zero, List.set_cons_succ, Go.Proofs.YtcbcoaafdggniaaW.PrintLast.i64_w, Go.Proofs.YtcbcoaafdggniaaW.PrintLast.i32_w]
    rfl
  refine seq_take (v := ?_) (a' := ?_) rfl rfl (by rfl) (fun w' hw' => ?_) ?_ ?_
  rotate_left 2
  · have hq := HS1.out; go_simp
    with_reducible rfl
  · simp only [Act.put, List.setIfInBounds_toArray, List.set_cons_zero, List.set_cons_succ, Go.Proofs.YtcbcoaafdggniaaW.PrintLast.i64_w, Go.Proofs.YtcbcoaafdggniaaW.PrintLast.i32_w]
    rfl
  refine seq_end ?_
  go_wp2
  (try simp only [Exit.inBlock, Exit.then])
  refine bodyPost_ret (results_tmp2 rfl _ _ _) rfl ?_
  exact ⟨B, (c - 6), rfl, hbl3, Kd.C_below HRd.out hB5, hbb, below_tr LD.out hB5 LD.out.size⟩
set_option maxRecDepth 20000 in
set_option maxHeartbeats 1600000 in
theorem ropen_u0 (A : Option Addr) (N c n : Nat) (f b : List Int) (most : Int) (w : World) (h : RdB w A N f) (hb : Bytes f) (hc : N ≤ c) (hN : N ≤ 549755813888) (hl : lenL f = some n) (hn : (n : Int) ≤ most) (he : midL f 6 (f.length - 4) = b) (hp : rd f 1 = 1) (X : List Int) (E : Int) (hu : unp n b = ⟨X, E⟩) (ht : ¬ E = 0) :
    Calls Try.prog 17 #[.slice A N c, .int .i64 most] w fun e w' => ROPost w ⟨[], 2⟩ e w' := by
  obtain rfl : f.length = N := h.1
  have HX := Aside0.mk h
  clear h
  have HV : Aside0 (lenI f = (n : Int)) := ⟨by unfold lenI; rw [hl]⟩
  have h10 := (lenL_some hl).1
  have hnl := lenL_lt hb hl
  have hn2 : ¬ most < (n : Int) := by omega
  have hn3 : ¬ (n : Int) < 0 := by omega
  have hbb : Bytes b := by rw [← he]; exact Bytes.mid hb _ _
  have hbl : b.length = f.length - 4 - 6 := by rw [← he]; exact midL_len (by omega)
  obtain ⟨B, hcut, hr⟩ : ∃ B, (∀ W : World, (Instr.slice 22 (.slice A f.length c) (some (.int .i64 6)) (some (.int .i64 ((f.length : Int) - 4))) none).run Try.prog W = .ok (.slice B b.length (c - 6)) W) ∧ RdB w B b.length b := by
    have hwm := cutMid HX.out hc 6 ((f.length : Int) - 4) (by omega) (by omega) (by omega)
    rw [show ((f.length : Int) - 4).toNat = f.length - 4 by omega, show (6 : Int).toNat = 6 from rfl, he, ← hbl] at hwm
    exact ⟨_, hwm⟩
  obtain ⟨C, hcutF, hrF⟩ : ∃ C, (∀ W : World, (Instr.slice 22 (.slice A f.length c) (some (.int .i64 ((f.length : Int) - 4))) none none).run Try.prog W = .ok (.slice C 4 (c - (f.length - 4))) W) ∧ RdB w C 4 (f.drop (f.length - 4)) := by
    have hwm := cutFrom HX.out hc ((f.length : Int) - 4) (by omega) (by omega)
    rw [show ((f.length : Int) - 4).toNat = f.length - 4 by omega, show f.length - (f.length - 4) = 4 by omega] at hwm
    exact ⟨_, hwm⟩
  have HF := Aside0.mk hrF
  have HWF : Aside0 (wrap64 ((f.length : Int) - 4) = (f.length : Int) - 4) := ⟨by unfold wrap64; omega⟩
  have HR := Aside0.mk hr
  have hbl2 : b.length ≤ f.length := by omega
  have hbl3 : b.length ≤ c - 6 := by omega
  obtain ⟨ad, ea⟩ : ∃ ad, A = some ad := by obtain ⟨ad, e, _⟩ := Kd.at_int HX.out 0 (by omega) (by omega); exact ⟨ad, e⟩
  subst ea
  have hp1 : (1 : Int) < (f.length : Int) := by omega
  have HC : Aside0 (w.cell? ⟨ad.block, ad.off + 1, none⟩ = some (.int .u8 (rd f 1))) := ⟨rdB_at HX.out 1 (by omega)⟩
  rw [hp] at HC
  clear hr he hbl hrF
  have HU := Aside0.mk hu
  clear hu
  go_enter Try.func17, Try.ntmps17
  go_wp2_with (first
    | (go_at_call 18; (with_reducible refine at_cw w ?_); refine (rlength_calls (some ad) f.length c f w HX.out hb (Nat.le_trans hN (by decide))).mono ?_; rw [HV.out]; rintro e w1 ⟨rfl, hB⟩; have L1 : Aside0 (Later w w1) := ⟨hB⟩; clear hB; have hc1 := pw_cell_below L1.out HC.out)
    | (go_at_call 30; (with_reducible refine at_cw w1 ?_); refine (runpack_calls B b.length (c - 6) b n w1 (Kd.C_below HR.out L1.out) hbb hbl3 (by omega)).mono ?_; rw [HU.out]; rintro e w2 ⟨A2, c2, n2, he2, hO, hb2, hB⟩; simp only [ucs] at he2 hO hb2; subst he2; have L2 : Aside0 (Below w.heap.size w w2) := ⟨below_tr' L1.out hB⟩; have HO2 := Aside0.mk hO; clear hO hB))
  (try simp only [Exit.inBlock, Exit.then])
  refine bodyPost_ret (results_tmp2 rfl _ _ _) rfl ?_
  exact ROPost.err 2 (below_alloc L2.out _)
set_option maxRecDepth 20000 in
set_option maxHeartbeats 1600000 in
theorem ropen_u1 (A : Option Addr) (N c n : Nat) (f b : List Int) (most : Int) (w : World) (h : RdB w A N f) (hb : Bytes f) (hc : N ≤ c) (hN : N ≤ 549755813888) (hl : lenL f = some n) (hn : (n : Int) ≤ most) (he : midL f 6 (f.length - 4) = b) (hp : rd f 1 = 1) (X : List Int) (hu : unp n b = ⟨X, 0⟩) (ht : X.length ≠ n) :
    Calls Try.prog 17 #[.slice A N c, .int .i64 most] w fun e w' => ROPost w ⟨[], 2⟩ e w' := by
  obtain rfl : f.length = N := h.1
  have HX := Aside0.mk h
  clear h
  have HV : Aside0 (lenI f = (n : Int)) := ⟨by unfold lenI; rw [hl]⟩
  have h10 := (lenL_some hl).1
  have hnl := lenL_lt hb hl
  have hn2 : ¬ most < (n : Int) := by omega
  have hn3 : ¬ (n : Int) < 0 := by omega
  have hbb : Bytes b := by rw [← he]; exact Bytes.mid hb _ _
  have hbl : b.length = f.length - 4 - 6 := by rw [← he]; exact midL_len (by omega)
  obtain ⟨B, hcut, hr⟩ : ∃ B, (∀ W : World, (Instr.slice 22 (.slice A f.length c) (some (.int .i64 6)) (some (.int .i64 ((f.length : Int) - 4))) none).run Try.prog W = .ok (.slice B b.length (c - 6)) W) ∧ RdB w B b.length b := by
    have hwm := cutMid HX.out hc 6 ((f.length : Int) - 4) (by omega) (by omega) (by omega)
    rw [show ((f.length : Int) - 4).toNat = f.length - 4 by omega, show (6 : Int).toNat = 6 from rfl, he, ← hbl] at hwm
    exact ⟨_, hwm⟩
  obtain ⟨C, hcutF, hrF⟩ : ∃ C, (∀ W : World, (Instr.slice 22 (.slice A f.length c) (some (.int .i64 ((f.length : Int) - 4))) none none).run Try.prog W = .ok (.slice C 4 (c - (f.length - 4))) W) ∧ RdB w C 4 (f.drop (f.length - 4)) := by
    have hwm := cutFrom HX.out hc ((f.length : Int) - 4) (by omega) (by omega)
    rw [show ((f.length : Int) - 4).toNat = f.length - 4 by omega, show f.length - (f.length - 4) = 4 by omega] at hwm
    exact ⟨_, hwm⟩
  have HF := Aside0.mk hrF
  have HWF : Aside0 (wrap64 ((f.length : Int) - 4) = (f.length : Int) - 4) := ⟨by unfold wrap64; omega⟩
  have HR := Aside0.mk hr
  have hbl2 : b.length ≤ f.length := by omega
  have hbl3 : b.length ≤ c - 6 := by omega
  obtain ⟨ad, ea⟩ : ∃ ad, A = some ad := by obtain ⟨ad, e, _⟩ := Kd.at_int HX.out 0 (by omega) (by omega); exact ⟨ad, e⟩
  subst ea
  have hp1 : (1 : Int) < (f.length : Int) := by omega
  have HC : Aside0 (w.cell? ⟨ad.block, ad.off + 1, none⟩ = some (.int .u8 (rd f 1))) := ⟨rdB_at HX.out 1 (by omega)⟩
  rw [hp] at HC
  clear hr he hbl hrF
  have HU := Aside0.mk hu
  clear hu
  have ht2 : ¬ (X.length : Int) = (n : Int) := by omega
  clear ht
  go_enter Try.func17, Try.ntmps17
  go_wp2_with (first
    | (go_at_call 18; (with_reducible refine at_cw w ?_); refine (rlength_calls (some ad) f.length c f w HX.out hb (Nat.le_trans hN (by decide))).mono ?_; rw [HV.out]; rintro e w1 ⟨rfl, hB⟩; have L1 : Aside0 (Later w w1) := ⟨hB⟩; clear hB; have hc1 := pw_cell_below L1.out HC.out)
    | (go_at_call 30; (with_reducible refine at_cw w1 ?_); refine (runpack_calls B b.length (c - 6) b n w1 (Kd.C_below HR.out L1.out) hbb hbl3 (by omega)).mono ?_; rw [HU.out]; rintro e w2 ⟨A2, c2, n2, he2, hO, hb2, hB⟩; simp only [ucs] at he2 hO hb2; subst he2; have L2 : Aside0 (Below w.heap.size w w2) := ⟨below_tr' L1.out hB⟩; have HO2 := Aside0.mk hO; clear hO hB))
  (try simp only [Exit.inBlock, Exit.then])
  refine bodyPost_ret (results_tmp2 rfl _ _ _) rfl ?_
  exact ROPost.err 2 (below_alloc L2.out _)
set_option maxRecDepth 20000 in
set_option maxHeartbeats 1600000 in
theorem ropen_u2 (A : Option Addr) (N c n : Nat) (f b : List Int) (most : Int) (w : World) (h : RdB w A N f) (hb : Bytes f) (hc : N ≤ c) (hN : N ≤ 549755813888) (hl : lenL f = some n) (hn : (n : Int) ≤ most) (he : midL f 6 (f.length - 4) = b) (hp : rd f 1 = 1) (X : List Int) (hu : unp n b = ⟨X, 0⟩) (ht : n = X.length) (hs : le32 (crc 0 X) ≠ f.drop (f.length - 4)) :
    Calls Try.prog 17 #[.slice A N c, .int .i64 most] w fun e w' => ROPost w ⟨[], 7⟩ e w' := by
  obtain rfl : f.length = N := h.1
  have HX := Aside0.mk h
  clear h
  have HV : Aside0 (lenI f = (n : Int)) := ⟨by unfold lenI; rw [hl]⟩
  have h10 := (lenL_some hl).1
  have hnl := lenL_lt hb hl
  have hn2 : ¬ most < (n : Int) := by omega
  have hn3 : ¬ (n : Int) < 0 := by omega
  have hbb : Bytes b := by rw [← he]; exact Bytes.mid hb _ _
  have hbl : b.length = f.length - 4 - 6 := by rw [← he]; exact midL_len (by omega)
  obtain ⟨B, hcut, hr⟩ : ∃ B, (∀ W : World, (Instr.slice 22 (.slice A f.length c) (some (.int .i64 6)) (some (.int .i64 ((f.length : Int) - 4))) none).run Try.prog W = .ok (.slice B b.length (c - 6)) W) ∧ RdB w B b.length b := by
    have hwm := cutMid HX.out hc 6 ((f.length : Int) - 4) (by omega) (by omega) (by omega)
    rw [show ((f.length : Int) - 4).toNat = f.length - 4 by omega, show (6 : Int).toNat = 6 from rfl, he, ← hbl] at hwm
    exact ⟨_, hwm⟩
  obtain ⟨C, hcutF, hrF⟩ : ∃ C, (∀ W : World, (Instr.slice 22 (.slice A f.length c) (some (.int .i64 ((f.length : Int) - 4))) none none).run Try.prog W = .ok (.slice C 4 (c - (f.length - 4))) W) ∧ RdB w C 4 (f.drop (f.length - 4)) := by
    have hwm := cutFrom HX.out hc ((f.length : Int) - 4) (by omega) (by omega)
    rw [show ((f.length : Int) - 4).toNat = f.length - 4 by omega, show f.length - (f.length - 4) = 4 by omega] at hwm
    exact ⟨_, hwm⟩
  have HF := Aside0.mk hrF
  have HWF : Aside0 (wrap64 ((f.length : Int) - 4) = (f.length : Int) - 4) := ⟨by unfold wrap64; omega⟩
  have HR := Aside0.mk hr
  have hbl2 : b.length ≤ f.length := by omega
  have hbl3 : b.length ≤ c - 6 := by omega
  obtain ⟨ad, ea⟩ : ∃ ad, A = some ad := by obtain ⟨ad, e, _⟩ := Kd.at_int HX.out 0 (by omega) (by omega); exact ⟨ad, e⟩
  subst ea
  have hp1 : (1 : Int) < (f.length : Int) := by omega
  have HC : Aside0 (w.cell? ⟨ad.block, ad.off + 1, none⟩ = some (.int .u8 (rd f 1))) := ⟨rdB_at HX.out 1 (by omega)⟩
  rw [hp] at HC
  clear hr he hbl hrF
  subst ht
  have HU := Aside0.mk hu
  clear hu
  have HS := Aside0.mk hs
  clear hs
  go_enter Try.func17, Try.ntmps17
  go_wp2_with (first
    | (go_at_call 18; (with_reducible refine at_cw w ?_); refine (rlength_calls (some ad) f.length c f w HX.out hb (Nat.le_trans hN (by decide))).mono ?_; rw [HV.out]; rintro e w1 ⟨rfl, hB⟩; have L1 : Aside0 (Later w w1) := ⟨hB⟩; clear hB; have hc1 := pw_cell_below L1.out HC.out)
    | (go_at_call 30; (with_reducible refine at_cw w1 ?_); refine (runpack_calls B b.length (c - 6) b X.length w1 (Kd.C_below HR.out L1.out) hbb hbl3 (by omega)).mono ?_; rw [HU.out]; rintro e w2 ⟨A2, c2, n2, he2, hO, hb2, hB⟩; simp only [ucs] at he2 hO hb2; subst he2; have L2 : Aside0 (Below w.heap.size w w2) := ⟨below_tr' L1.out hB⟩; have HO2 := Aside0.mk hO; clear hO hB))
  have LW : Aside0 (Below w.heap.size w (w2.alloc (.cells #[.slice A2 X.length c2, .int .i64 n2, .int .i64 0] 53))) := ⟨below_alloc L2.out _⟩
  have HRW : Aside0 (RdB (w2.alloc (.cells #[.slice A2 X.length c2, .int .i64 n2, .int .i64 0] 53)) A2 X.length X) := ⟨Kd.C_alloc (OwB.parts HO2.out).2 _⟩
  have hd2 := (OwB.parts HO2.out).1
  have HRd := Aside0.mk (Kd.C_below HRW.out (Below.drew (Below.refl _ _)))
  have LD : Aside0 (Below w.heap.size w (World.drew (w2.alloc (.cells #[.slice A2 X.length c2, .int .i64 n2, .int .i64 0] 53)))) := ⟨Below.drew LW.out⟩
  have HS1 := Aside0.mk (str_eq0 (le32_bytes _) (hb.drop _) HS.out)
  refine seq_start [] (.take 0 (.take 3 (.take 4 (.take 5 (.take 6 (.take 7 (.take 8 (.run 1 (.take 2 (.take 9 .done)))))))))) (by kernel_rfl) (by kernel_rfl) (fun _ _ d _ _ h => by cases d <;> exact h) ?_
  refine seq_take (v := ?_) (a' := ?_) rfl rfl (by rfl) (fun w' hw' => ?_) ?_ ?_
  rotate_left 2
  · go_simp
    with_reducible rfl
  · simp only [Act.put, List.setIfInBounds_toArray, List.set_cons_zero, List.set_cons_succ, Go.Proofs.YtcbcoaafdggniaaW.PrintLast.i64_w, Go.Proofs.YtcbcoaafdggniaaW.PrintLast.i32_w]
    rfl
  refine seq_take (v := ?_) (a' := ?_) rfl rfl (by rfl) (fun w' hw' => ?_) ?_ ?_
  rotate_left 2
  · go_simp
    with_reducible rfl
  · simp only [Act.put, List.setIfInBounds_toArray, List.set_cons_zero, List.set_cons_succ, Go.Proofs.YtcbcoaafdggniaaW.PrintLast.i64_w, Go.Proofs.YtcbcoaafdggniaaW.PrintLast.i32_w]
    rfl
  refine seq_take (v := ?_) (a' := ?_) rfl rfl (by rfl) (fun w' hw' => ?_) ?_ ?_
  rotate_left 2
  · go_simp
    with_reducible rfl
  · simp only [Act.put, List.setIfInBounds_toArray, List.set_cons_zero, List.set_cons_succ, Go.Proofs.YtcbcoaafdggniaaW.PrintLast.i64_w, Go.Proofs.YtcbcoaafdggniaaW.PrintLast.i32_w]
    rfl
  refine seq_take (v := ?_) (a' := ?_) rfl rfl (by rfl) (fun w' hw' => ?_) ?_ ?_
  rotate_left 2
  · go_simp
    with_reducible rfl
  · simp only [Act.put, List.setIfInBounds_toArray, List.set_cons_zero, List.set_cons_succ, Go.Proofs.YtcbcoaafdggniaaW.PrintLast.i64_w, Go.Proofs.YtcbcoaafdggniaaW.PrintLast.i32_w]
    rfl
  refine seq_take (v := ?_) (a' := ?_) rfl rfl (by rfl) (fun w' hw' => ?_) ?_ ?_
  rotate_left 2
  · go_simp
    with_reducible rfl
  · simp only [Act.put, List.setIfInBounds_toArray, List.set_cons_zero, List.set_cons_succ, Go.Proofs.YtcbcoaafdggniaaW.PrintLast.i64_w, Go.Proofs.YtcbcoaafdggniaaW.PrintLast.i32_w]
    rfl
  refine seq_take (v := ?_) (a' := ?_) rfl rfl (by rfl) (fun w' hw' => ?_) ?_ ?_
  rotate_left 2
  · have hq := HWF.out; go_simp
    with_reducible rfl
  · simp only [Act.put, List.setIfInBounds_toArray, List.set_cons_zero, List.set_cons_succ, Go.Proofs.YtcbcoaafdggniaaW.PrintLast.i64_w, Go.Proofs.YtcbcoaafdggniaaW.PrintLast.i32_w]
    rfl
  refine seq_take (v := ?_) (a' := ?_) rfl rfl (by rfl) (fun w' hw' => ?_) ?_ ?_
  rotate_left 2
  · have hq := conv_str (Kd.C_below HF.out (below_tr LD.out hw'.bel LD.out.size)) (c - (f.length - 4)); go_simp
    with_reducible rfl
  · simp only [Act.put, List.setIfInBounds_toArray, List.set_cons_zero, List.set_cons_succ, Go.Proofs.YtcbcoaafdggniaaW.PrintLast.i64_w, Go.Proofs.YtcbcoaafdggniaaW.PrintLast.i32_w]
    rfl
  refine seq_run ?_
  refine do_call rfl rfl (by rfl) rfl Try.func29 (by kernel_rfl) rfl #[.slice A2 X.length c2] (by simp only [List.map_toArray, List.map_cons, List.map_nil]; rfl) ?_
  with_reducible refine (rsum6_calls A2 X.length c2 X _ HRd.out hb2 (by omega)).mono ?_
  rintro e w5 ⟨B5, d5, rfl, hr5, hB5⟩
  refine ⟨_, ?_, rfl, ?_, fun _ => hB5, ?_⟩
  rotate_left
  · simp only [Act.put, List.setIfInBounds_toArray, List.set_cons_zero, List.set_cons_succ, Go.Proofs.YtcbcoaafdggniaaW.PrintLast.i64_w, Go.Proofs.YtcbcoaafdggniaaW.PrintLast.i32_w]
    rfl
  have HR5 := Aside0.mk hr5
  clear hr5
  refine seq_take (v := ?_) (a' := ?_) rfl rfl (by rfl) (fun w' hw' => ?_) ?_ ?_
  rotate_left 2
  · have hq := conv_str (Kd.C_below HR5.out hw'.bel) d5; go_simp
    with_reducible rfl
  · simp only [Act.put, List.setIfInBounds_toArray, List.set_cons_zero, List.set_cons_succ, Go.Proofs.YtcbcoaafdggniaaW.PrintLast.i64_w, Go.Proofs.YtcbcoaafdggniaaW.PrintLast.i32_w]
    rfl
  refine seq_take (v := ?_) (a' := ?_) rfl rfl (by rfl) (fun w' hw' => ?_) ?_ ?_
  rotate_left 2
  · have hq := HS1.out; go_simp
    with_reducible rfl
  · simp only [Act.put, List.setIfInBounds_toArray, List.set_cons_zero, List.set_cons_succ, Go.Proofs.YtcbcoaafdggniaaW.PrintLast.i64_w, Go.Proofs.YtcbcoaafdggniaaW.PrintLast.i32_w]
    rfl
  refine seq_end ?_
  go_wp2
  (try simp only [Exit.inBlock, Exit.then])
  refine bodyPost_ret (results_tmp2 rfl _ _ _) rfl ?_
  exact ROPost.err 7 (below_tr LD.out hB5 LD.out.size)
set_option maxRecDepth 20000 in
set_option maxHeartbeats 1600000 in
theorem ropen_u3 (A : Option Addr) (N c n : Nat) (f b : List Int) (most : Int) (w : World) (h : RdB w A N f) (hb : Bytes f) (hc : N ≤ c) (hN : N ≤ 549755813888) (hl : lenL f = some n) (hn : (n : Int) ≤ most) (he : midL f 6 (f.length - 4) = b) (hp : rd f 1 = 1) (X : List Int) (hu : unp n b = ⟨X, 0⟩) (ht : n = X.length) (hs : le32 (crc 0 X) = f.drop (f.length - 4)) :
    Calls Try.prog 17 #[.slice A N c, .int .i64 most] w fun e w' => ROPost w ⟨X, 0⟩ e w' := by
  obtain rfl : f.length = N := h.1
  have HX := Aside0.mk h
  clear h
  have HV : Aside0 (lenI f = (n : Int)) := ⟨by unfold lenI; rw [hl]⟩
  have h10 := (lenL_some hl).1
  have hnl := lenL_lt hb hl
  have hn2 : ¬ most < (n : Int) := by omega
  have hn3 : ¬ (n : Int) < 0 := by omega
  have hbb : Bytes b := by rw [← he]; exact Bytes.mid hb _ _
  have hbl : b.length = f.length - 4 - 6 := by rw [← he]; exact midL_len (by omega)
  obtain ⟨B, hcut, hr⟩ : ∃ B, (∀ W : World, (Instr.slice 22 (.slice A f.length c) (some (.int .i64 6)) (some (.int .i64 ((f.length : Int) - 4))) none).run Try.prog W = .ok (.slice B b.length (c - 6)) W) ∧ RdB w B b.length b := by
    have hwm := cutMid HX.out hc 6 ((f.length : Int) - 4) (by omega) (by omega) (by omega)
    rw [show ((f.length : Int) - 4).toNat = f.length - 4 by omega, show (6 : Int).toNat = 6 from rfl, he, ← hbl] at hwm
    exact ⟨_, hwm⟩
  obtain ⟨C, hcutF, hrF⟩ : ∃ C, (∀ W : World, (Instr.slice 22 (.slice A f.length c) (some (.int .i64 ((f.length : Int) - 4))) none none).run Try.prog W = .ok (.slice C 4 (c - (f.length - 4))) W) ∧ RdB w C 4 (f.drop (f.length - 4)) := by
    have hwm := cutFrom HX.out hc ((f.length : Int) - 4) (by omega) (by omega)
    rw [show ((f.length : Int) - 4).toNat = f.length - 4 by omega, show f.length - (f.length - 4) = 4 by omega] at hwm
    exact ⟨_, hwm⟩
  have HF := Aside0.mk hrF
  have HWF : Aside0 (wrap64 ((f.length : Int) - 4) = (f.length : Int) - 4) := ⟨by unfold wrap64; omega⟩
  have HR := Aside0.mk hr
  have hbl2 : b.length ≤ f.length := by omega
  have hbl3 : b.length ≤ c - 6 := by omega
  obtain ⟨ad, ea⟩ : ∃ ad, A = some ad := by obtain ⟨ad, e, _⟩ := Kd.at_int HX.out 0 (by omega) (by omega); exact ⟨ad, e⟩
  subst ea
  have hp1 : (1 : Int) < (f.length : Int) := by omega
  have HC : Aside0 (w.cell? ⟨ad.block, ad.off + 1, none⟩ = some (.int .u8 (rd f 1))) := ⟨rdB_at HX.out 1 (by omega)⟩
  rw [hp] at HC
  clear hr he hbl hrF
  subst ht
  have HU := Aside0.mk hu
  clear hu
  have HS := Aside0.mk hs
  clear hs
  go_enter Try.func17, Try.ntmps17
  go_wp2_with (first
    | (go_at_call 18; (with_reducible refine at_cw w ?_); refine (rlength_calls (some ad) f.length c f w HX.out hb (Nat.le_trans hN (by decide))).mono ?_; rw [HV.out]; rintro e w1 ⟨rfl, hB⟩; have L1 : Aside0 (Later w w1) := ⟨hB⟩; clear hB; have hc1 := pw_cell_below L1.out HC.out)
    | (go_at_call 30; (with_reducible refine at_cw w1 ?_); refine (runpack_calls B b.length (c - 6) b X.length w1 (Kd.C_below HR.out L1.out) hbb hbl3 (by omega)).mono ?_; rw [HU.out]; rintro e w2 ⟨A2, c2, n2, he2, hO, hb2, hB⟩; simp only [ucs] at he2 hO hb2; subst he2; have L2 : Aside0 (Below w.heap.size w w2) := ⟨below_tr' L1.out hB⟩; have HO2 := Aside0.mk hO; clear hO hB))
  have LW : Aside0 (Below w.heap.size w (w2.alloc (.cells #[.slice A2 X.length c2, .int .i64 n2, .int .i64 0] 53))) := ⟨below_alloc L2.out _⟩
  have HRW : Aside0 (RdB (w2.alloc (.cells #[.slice A2 X.length c2, .int .i64 n2, .int .i64 0] 53)) A2 X.length X) := ⟨Kd.C_alloc (OwB.parts HO2.out).2 _⟩
  have hd2 := (OwB.parts HO2.out).1
  have HRd := Aside0.mk (Kd.C_below HRW.out (Below.drew (Below.refl _ _)))
  have LD : Aside0 (Below w.heap.size w (World.drew (w2.alloc (.cells #[.slice A2 X.length c2, .int .i64 n2, .int .i64 0] 53)))) := ⟨Below.drew LW.out⟩
  have HS1 := Aside0.mk (str_eq1 (le32_bytes _) (hb.drop _) HS.out)
  refine seq_start [] (.take 0 (.take 3 (.take 4 (.take 5 (.take 6 (.take 7 (.take 8 (.run 1 (.take 2 (.take 9 .done)))))))))) (by kernel_rfl) (by kernel_rfl) (fun _ _ d _ _ h => by cases d <;> exact h) ?_
  refine seq_take (v := ?_) (a' := ?_) rfl rfl (by rfl) (fun w' hw' => ?_) ?_ ?_
  rotate_left 2
  · go_simp
    with_reducible rfl
  · simp only [Act.put, List.setIfInBounds_toArray, List.set_cons_zero, List.set_cons_succ, Go.Proofs.YtcbcoaafdggniaaW.PrintLast.i64_w, Go.Proofs.YtcbcoaafdggniaaW.PrintLast.i32_w]
    rfl
  refine seq_take (v := ?_) (a' := ?_) rfl rfl (by rfl) (fun w' hw' => ?_) ?_ ?_
  rotate_left 2
  · go_simp
    with_reducible rfl
  · simp only [Act.put, List.setIfInBounds_toArray, List.set_cons_zero, List.set_cons_succ, Go.Proofs.YtcbcoaafdggniaaW.PrintLast.i64_w, Go.Proofs.YtcbcoaafdggniaaW.PrintLast.i32_w]
    rfl
  refine seq_take (v := ?_) (a' := ?_) rfl rfl (by rfl) (fun w' hw' => ?_) ?_ ?_
  rotate_left 2
  · go_simp
    with_reducible rfl
  · simp only [Act.put, List.setIfInBounds_toArray, List.set_cons_zero, List.set_cons_succ, Go.Proofs.YtcbcoaafdggniaaW.PrintLast.i64_w, Go.Proofs.YtcbcoaafdggniaaW.PrintLast.i32_w]
    rfl
  refine seq_take (v := ?_) (a' := ?_) rfl rfl (by rfl) (fun w' hw' => ?_) ?_ ?_
  rotate_left 2
  · go_simp
    with_reducible rfl
  · simp only [Act.put, List.setIfInBounds_toArray, List.set_cons_zero, List.set_cons_succ, Go.Proofs.YtcbcoaafdggniaaW.PrintLast.i64_w, Go.Proofs.YtcbcoaafdggniaaW.PrintLast.i32_w]
    rfl
  refine seq_take (v := ?_) (a' := ?_) rfl rfl (by rfl) (fun w' hw' => ?_) ?_ ?_
  rotate_left 2
  · go_simp
    with_reducible rfl
  · simp only [Act.put, List.setIfInBounds_toArray, List.set_cons_zero, List.set_cons_succ, Go.Proofs.YtcbcoaafdggniaaW.PrintLast.i64_w, Go.Proofs.YtcbcoaafdggniaaW.PrintLast.i32_w]
    rfl
  refine seq_take (v := ?_) (a' := ?_) rfl rfl (by rfl) (fun w' hw' => ?_) ?_ ?_
  rotate_left 2
  · have hq := HWF.out; go_simp
    with_reducible rfl
  · simp only [Act.put, List.setIfInBounds_toArray, List.set_cons_zero, List.set_cons_succ, Go.Proofs.YtcbcoaafdggniaaW.PrintLast.i64_w, Go.Proofs.YtcbcoaafdggniaaW.PrintLast.i32_w]
    rfl
  refine seq_take (v := ?_) (a' := ?_) rfl rfl (by rfl) (fun w' hw' => ?_) ?_ ?_
  rotate_left 2
  · have hq := conv_str (Kd.C_below HF.out (below_tr LD.out hw'.bel LD.out.size)) (c - (f.length - 4)); go_simp
    with_reducible rfl
  · simp only [Act.put, List.setIfInBounds_toArray, List.set_cons_zero, List.set_cons_succ, Go.Proofs.YtcbcoaafdggniaaW.PrintLast.i64_w, Go.Proofs.YtcbcoaafdggniaaW.PrintLast.i32_w]
    rfl
  refine seq_run ?_
  refine do_call rfl rfl (by rfl) rfl Try.func29 (by kernel_rfl) rfl #[.slice A2 X.length c2] (by simp only [List.map_toArray, List.map_cons, List.map_nil]; rfl) ?_
  with_reducible refine (rsum6_calls A2 X.length c2 X _ HRd.out hb2 (by omega)).mono ?_
  rintro e w5 ⟨B5, d5, rfl, hr5, hB5⟩
  refine ⟨_, ?_, rfl, ?_, fun _ => hB5, ?_⟩
  rotate_left
  · simp only [Act.put, List.setIfInBounds_toArray, List.set_cons_zero, List.set_cons_succ, Go.Proofs.YtcbcoaafdggniaaW.PrintLast.i64_w, Go.Proofs.YtcbcoaafdggniaaW.PrintLast.i32_w]
    rfl
  have HR5 := Aside0.mk hr5
  clear hr5
  refine seq_take (v := ?_) (a' := ?_) rfl rfl (by rfl) (fun w' hw' => ?_) ?_ ?_
  rotate_left 2
  · have hq := conv_str (Kd.C_below HR5.out hw'.bel) d5; go_simp
    with_reducible rfl
  · simp only [Act.put, List.setIfInBounds_toArray, List.set_cons_zero, List.set_cons_succ, Go.Proofs.YtcbcoaafdggniaaW.PrintLast.i64_w, Go.Proofs.YtcbcoaafdggniaaW.PrintLast.i32_w]
    rfl
  refine seq_take (v := ?_) (a' := ?_) rfl rfl (by rfl) (fun w' hw' => ?_) ?_ ?_
  rotate_left 2
  · have hq := HS1.out; go_simp
    with_reducible rfl
  · simp only [Act.put, List.setIfInBounds_toArray, List.set_cons_zero, List.set_cons_succ, Go.Proofs.YtcbcoaafdggniaaW.PrintLast.i64_w, Go.Proofs.YtcbcoaafdggniaaW.PrintLast.i32_w]
    rfl
  refine seq_end ?_
  go_wp2
  (try simp only [Exit.inBlock, Exit.then])
  refine bodyPost_ret (results_tmp2 rfl _ _ _) rfl ?_
  exact ⟨A2, c2, rfl, hd2, Kd.C_below HRd.out hB5, hb2, below_tr LD.out hB5 LD.out.size⟩
theorem ropen_calls (A : Option Addr) (N c : Nat) (f : List Int) (most : Int) (w : World) (h : RdB w A N f) (hb : Bytes f) (hc : N ≤ c) (hN : N ≤ 549755813888) :
    Calls Try.prog 17 #[.slice A N c, .int .i64 most] w fun e w' => ROPost w (openL most f) e w' := by
  unfold openL
  rcases hl : lenL f with _ | n
  · exact ropen_form A N c f most w h hb hc hN hl
  · dsimp only
    by_cases hn : (n : Int) ≤ most
    · rw [if_neg (by omega)]
      by_cases h1 : rd f 1 = 1
      · rw [if_pos h1]
        rcases hu : unp (n : Int) (midL f 6 (f.length - 4)) with ⟨X, E⟩
        dsimp only
        by_cases hE : E = 0
        · subst hE
          rw [if_neg (by simp)]
          unfold openT
          by_cases ht : X.length = n
          · rw [if_neg (by simp [ht])]
            by_cases hs : le32 (crc 0 X) = f.drop (f.length - 4)
            · rw [if_neg (by simp [hs])]
              exact ropen_u3 A N c n f _ most w h hb hc hN hl hn rfl h1 X hu ht.symm hs
            · rw [if_pos hs]
              exact ropen_u2 A N c n f _ most w h hb hc hN hl hn rfl h1 X hu ht.symm hs
          · rw [if_pos ht]
            exact ropen_u1 A N c n f _ most w h hb hc hN hl hn rfl h1 X hu ht
        · rw [if_pos hE]
          exact ropen_u0 A N c n f _ most w h hb hc hN hl hn rfl h1 X E hu hE
      · rw [if_neg h1]
        unfold openT
        by_cases ht : (midL f 6 (f.length - 4)).length = n
        · rw [if_neg (by simp [ht])]
          by_cases hs : le32 (crc 0 (midL f 6 (f.length - 4))) = f.drop (f.length - 4)
          · rw [if_neg (by simp [hs])]
            exact ropen_t2 A N c n f _ most w h hb hc hN hl hn rfl h1 ht.symm hs
          · rw [if_pos hs]
            exact ropen_t1 A N c n f _ most w h hb hc hN hl hn rfl h1 ht.symm hs
        · rw [if_pos ht]
          exact ropen_t0 A N c n f _ most w h hb hc hN hl hn rfl h1 ht
    · rw [if_pos (by omega)]
      exact ropen_range A N c n f most w h hb hc hN hl hn
end Go.Proofs.Ytcbcoaafdggniaa
