/- Contract of the finder's upto. Conditions: its own. -/
import Derived.Test.YtcbcoaafdggniaaLz2
import Derived.Laws.Cover3
namespace Go.Proofs.Ytcbcoaafdggniaa
open Go.RowKit Go.Proofs.YtcbcoaafdggniaaW.PrintWords Go.Proofs.YtcbcoaafdggniaaW.PrintMore
set_option linter.unusedVariables false
set_option linter.unusedSimpArgs false
theorem LzMap.later {w w1 : World} {S : Nat → Prop} {g bm : Nat} {b : List Int} {n : Nat} {M : List Int → Option Value} (h : LzMap w S g bm b n M) (k : Later w w1) : LzMap w1 S g bm b n M :=
  ⟨h.is.move (k.block bm h.is.lt), fun ks v hk hv => ⟨Kd.R_below (h.rows ks v hk hv).1 k, (h.rows ks v hk hv).2⟩, h.nil_, h.apart⟩
theorem LzSt.later {w w1 : World} {S : Nat → Prop} {g bm : Nat} {A : Option Addr} {N c : Nat} {b : List Int} {n : Nat} (h : LzSt w S g bm A N c b n) (k : Later w w1) : LzSt w1 S g bm A N c b n := by
  obtain ⟨M, hM⟩ := h.map
  exact ⟨Later.heap k h.cells, Kd.C_below h.read k, h.out, h.sg, h.sb, h.gb, fun i hi => Nat.lt_of_lt_of_le (h.bound i hi) (Later.size k), M, hM.later k⟩
theorem LzSt.c0 {w : World} {S : Nat → Prop} {g bm : Nat} {A : Option Addr} {N c : Nat} {b : List Int} {n : Nat} (h : LzSt w S g bm A N c b n) : w.cell? ⟨g, 0, none⟩ = some (.slice A N c) := by rw [blk_cell h.cells]; rfl
theorem LzSt.c1 {w : World} {S : Nat → Prop} {g bm : Nat} {A : Option Addr} {N c : Nat} {b : List Int} {n : Nat} (h : LzSt w S g bm A N c b n) : w.cell? ⟨g, 1, none⟩ = some (.map (some bm)) := by rw [blk_cell h.cells]; rfl
theorem LzSt.c2 {w : World} {S : Nat → Prop} {g bm : Nat} {A : Option Addr} {N c : Nat} {b : List Int} {n : Nat} (h : LzSt w S g bm A N c b n) : w.cell? ⟨g, 2, none⟩ = some (.int .i64 n) := by rw [blk_cell h.cells]; rfl
theorem LzMap.at_ {w : World} {S : Nat → Prop} {g bm : Nat} {b : List Int} {n : Nat} {M : List Int → Option Value} (h : LzMap w S g bm b n M) {ks : List Int} (hk : KeyB 4 ks) :
    OwI w ((M ks).getD (.slice none 0 0)) (occ b ks n) ∧ ∀ k, ((M ks).getD (.slice none 0 0)).ownBlock = some k → S k ∧ k ≠ g ∧ k ≠ bm := by
  rcases hM : M ks with _ | v
  · rw [h.nil_ ks hk hM]
    exact ⟨Kd.R_nil _ _ _ _ _, fun k hk => by simp [Value.ownBlock] at hk⟩
  · exact h.rows ks v hk hM
theorem rdI_lit (W : World) (x : Int) : RdI (W.alloc (.cells #[.int .i64 x] 3)) (some ⟨W.heap.size, 0, none⟩) 1 [x] := by
  refine Kd.C_of_reads (d := (0 : Int)) ⟨rfl, by simp, fun _ => ⟨_, rfl, fun j hj => ?_⟩⟩
  obtain rfl : j = 0 := by omega
  rw [add_plain, World.cell?_alloc_mark]
  rfl
section
variable {P : Program} {o : Oper} {a : Act}
theorem entry_exec {w w1 : World} (t : TypeId) (m x : Operand) (ho : o.op = .mapEntry t m x) {p q v : Value} (hm : a.eval m = p) (hx : a.eval x = q) (h : (Instr.mapEntry t p q).run P w = .ok v w1) : (execOp a.eval o).run P w = .ok (.value v) w1 := by
  unfold execOp
  simp only [ho, hm, hx, Sem.run_bind, h, Result.andThen_ok, Sem.run_pure]
theorem estore_exec {w w1 : World} (t : TypeId) (m s x : Operand) (ho : o.op = .entryStore t m s x) {p q v : Value} (hm : a.eval m = p) (hs : a.eval s = q) (hx : a.eval x = v) (h : (Instr.entryStore t p q v).run P w = .ok () w1) : (execOp a.eval o).run P w = .ok .skip w1 := by
  unfold execOp
  simp only [ho, hm, hs, hx, Sem.run_bind, h, Result.andThen_ok, Sem.run_pure]
theorem lookup_exec {w : World} (t : TypeId) (m x : Operand) (c : Bool) (ho : o.op = .lookup t m x c) {p q v : Value} (hm : a.eval m = p) (hx : a.eval x = q) (h : (Instr.lookup t p q c).run P w = .ok v w) : (execOp a.eval o).run P w = .ok (.value v) w := by
  unfold execOp
  simp only [ho, hm, hx, Sem.run_bind, h, Result.andThen_ok, Sem.run_pure]
end
theorem rng_rd {w : World} {g o n : Nat} {xs : List Int} (h : RdB w (some ⟨g, o, none⟩) n xs) : w.rangeAt g o (xs.map (Value.int .u8)) := by
  intro i v hv
  simp only [List.getElem?_map] at hv
  have hl := h.1
  rcases hx : xs[i]? with _ | x
  · rw [hx] at hv; cases hv
  · rw [hx] at hv
    obtain rfl := Option.some.inj hv
    have hi := (List.getElem?_eq_some_iff.1 hx).1
    have := rdB_at h i (by omega)
    rw [show (Addr.add ⟨g, o, none⟩ i) = ⟨g, o + i, none⟩ from by unfold Addr.add; split <;> simp_all] at this
    rw [this]
    simp [rd, List.getD_eq_getElem?_getD, hx]
theorem midL_win (b : List Int) (n : Nat) : midL b n (n + 4) = win b n := by
  unfold midL win
  rw [List.drop_take]
  congr 1
  omega
theorem size_k (ks : List Int) (h : ks.length = 4) : (Try.prog.info? 73).map (·.size) = some (ks.map (Value.int .u8)).length := by rw [List.length_map, h]; kernel_rfl
/-- The four bytes at n, as the code takes them. -/
theorem key_facts {w : World} {gb ob N c : Nat} {b : List Int} (h : RdB w (some ⟨gb, ob, none⟩) N b) (hc : N ≤ c) (n : Nat) (hn : n + 4 ≤ N) :
    ∃ A' c', (∀ W : World, (Instr.slice 22 (.slice (some ⟨gb, ob, none⟩) N c) (some (.int .i64 n)) (some (.int .i64 ((n : Int) + 4))) none).run Try.prog W = .ok (.slice A' 4 c') W) ∧
      (∀ W : World, (Instr.arrayAt 73 (.slice A' 4 c')).run Try.prog W = .ok (.pointer A') W) ∧
      ∀ W, Later w W → (Instr.loadAt 73 (.pointer A')).run Try.prog W = .ok (keyV (win b n)) W := by
  have hl := h.1
  have e2 : ((n : Int) + 4).toNat = n + 4 := by omega
  obtain ⟨h1, h2⟩ := cutMid h hc (n : Int) ((n : Int) + 4) (by omega) (by omega) (by omega)
  rw [e2, Int.toNat_natCast, if_neg (by omega), Nat.add_sub_cancel_left] at h1 h2
  rw [midL_win] at h2
  have hA : Option.map (fun x => x.add n) (some (⟨gb, ob, none⟩ : Addr)) = some ⟨gb, ob + n, none⟩ := by
    show some (Addr.add ⟨gb, ob, none⟩ n) = _
    congr 1
    unfold Addr.add
    split <;> simp_all
  rw [hA] at h1 h2
  refine ⟨_, _, h1, fun W => run_arrayAt W 73 _ 4 _ 4 _ Try.underlying73 (Nat.le_refl _), fun W hW => ?_⟩
  have hk : (win b n).length = 4 := by unfold win; rw [List.length_take, List.length_drop]; omega
  exact run_loadAt_mid W gb (ob + n) 73 _ _ (rng_rd (Kd.C_below h2 hW)) Try.underlying73 rfl (size_k _ hk)
theorem u8_one (ks : List Int) : ∀ v ∈ ks.map (Value.int .u8), v.oneCell' = true := fun v hv => by
  obtain ⟨x, _, rfl⟩ := List.mem_map.1 hv
  rfl
def nOf (w : World) (g : Nat) : Nat := (intOf ((w.cell? ⟨g, 2, none⟩).getD undef)).toNat
theorem LzSt.nOf {w : World} {S : Nat → Prop} {g bm : Nat} {A : Option Addr} {N c : Nat} {b : List Int} {n : Nat} (h : LzSt w S g bm A N c b n) : nOf w g = n := by
  unfold Go.Proofs.Ytcbcoaafdggniaa.nOf
  rw [h.c2]
  rfl
def UpInv (w : World) (S : Nat → Prop) (g bm : Nat) (A : Option Addr) (N c : Nat) (b : List Int) (n i : Nat) (wr : World) : Prop := ∃ n' S', n ≤ n' ∧ n' ≤ i ∧ LzSt wr S' g bm A N c b n' ∧ Fr w wr S ∧ ∀ k, S' k → S k ∨ w.heap.size ≤ k
set_option maxRecDepth 20000 in
set_option maxHeartbeats 1600000 in
theorem upto_calls (S : Nat → Prop) (g bm gb ob N c : Nat) (b : List Int) (n i : Nat) (w : World) (h : LzSt w S g bm (some ⟨gb, ob, none⟩) N c b n) (hb : Bytes b) (hcN : N ≤ c) (hn : n ≤ i) (hi : i + 4 ≤ N) (hN : N ≤ 1099511627776) :
    Calls Try.prog 39 #[.pointer (some ⟨g, 0, none⟩), .int .i64 i] w fun e w' => e = .returned (.tuple #[]) ∧ UpInv w S g bm (some ⟨gb, ob, none⟩) N c b i i w' := by
  have HS := Aside0.mk h
  clear h
  go_enter Try.func39, Try.ntmps39
  go_wp2
  go_loopw [4] (fun _ wr => UpInv w S g bm (some ⟨gb, ob, none⟩) N c b n i wr) (fun _ wr => i - nOf wr g)
  case atStart => exact ⟨n, S, Nat.le_refl _, hn, HS.out, Fr.refl _ _, fun k hk => .inl hk⟩
  case round =>
    obtain ⟨n', S', h1, h2, hst, hfr, hsub⟩ := hrel
    have HST := Aside0.mk hst
    have HFR := Aside0.mk hfr
    have HSUB := Aside0.mk hsub
    have c0 := hst.c0
    have c2 := hst.c2
    clear hst hfr hsub
    by_cases hlt : n' < i
    · have hltI : (n' : Int) < (i : Int) := by omega
      have hleI : (n' : Int) + 4 ≤ (N : Int) := by omega
      go_wp2_with fail
      go_quiet (fail)
      clear c0 c2
      obtain ⟨w1, hw1, K1⟩ : ∃ w1, w1 = wr.drewN nq ∧ Aside0 (Later wr w1) := ⟨_, rfl, ⟨drewN_below wr nq⟩⟩
      rw [← hw1]
      clear hw1
      have HST1 := Aside0.mk (HST.out.later K1.out)
      have HD := Aside0.mk (HST1.out.later (Below.drew (Later.refl w1)))
      obtain ⟨M, hM⟩ := HST1.out.map
      have HM := Aside0.mk hM
      clear hM
      obtain ⟨A', c', hsl, hat, hld⟩ := key_facts HD.out.read hcN n' (by omega)
      have HLD := Aside0.mk hld
      have HC0 := Aside0.mk HD.out.c0
      have HC2 := Aside0.mk HD.out.c2
      clear hld
      have hwr : wrap64 ((n' : Int) + 4) = (n' : Int) + 4 := by unfold wrap64; omega
      go_wp2_with fail
      refine seq_start [17] (.take 0 (.take 1 (.take 2 (.take 3 (.take 4 (.take 5 (.take 6 (.take 7 (.take 8 (.take 9 (.take 10 (.take 11 (.take 12 (.take 13 (.take 14 (.take 15 (.run 16 (.run 17 .done)))))))))))))))))) (by kernel_rfl) (by kernel_rfl) (fun _ _ d _ _ h => by cases d <;> exact h) ?_
      refine seq_take (v := ?_) (a' := ?_) rfl rfl (by rfl) (fun w' hw' => ?_) ?_ ?_
      rotate_left 2
      · go_simp
        with_reducible rfl
      · simp only [Act.put, List.setIfInBounds_toArray, List.set_cons_zero, List.set_cons_succ, Go.Proofs.YtcbcoaafdggniaaW.PrintLast.i64_w, Go.Proofs.YtcbcoaafdggniaaW.PrintLast.i32_w]
        rfl
      refine seq_take (v := ?_) (a' := ?_) rfl rfl (by rfl) (fun w' hw' => ?_) ?_ ?_
      rotate_left 2
      · go_simp
        with_reducible rfl
      · simp only [Act.put, List.setIfInBounds_toArray, List.set_cons_zero, List.set_cons_succ, Go.Proofs.YtcbcoaafdggniaaW.PrintLast.i64_w, Go.Proofs.YtcbcoaafdggniaaW.PrintLast.i32_w]
        rfl
      refine seq_take (v := ?_) (a' := ?_) rfl rfl (by rfl) (fun w' hw' => ?_) ?_ ?_
      rotate_left 2
      · go_simp
        with_reducible rfl
      · simp only [Act.put, List.setIfInBounds_toArray, List.set_cons_zero, List.set_cons_succ, Go.Proofs.YtcbcoaafdggniaaW.PrintLast.i64_w, Go.Proofs.YtcbcoaafdggniaaW.PrintLast.i32_w]
        rfl
      refine seq_take (v := ?_) (a' := ?_) rfl rfl (by rfl) (fun w' hw' => ?_) ?_ ?_
      rotate_left 2
      · have hq := pw_cell_below hw' HC0.out; go_simp
        with_reducible rfl
      · simp only [Act.put, List.setIfInBounds_toArray, List.set_cons_zero, List.set_cons_succ, Go.Proofs.YtcbcoaafdggniaaW.PrintLast.i64_w, Go.Proofs.YtcbcoaafdggniaaW.PrintLast.i32_w]
        rfl
      refine seq_take (v := ?_) (a' := ?_) rfl rfl (by rfl) (fun w' hw' => ?_) ?_ ?_
      rotate_left 2
      · go_simp
        with_reducible rfl
      · simp only [Act.put, List.setIfInBounds_toArray, List.set_cons_zero, List.set_cons_succ, Go.Proofs.YtcbcoaafdggniaaW.PrintLast.i64_w, Go.Proofs.YtcbcoaafdggniaaW.PrintLast.i32_w]
        rfl
      refine seq_take (v := ?_) (a' := ?_) rfl rfl (by rfl) (fun w' hw' => ?_) ?_ ?_
      rotate_left 2
      · go_simp
        with_reducible rfl
      · simp only [Act.put, List.setIfInBounds_toArray, List.set_cons_zero, List.set_cons_succ, Go.Proofs.YtcbcoaafdggniaaW.PrintLast.i64_w, Go.Proofs.YtcbcoaafdggniaaW.PrintLast.i32_w]
        rfl
      refine seq_take (v := ?_) (a' := ?_) rfl rfl (by rfl) (fun w' hw' => ?_) ?_ ?_
      rotate_left 2
      · go_simp
        with_reducible rfl
      · simp only [Act.put, List.setIfInBounds_toArray, List.set_cons_zero, List.set_cons_succ, Go.Proofs.YtcbcoaafdggniaaW.PrintLast.i64_w, Go.Proofs.YtcbcoaafdggniaaW.PrintLast.i32_w]
        rfl
      refine seq_take (v := ?_) (a' := ?_) rfl rfl (by rfl) (fun w' hw' => ?_) ?_ ?_
      rotate_left 2
      · have hq := pw_cell_below hw' HC2.out; go_simp
        with_reducible rfl
      · simp only [Act.put, List.setIfInBounds_toArray, List.set_cons_zero, List.set_cons_succ, Go.Proofs.YtcbcoaafdggniaaW.PrintLast.i64_w, Go.Proofs.YtcbcoaafdggniaaW.PrintLast.i32_w]
        rfl
      refine seq_take (v := ?_) (a' := ?_) rfl rfl (by rfl) (fun w' hw' => ?_) ?_ ?_
      rotate_left 2
      · go_simp
        with_reducible rfl
      · simp only [Act.put, List.setIfInBounds_toArray, List.set_cons_zero, List.set_cons_succ, Go.Proofs.YtcbcoaafdggniaaW.PrintLast.i64_w, Go.Proofs.YtcbcoaafdggniaaW.PrintLast.i32_w]
        rfl
      refine seq_take (v := ?_) (a' := ?_) rfl rfl (by rfl) (fun w' hw' => ?_) ?_ ?_
      rotate_left 2
      · go_simp
        with_reducible rfl
      · simp only [Act.put, List.setIfInBounds_toArray, List.set_cons_zero, List.set_cons_succ, Go.Proofs.YtcbcoaafdggniaaW.PrintLast.i64_w, Go.Proofs.YtcbcoaafdggniaaW.PrintLast.i32_w]
        rfl
      refine seq_take (v := ?_) (a' := ?_) rfl rfl (by rfl) (fun w' hw' => ?_) ?_ ?_
      rotate_left 2
      · go_simp
        with_reducible rfl
      · simp only [Act.put, List.setIfInBounds_toArray, List.set_cons_zero, List.set_cons_succ, Go.Proofs.YtcbcoaafdggniaaW.PrintLast.i64_w, Go.Proofs.YtcbcoaafdggniaaW.PrintLast.i32_w]
        rfl
      refine seq_take (v := ?_) (a' := ?_) rfl rfl (by rfl) (fun w' hw' => ?_) ?_ ?_
      rotate_left 2
      · have hq := pw_cell_below hw' HC2.out; go_simp
        with_reducible rfl
      · simp only [Act.put, List.setIfInBounds_toArray, List.set_cons_zero, List.set_cons_succ, Go.Proofs.YtcbcoaafdggniaaW.PrintLast.i64_w, Go.Proofs.YtcbcoaafdggniaaW.PrintLast.i32_w]
        rfl
      refine seq_take (v := ?_) (a' := ?_) rfl rfl (by rfl) (fun w' hw' => ?_) ?_ ?_
      rotate_left 2
      · go_simp
        with_reducible rfl
      · simp only [Act.put, List.setIfInBounds_toArray, List.set_cons_zero, List.set_cons_succ, Go.Proofs.YtcbcoaafdggniaaW.PrintLast.i64_w, Go.Proofs.YtcbcoaafdggniaaW.PrintLast.i32_w]
        rfl
      refine seq_take (v := ?_) (a' := ?_) rfl rfl (by rfl) (fun w' hw' => ?_) ?_ ?_
      rotate_left 2
      · go_simp
        with_reducible rfl
      · simp only [Act.put, List.setIfInBounds_toArray, List.set_cons_zero, List.set_cons_succ, Go.Proofs.YtcbcoaafdggniaaW.PrintLast.i64_w, Go.Proofs.YtcbcoaafdggniaaW.PrintLast.i32_w]
        rfl
      refine seq_take (v := ?_) (a' := ?_) rfl rfl (by rfl) (fun w' hw' => ?_) ?_ ?_
      rotate_left 2
      · go_simp
        with_reducible rfl
      · simp only [Act.put, List.setIfInBounds_toArray, List.set_cons_zero, List.set_cons_succ, Go.Proofs.YtcbcoaafdggniaaW.PrintLast.i64_w, Go.Proofs.YtcbcoaafdggniaaW.PrintLast.i32_w]
        rfl
      refine seq_take (v := _) (a' := ?_) rfl rfl (by rfl) (fun w' hw' => load_run rfl rfl (HLD.out w' hw')) ?_ ?_
      rotate_left
      · simp only [Act.put, List.setIfInBounds_toArray, List.set_cons_zero, List.set_cons_succ, Go.Proofs.YtcbcoaafdggniaaW.PrintLast.i64_w, Go.Proofs.YtcbcoaafdggniaaW.PrintLast.i32_w]
        rfl
      refine seq_run ?_
      refine do_val (v := ?_) (a' := ?_) (w1 := ?_) rfl rfl (by rfl) ?_ ?_ ?_
      rotate_left 3
      · go_simp
        constructor <;> rfl
      · simp only [Act.put, List.setIfInBounds_toArray, List.set_cons_zero, List.set_cons_succ, Go.Proofs.YtcbcoaafdggniaaW.PrintLast.i64_w, Go.Proofs.YtcbcoaafdggniaaW.PrintLast.i32_w]
        rfl
      refine ⟨fun _ => below_alloc (Below.refl _ _) _, ?_⟩
      have hk4 : (win b n').length = 4 := by unfold win; rw [List.length_take, List.length_drop, HD.out.read.1]; omega
      refine seq_run ?_
      refine do_blk rfl rfl (by rfl) 73 (.tmp 4) (.tmp 46) rfl rfl rfl (blk_new w1.drew _) (by rw [List.length_map, hk4]; rfl) (size_k _ hk4) (u8_one _) ?_
      rintro w3 HS3
      refine ⟨fun h => absurd (by simp) h, ?_⟩
      refine seq_end ?_
      have K3 : Aside0 (Later w1 w3) := ⟨(Below.alloc (Below.drew (Below.refl w1.heap.size w1)) (Nat.le_refl _) _).trans (HS3.below (Nat.le_refl _))⟩
      have HK3 := Aside0.mk HS3.at_
      clear hsl hat HLD HC0 HC2 HD HS3
      have HD3 := Aside0.mk (HST1.out.later (K3.out.trans (Below.drew (Later.refl w3))))
      have HC1 := Aside0.mk HD3.out.c1
      have HC2 := Aside0.mk HD3.out.c2
      have HK3d : Aside0 (w3.drew.heap[w1.drew.heap.size]? = some (.cells ((win b n').map (Value.int .u8)).toArray 73 (0, 0))) := ⟨HK3.out⟩
      clear HK3
      go_wp2_with fail
      refine seq_start [10, 12, 14] (.take 4 (.take 0 (.take 1 (.take 2 (.take 3 (.take 5 (.take 6 (.take 7 (.take 8 (.run 9 (.run 10 (.pure 11 (.pure 13 (.run 12 (.run 14 .done))))))))))))))) (by kernel_rfl) (by kernel_rfl) (fun _ _ d _ _ h => by cases d <;> exact h) ?_
      refine seq_take (v := _) (a' := ?_) rfl rfl (by rfl) (fun w' hw' => load_run rfl rfl (ld_row (hw'.heap HK3d.out) 73 _ Try.underlying73 rfl (by rw [List.size_toArray]; exact size_k _ hk4))) ?_ ?_
      rotate_left
      · simp only [Act.put, List.setIfInBounds_toArray, List.set_cons_zero, List.set_cons_succ, Go.Proofs.YtcbcoaafdggniaaW.PrintLast.i64_w, Go.Proofs.YtcbcoaafdggniaaW.PrintLast.i32_w]
        rfl
      refine seq_take (v := ?_) (a' := ?_) rfl rfl (by rfl) (fun w' hw' => ?_) ?_ ?_
      rotate_left 2
      · go_simp
        with_reducible rfl
      · simp only [Act.put, List.setIfInBounds_toArray, List.set_cons_zero, List.set_cons_succ, Go.Proofs.YtcbcoaafdggniaaW.PrintLast.i64_w, Go.Proofs.YtcbcoaafdggniaaW.PrintLast.i32_w]
        rfl
      refine seq_take (v := ?_) (a' := ?_) rfl rfl (by rfl) (fun w' hw' => ?_) ?_ ?_
      rotate_left 2
      · go_simp
        with_reducible rfl
      · simp only [Act.put, List.setIfInBounds_toArray, List.set_cons_zero, List.set_cons_succ, Go.Proofs.YtcbcoaafdggniaaW.PrintLast.i64_w, Go.Proofs.YtcbcoaafdggniaaW.PrintLast.i32_w]
        rfl
      refine seq_take (v := ?_) (a' := ?_) rfl rfl (by rfl) (fun w' hw' => ?_) ?_ ?_
      rotate_left 2
      · go_simp
        with_reducible rfl
      · simp only [Act.put, List.setIfInBounds_toArray, List.set_cons_zero, List.set_cons_succ, Go.Proofs.YtcbcoaafdggniaaW.PrintLast.i64_w, Go.Proofs.YtcbcoaafdggniaaW.PrintLast.i32_w]
        rfl
      refine seq_take (v := ?_) (a' := ?_) rfl rfl (by rfl) (fun w' hw' => ?_) ?_ ?_
      rotate_left 2
      · have hq := pw_cell_below hw' HC1.out; go_simp
        with_reducible rfl
      · simp only [Act.put, List.setIfInBounds_toArray, List.set_cons_zero, List.set_cons_succ, Go.Proofs.YtcbcoaafdggniaaW.PrintLast.i64_w, Go.Proofs.YtcbcoaafdggniaaW.PrintLast.i32_w]
        rfl
      refine seq_take (v := ?_) (a' := ?_) rfl rfl (by rfl) (fun w' hw' => ?_) ?_ ?_
      rotate_left 2
      · go_simp
        with_reducible rfl
      · simp only [Act.put, List.setIfInBounds_toArray, List.set_cons_zero, List.set_cons_succ, Go.Proofs.YtcbcoaafdggniaaW.PrintLast.i64_w, Go.Proofs.YtcbcoaafdggniaaW.PrintLast.i32_w]
        rfl
      refine seq_take (v := ?_) (a' := ?_) rfl rfl (by rfl) (fun w' hw' => ?_) ?_ ?_
      rotate_left 2
      · go_simp
        with_reducible rfl
      · simp only [Act.put, List.setIfInBounds_toArray, List.set_cons_zero, List.set_cons_succ, Go.Proofs.YtcbcoaafdggniaaW.PrintLast.i64_w, Go.Proofs.YtcbcoaafdggniaaW.PrintLast.i32_w]
        rfl
      refine seq_take (v := ?_) (a' := ?_) rfl rfl (by rfl) (fun w' hw' => ?_) ?_ ?_
      rotate_left 2
      · go_simp
        with_reducible rfl
      · simp only [Act.put, List.setIfInBounds_toArray, List.set_cons_zero, List.set_cons_succ, Go.Proofs.YtcbcoaafdggniaaW.PrintLast.i64_w, Go.Proofs.YtcbcoaafdggniaaW.PrintLast.i32_w]
        rfl
      refine seq_take (v := ?_) (a' := ?_) rfl rfl (by rfl) (fun w' hw' => ?_) ?_ ?_
      rotate_left 2
      · have hq := pw_cell_below hw' HC2.out; go_simp
        with_reducible rfl
      · simp only [Act.put, List.setIfInBounds_toArray, List.set_cons_zero, List.set_cons_succ, Go.Proofs.YtcbcoaafdggniaaW.PrintLast.i64_w, Go.Proofs.YtcbcoaafdggniaaW.PrintLast.i32_w]
        rfl
      refine seq_run ?_
      refine do_val (v := ?_) (a' := ?_) (w1 := ?_) rfl rfl (by rfl) ?_ ?_ ?_
      rotate_left 3
      · go_simp
        constructor <;> rfl
      · simp only [Act.put, List.setIfInBounds_toArray, List.set_cons_zero, List.set_cons_succ, Go.Proofs.YtcbcoaafdggniaaW.PrintLast.i64_w, Go.Proofs.YtcbcoaafdggniaaW.PrintLast.i32_w]
        rfl
      refine ⟨fun _ => below_alloc (Below.refl _ _) _, ?_⟩
      obtain ⟨W, hW, KW⟩ : ∃ W, Aside0 (W = (w3.alloc (.cells #[.int .i64 n'] 3)).drew) ∧ Aside0 (Later w3 W) := ⟨_, ⟨rfl⟩, ⟨Below.drew (below_alloc (Later.refl w3) _)⟩⟩
      have HRI : Aside0 (RdI W (some ⟨w3.heap.size, 0, none⟩) 1 [(n' : Int)]) := ⟨by rw [hW.out]; exact Kd.C_drew (rdI_lit _ _)⟩
      rw [← hW.out]
      have HMW := Aside0.mk (HM.out.later (K3.out.trans KW.out))
      have hkb : KeyB 4 (win b n') := win_key hb (by rw [HST1.out.read.1]; omega)
      obtain ⟨st, o, w4, hE, hS4, hES⟩ := MapIs.entry keyOk4 HMW.out.is Try.underlying65 zeroSI hkb
      obtain ⟨hO0, hblk⟩ := HMW.out.at_ hkb
      have hO4 : OwI w4 ((M (win b n')).getD (.slice none 0 0)) (occ b (win b n') n') := ((Fr.refl W (fun k => k = bm)).set hS4 (.inl rfl)).own hO0 (fun k hk e => (hblk k hk).2.2 e)
      have hR4 : RdI w4 (some ⟨w3.heap.size, 0, none⟩) 1 [(n' : Int)] := by
        refine Kd.C_of_reads (d := (0 : Int)) ?_
        have hr := Kd.reads_of_C (d := (0 : Int)) HRI.out
        refine ⟨hr.1, hr.2.1, fun hp => ?_⟩
        obtain ⟨ad, he, hc⟩ := hr.2.2 hp
        refine ⟨ad, he, fun j hj => ?_⟩
        injection he with he
        subst he
        have hne : w3.heap.size ≠ bm := by have h1 := HST1.out.bound bm HST1.out.sb; have h2 := Later.size K3.out; omega
        rw [World.cell?_of_block (hS4.else_ _ (by rw [add_blk]; exact hne))]
        exact hc j hj
      refine seq_run ?_
      refine do_val (v := _) (a' := ?_) (w1 := w4) rfl rfl (by rfl) (entry_exec _ _ _ rfl rfl rfl hE) ?_ ?_
      rotate_left
      · simp only [Act.put, List.setIfInBounds_toArray, List.set_cons_zero, List.set_cons_succ]
        rfl
      refine ⟨fun h => absurd (by simp) h, ?_⟩
      generalize hv0 : (M (win b n')).getD (.slice none 0 0) = v0 at *
      refine seq_pure (v := ?_) (a' := ?_) rfl rfl (by rfl) (fun w' => ?_) ?_ ?_
      rotate_left 2
      · go_simp
        with_reducible rfl
      · simp only [Act.put, List.setIfInBounds_toArray, List.set_cons_zero, List.set_cons_succ, Go.Proofs.YtcbcoaafdggniaaW.PrintLast.i64_w, Go.Proofs.YtcbcoaafdggniaaW.PrintLast.i32_w]
        rfl
      refine seq_pure (v := ?_) (a' := ?_) rfl rfl (by rfl) (fun w' => ?_) ?_ ?_
      rotate_left 2
      · go_simp
        with_reducible rfl
      · simp only [Act.put, List.setIfInBounds_toArray, List.set_cons_zero, List.set_cons_succ, Go.Proofs.YtcbcoaafdggniaaW.PrintLast.i64_w, Go.Proofs.YtcbcoaafdggniaaW.PrintLast.i32_w]
        rfl
      refine seq_run ?_
      refine do_appI rfl rfl (by rfl) (.tmp 52) (.tmp 57) rfl v0 _ _ _ _ _ rfl rfl hO4 hR4 (by have := occ_len b (win b n') n'; omega) ?_
      intro v5 w5 hO5 _ hg5 hl5
      simp only [Act.put, List.setIfInBounds_toArray, List.set_cons_zero, List.set_cons_succ]
      refine ⟨fun h => absurd (by simp) h, ?_⟩
      have hm5 : w5.heap[bm]? = some o := (hg5.block bm (blk_lt hS4.at_) (fun e => (hblk bm e.symm).2.2 rfl)).trans hS4.at_
      obtain ⟨o2, w6, hE6, hS6, hM6⟩ := hES w5 v5 hm5
      refine seq_run ?_
      refine do_store (w1 := w6) rfl rfl (by rfl) (estore_exec _ _ _ _ rfl rfl rfl rfl hE6) ?_
      refine ⟨fun h => absurd (by simp) h, ?_⟩
      refine seq_end ?_
      clear hE hES hE6
      have g6 : w6.heap[g]? = some (.cells #[.slice (some ⟨gb, ob, none⟩) N c, .map (some bm), .int .i64 n'] 67 (0, 0)) := by
        have hg1 := HST1.out.sg
        have hW1 := Later.heap (K3.out.trans KW.out) HST1.out.cells
        rw [hS6.else_ _ HST1.out.gb, hg5.block g (by rw [hS4.size]; exact blk_lt hW1) (fun e => (hblk g e.symm).2.1 rfl), hS4.else_ _ HST1.out.gb]
        exact hW1
      have c2 : w6.cell? ⟨g, 2, none⟩ = some (.int .i64 n') := by rw [blk_cell g6]; rfl
      have f2 := blk_frozen g6 2
      have KF : Aside0 (∀ w7, SetBlk w6 w7 g (.cells #[.slice (some ⟨gb, ob, none⟩) N c, .map (some bm), .int .i64 ((n' + 1 : Nat) : Int)] 67 (0, 0)) →
          LzSt w7 (fun k => S' k ∨ (w1.heap.size ≤ k ∧ k < w7.heap.size)) g bm (some ⟨gb, ob, none⟩) N c b (n' + 1) ∧ Fr w1 w7 S') := ⟨fun w7 h7 => by
        refine HST1.out.round HM.out hb (by rw [HST1.out.read.1]; omega) (K3.out.trans KW.out) hS4 hO5 ?_ ?_ hS6 hM6 h7
        · rw [hv0]; exact hg5
        · rw [hv0]; exact hl5⟩
      have G6 := Aside0.mk g6
      clear hO0 hblk hO4 hR4 hO5 hg5 hl5 hm5 hS6 hM6 hS4 HRI g6
      have K7 : Aside0 (SetBlk w6 (w6.setCell ⟨g, 2, none⟩ (.int .i64 ((n' : Int) + 1))) g (.cells #[.slice (some ⟨gb, ob, none⟩) N c, .map (some bm), .int .i64 ((n' + 1 : Nat) : Int)] 67 (0, 0))) := ⟨by
        have h7 := setBlk_cell G6.out (.int .i64 ((n' : Int) + 1)) (i := 2)
        simpa using h7⟩
      go_wp2
      go_roundw
      case rel =>
        obtain ⟨k1, k2⟩ := KF.out _ K7.out
        refine ⟨n' + 1, _, by omega, by omega, k1, (HFR.out.call K1.out).next k2 HSUB.out, ?_⟩
        rintro k (hk | hk)
        · exact HSUB.out k hk
        · have := HFR.out.size
          have := Later.size K1.out
          exact .inr (by omega)
      case measure =>
        rw [(KF.out _ K7.out).1.nOf, HST.out.nOf]
        omega
    · obtain rfl : n' = i := by omega
      have hltI : decide ((n' : Int) < (n' : Int)) = false := decide_eq_false (by omega)
      go_wp2_with fail
      go_quiet (fail)
      go_wp2
      (try simp only [Exit.inBlock, Exit.then])
      refine bodyPost_end (results_none rfl _ _ _) rfl ?_
      exact ⟨rfl, n', S', Nat.le_refl _, Nat.le_refl _, HST.out.later (drewN_below wr nq), HFR.out.call (drewN_below wr nq), HSUB.out⟩
end Go.Proofs.Ytcbcoaafdggniaa
