/- Contract of the finder's match. Conditions: its own. -/
import Derived.Test.YtcbcoaafdggniaaLz4
import Derived.RangeFuncBox
namespace Go.Proofs.Ytcbcoaafdggniaa
open Go.RowKit Go.Shelf Go.Proofs.YtcbcoaafdggniaaW.PrintWords Go.Proofs.YtcbcoaafdggniaaW.PrintMore
set_option linter.unusedVariables false
set_option linter.unusedSimpArgs false
attribute [local go_sem] Oper.semAt_some
/-- One place is looked at. -/
def mstep (b : List Int) (i : Nat) (best : Int × Int) (x : Int × Int) : Int × Int := if best.1 < (runL b i x.2.toNat : Int) then ((runL b i x.2.toNat : Int), (i : Int) - x.2) else best
def mst (b : List Int) (i : Nat) (pre : List (Int × Int)) : Int × Int := pre.foldl (mstep b i) (0, 0)
theorem mst_snoc (b : List Int) (i : Nat) (pre : List (Int × Int)) (x : Int × Int) : mst b i (pre ++ [x]) = mstep b i (mst b i pre) x := by simp [mst]
/-- A place with its number, told by the iterator. -/
abbrev Pos (i : Nat) : Type := { x : Int × Int // 0 ≤ x.2 ∧ x.2 ≤ i }
def encP (i : Nat) (x : Pos i) : Array Value := #[Value.int .i64 x.1.1, Value.int .i64 x.1.2]
def msts (b : List Int) (i : Nat) (pre : List (Pos i)) : Int × Int := mst b i (pre.map fun x => x.1)
theorem msts_snoc (b : List Int) (i : Nat) (pre : List (Pos i)) (x : Pos i) : msts b i (pre ++ [x]) = mstep b i (msts b i pre) x.1 := by simp [msts, mst]
/-- What the places zs tell: those from behind, as long as none is too far. -/
def MRes (b : List Int) (i : Nat) (zs : List Int) (r : Int × Int) : Prop :=
  ∃ k, k ≤ zs.length ∧ r = mst b i (uptoF (backAt zs) k) ∧ (∀ p ∈ uptoF (backAt zs) k, (i : Int) - p.2 ≤ 1024) ∧ (k = zs.length ∨ 1024 < (i : Int) - (backAt zs k).2)
theorem occ_range (b ks : List Int) (i : Nat) (j : Int) : 0 ≤ rd (occ b ks i) j ∧ rd (occ b ks i) j ≤ i := by
  unfold Go.Proofs.YtcbcoaafdggniaaW.PrintWords.rd
  rw [List.getD_eq_getElem?_getD]
  rcases hx : (occ b ks i)[j.toNat]? with _ | x
  · simp
  · have hm := List.mem_of_getElem? hx
    unfold occ at hm
    obtain ⟨p, hp, rfl⟩ := List.mem_map.1 hm
    have := List.mem_range.1 (List.mem_filter.1 hp).1
    simp
    omega
def posAt (b ks : List Int) (i : Nat) (j : Nat) : Pos i := ⟨backAt (occ b ks i) j, occ_range b ks i _⟩
theorem posAt_val (b ks : List Int) (i k : Nat) : (uptoF (posAt b ks i) k).map (fun x => x.1) = uptoF (backAt (occ b ks i)) k := by simp [uptoF, posAt]
theorem mem_upto {i : Nat} {b ks : List Int} {k : Nat} {p : Int × Int} (h : p ∈ uptoF (backAt (occ b ks i)) k) : ∃ q ∈ uptoF (posAt b ks i) k, q.1 = p := by
  rw [← posAt_val] at h
  obtain ⟨q, hq, e⟩ := List.mem_map.1 h
  exact ⟨q, hq, e⟩
/-- The two variables, and all else as it was. -/
structure MI (w5 : World) (p6 p7 : Nat) (r : Int × Int) (W : World) : Prop where
  n : W.heap[p6]? = some (.cells #[.int .i64 r.1] 3 (0, 0))
  d : W.heap[p7]? = some (.cells #[.int .i64 r.2] 3 (0, 0))
  fr : Fr w5 W (fun k => k = p6 ∨ k = p7)
theorem MI.turn {w5 A B : World} {p6 p7 : Nat} {r : Int × Int} {row : Option Nat} (h : MI w5 p6 p7 r A) (h6 : p6 < w5.heap.size) (h7 : p7 < w5.heap.size) (hg : A.grownBy B row) (hr : ∀ q, row = some q → w5.heap.size ≤ q) : MI w5 p6 p7 r B :=
  ⟨heap_grown hg hr h6 h.n, heap_grown hg hr h7 h.d, h.fr.turn hg hr⟩
theorem MI.later {w5 A B : World} {p6 p7 : Nat} {r : Int × Int} (h : MI w5 p6 p7 r A) (k : Later A B) : MI w5 p6 p7 r B := ⟨Later.heap k h.n, Later.heap k h.d, h.fr.call k⟩
def Near (i : Nat) (pre : List (Pos i)) : Prop := ∀ p ∈ pre, (i : Int) - p.1.2 ≤ 1024
theorem store_int {W : World} {g : Nat} {v : Int} (h : W.heap[g]? = some (.cells #[.int .i64 v] 3 (0, 0))) (x : Int) :
    ∃ W1, (Instr.storeAt 3 (.pointer (some ⟨g, 0, none⟩)) (.int .i64 x)).run Try.prog W = .ok () W1 ∧ SetBlk W W1 g (.cells #[.int .i64 x] 3 (0, 0)) := by
  have hc : W.cell? ⟨g, 0, none⟩ = some (.int .i64 v) := by rw [blk_cell h]; rfl
  have hf := blk_frozen h 0
  have h2 := setBlk_cell h (.int .i64 x) (i := 0)
  refine ⟨W.setCell ⟨g, 0, none⟩ (.int .i64 x), ?_, by simpa using h2⟩
  clear h h2
  go_simp
theorem OwI.form {w : World} {v : Value} {zs : List Int} (h : OwI w v zs) : ∃ A c q, v = .slice A zs.length c ∧ (0 < zs.length → A = some ⟨q, 0, none⟩ ∧ v.ownBlock = some q ∧ q < w.heap.size) ∧ (zs.length = 0 → q = 0) ∧ ∀ j : Nat, j < zs.length → w.cell? ⟨q, j, none⟩ = some (.int .i64 (rd zs j)) := by
  rcases Nat.eq_zero_or_pos zs.length with h0 | h0
  · obtain ⟨A, c, rfl, _, _⟩ := Kd.R_reads h
    exact ⟨A, c, 0, rfl, fun hp => absurd hp (by omega), fun _ => rfl, fun j hj => absurd hj (by omega)⟩
  · obtain ⟨g, cap, he, _, hl, _⟩ := Kd.R_form h h0
    subst he
    refine ⟨_, _, g, rfl, fun _ => ⟨rfl, rfl, hl⟩, fun h => absurd h (by omega), fun j hj => ?_⟩
    have := (Kd.R_cell (0 : Int) h (j : Int) (by omega) (by omega)).1
    rwa [Int.toNat_natCast] at this
theorem MapIs.look0 {P : Program} {K : TypeId} {n : Nat} (H : KeyOk P K n) {w : World} {b : Nat} {M : List Int → Option Value} (h : MapIs w b n M) {t E : TypeId} (ht : P.underlying t = some (.map K E)) {z : Value} (hz : (zeroValue E).run P w = .ok z w) {ks : List Int} (hk : KeyB n ks) :
    (Instr.lookup t (.map (some b)) (keyV ks) false).run P w = .ok ((M ks).getD z) w := by
  rw [h.look H ht hz hk false]
  cases M ks <;> rfl
set_option maxRecDepth 20000 in
set_option maxHeartbeats 3200000 in
theorem match_calls (S : Nat → Prop) (g bm gb ob N c : Nat) (b : List Int) (n i : Nat) (w : World) (h : LzSt w S g bm (some ⟨gb, ob, none⟩) N c b n) (hb : Bytes b) (hcN : N ≤ c) (hn : n ≤ i) (hi : i ≤ N) (hN : N ≤ 1099511627776) (hi4 : i + 4 ≤ N) :
    Calls Try.prog 35 #[.pointer (some ⟨g, 0, none⟩), .int .i64 i] w fun e w' => ∃ r, e = .returned (.tuple #[.int .i64 r.1, .int .i64 r.2]) ∧ MRes b i (occ b (win b i) i) r ∧ UpInv w S g bm (some ⟨gb, ob, none⟩) N c b i i w' := by
  have HS := Aside0.mk h
  clear h
  refine calls_of_wp_m Try.func35 rfl ?_
  simp only [Try.ntmps35, List.size_toArray, List.length_cons, List.length_nil, Nat.reduceAdd, Nat.reduceSub, Array.replicate_succ, Array.replicate_zero, List.push_toArray, List.append_toArray, List.nil_append, List.cons_append]
  go_wp2_with fail
  obtain ⟨w1, hw1, K1, B2, B3⟩ : ∃ w1, w1 = (w.alloc (.cells #[.pointer (some ⟨g, 0, none⟩)] 58)).alloc (.cells #[.int .i64 i] 3) ∧ Aside0 (Later w w1) ∧ Aside0 (w1.heap[w.heap.size]? = some (.cells #[.pointer (some ⟨g, 0, none⟩)] 58 (0, 0))) ∧ Aside0 (w1.heap[w.heap.size + 1]? = some (.cells #[.int .i64 i] 3 (0, 0))) :=
    ⟨_, rfl, ⟨((Below.refl _ w).alloc (Nat.le_refl _) _).alloc (by simp) _⟩, ⟨by rw [Below.heap_alloc _ _ _ (by simp)]; exact blk_new w _⟩, ⟨by have := blk_new (w.alloc (.cells #[.pointer (some ⟨g, 0, none⟩)] 58)) (.cells #[.int .i64 i] 3); simpa using this⟩⟩
  rw [← hw1]
  clear hw1
  have HS1 := Aside0.mk (HS.out.later K1.out)
  have c0 := HS1.out.c0
  have b2 : w1.cell? ⟨w.heap.size, 0, none⟩ = some (.pointer (some ⟨g, 0, none⟩)) := by rw [blk_cell B2.out]; rfl
  have b3 : w1.cell? ⟨w.heap.size + 1, 0, none⟩ = some (.int .i64 i) := by rw [blk_cell B3.out]; rfl
  have hi4I : ¬ (N : Int) < (i : Int) + 4 := by omega
  go_wp2_with fail
  go_quiet (fail)
  clear c0 b2 b3
  obtain ⟨w2, hw2, K2⟩ : ∃ w2, w2 = w1.drewN nq ∧ Aside0 (Later w1 w2) := ⟨_, rfl, ⟨drewN_below w1 nq⟩⟩
  rw [← hw2]
  clear hw2
  have HS2 := Aside0.mk (HS1.out.later K2.out)
  have B2' := Aside0.mk (Later.heap K2.out B2.out)
  have B3' := Aside0.mk (Later.heap K2.out B3.out)
  have b2 : w2.cell? ⟨w.heap.size, 0, none⟩ = some (.pointer (some ⟨g, 0, none⟩)) := by rw [blk_cell B2'.out]; rfl
  have b3 : w2.cell? ⟨w.heap.size + 1, 0, none⟩ = some (.int .i64 i) := by rw [blk_cell B3'.out]; rfl
  clear B2 B3 HS1
  go_wp2_with (first
    | (go_at_call 39; (with_reducible refine at_cw w2 ?_); refine (upto_calls S g bm gb ob N c b n i w2 HS2.out hb hcN hn hi4 hN).mono ?_; rintro e w3 ⟨rfl, hU⟩; have HU := Aside0.mk hU; clear hU b2 b3))
  obtain ⟨n', S', hn1, hn2, hst, hfr, hsub⟩ := HU.out
  obtain rfl : n' = i := by omega
  have hp2 : ¬ S w.heap.size := fun hs => by have := HS.out.bound _ hs; omega
  have hp3 : ¬ S (w.heap.size + 1) := fun hs => by have := HS.out.bound _ hs; omega
  have B23 := (hfr.block w.heap.size (blk_lt B2'.out) hp2).trans B2'.out
  have B33 := (hfr.block (w.heap.size + 1) (blk_lt B3'.out) hp3).trans B3'.out
  obtain ⟨w4, hw4, K4, N6, N7⟩ : ∃ w4, w4 = (w3.alloc (.cells #[.int .i64 0] 3)).alloc (.cells #[.int .i64 0] 3) ∧ Aside0 (Later w3 w4) ∧ Aside0 (w4.heap[w3.heap.size]? = some (.cells #[.int .i64 0] 3 (0, 0))) ∧ Aside0 (w4.heap[w3.heap.size + 1]? = some (.cells #[.int .i64 0] 3 (0, 0))) :=
    ⟨_, rfl, ⟨((Below.refl _ w3).alloc (Nat.le_refl _) _).alloc (by simp) _⟩, ⟨by rw [Below.heap_alloc _ _ _ (by simp)]; exact blk_new w3 _⟩, ⟨by have := blk_new (w3.alloc (.cells #[.int .i64 0] 3)) (.cells #[.int .i64 0] 3); simpa using this⟩⟩
  rw [← hw4]
  have s34 : w4.heap.size = w3.heap.size + 2 := by rw [hw4]; simp
  clear hw4
  have HST := Aside0.mk (hst.later (K4.out.trans (Below.drew (Later.refl w4))))
  have C2 : Aside0 (w4.drew.cell? ⟨w.heap.size, 0, none⟩ = some (.pointer (some ⟨g, 0, none⟩))) := ⟨by rw [World.cell?_drew, blk_cell (Later.heap K4.out B23)]; rfl⟩
  have C3 : Aside0 (w4.drew.cell? ⟨w.heap.size + 1, 0, none⟩ = some (.int .i64 n')) := ⟨by rw [World.cell?_drew, blk_cell (Later.heap K4.out B33)]; rfl⟩
  obtain ⟨M, hM⟩ := HST.out.map
  have hkb : KeyB 4 (win b n') := win_key hb (by rw [HST.out.read.1]; omega)
  have HOW := Aside0.mk (hM.at_ hkb).1
  have HBK := Aside0.mk (hM.at_ hkb).2
  have HM := Aside0.mk hM
  obtain ⟨A', c', hsl, hat, hld⟩ := key_facts HST.out.read hcN n' (by omega)
  have HLD := Aside0.mk hld
  have C0 := Aside0.mk HST.out.c0
  have C1 := Aside0.mk HST.out.c1
  have HFR := Aside0.mk hfr
  have HST3 := Aside0.mk hst
  have HSUB := Aside0.mk hsub
  have hwr : wrap64 ((n' : Int) + 4) = (n' : Int) + 4 := by unfold wrap64; omega
  clear hld hM hst hfr hsub HU B23 B33 hp2 hp3
  obtain ⟨Az, cz, q, hv, hq1, hq0, hq2⟩ := HOW.out.form
  have hq3 : q < w3.heap.size := by
    rcases Nat.eq_zero_or_pos (occ b (win b n') n').length with h0 | h0
    · rw [hq0 h0]; have := HST3.out.bound g HST3.out.sg; omega
    · exact HST3.out.bound q (HBK.out q (hq1 h0).2.1).1
  have HV := Aside0.mk hv
  have HQ := Aside0.mk (And.intro hq1 hq2)
  clear hv hq1 hq2 hq0
  refine seq_startN [] (.take 0 (.take 1 (.take 2 (.take 3 (.take 4 (.take 5 (.take 6 (.take 7 (.take 8 (.take 9 (.take 10 (.take 11 (.take 12 (.take 13 (.take 14 (.run 15 .done)))))))))))))))) (by kernel_rfl) (by kernel_rfl) ?_
  refine seq_take (v := ?_) (a' := ?_) rfl rfl (by rfl) (fun w' hw' => ?_) ?_ ?_
  rotate_left 2
  · have hq := pw_cell_below hw' C2.out; go_simp
    with_reducible rfl
  · simp only [Act.put, List.setIfInBounds_toArray, List.set_cons_zero, List.set_cons_succ, Go.Proofs.YtcbcoaafdggniaaW.PrintLast.i64_w, Go.Proofs.YtcbcoaafdggniaaW.PrintLast.i32_w]
    rfl
  refine seq_take (v := ?_) (a' := ?_) rfl rfl (by rfl) (fun w' hw' => ?_) ?_ ?_
  rotate_left 2
  · go_simp
    with_reducible rfl
  · simp only [Act.put, List.setIfInBounds_toArray, List.set_cons_zero, List.set_cons_succ, Go.Proofs.YtcbcoaafdggniaaW.PrintLast.i64_w, Go.Proofs.YtcbcoaafdggniaaW.PrintLast.i32_w]
    rfl
  refine seq_take (v := ?_) (a' := ?_) rfl rfl (by rfl) (fun w' hw' => ?_) ?_ ?_
  rotate_left 2
  · go_simp
    with_reducible rfl
  · simp only [Act.put, List.setIfInBounds_toArray, List.set_cons_zero, List.set_cons_succ, Go.Proofs.YtcbcoaafdggniaaW.PrintLast.i64_w, Go.Proofs.YtcbcoaafdggniaaW.PrintLast.i32_w]
    rfl
  refine seq_take (v := ?_) (a' := ?_) rfl rfl (by rfl) (fun w' hw' => ?_) ?_ ?_
  rotate_left 2
  · have hq := pw_cell_below hw' C1.out; go_simp
    with_reducible rfl
  · simp only [Act.put, List.setIfInBounds_toArray, List.set_cons_zero, List.set_cons_succ, Go.Proofs.YtcbcoaafdggniaaW.PrintLast.i64_w, Go.Proofs.YtcbcoaafdggniaaW.PrintLast.i32_w]
    rfl
  refine seq_take (v := ?_) (a' := ?_) rfl rfl (by rfl) (fun w' hw' => ?_) ?_ ?_
  rotate_left 2
  · have hq := pw_cell_below hw' C2.out; go_simp
    with_reducible rfl
  · simp only [Act.put, List.setIfInBounds_toArray, List.set_cons_zero, List.set_cons_succ, Go.Proofs.YtcbcoaafdggniaaW.PrintLast.i64_w, Go.Proofs.YtcbcoaafdggniaaW.PrintLast.i32_w]
    rfl
  refine seq_take (v := ?_) (a' := ?_) rfl rfl (by rfl) (fun w' hw' => ?_) ?_ ?_
  rotate_left 2
  · go_simp
    with_reducible rfl
  · simp only [Act.put, List.setIfInBounds_toArray, List.set_cons_zero, List.set_cons_succ, Go.Proofs.YtcbcoaafdggniaaW.PrintLast.i64_w, Go.Proofs.YtcbcoaafdggniaaW.PrintLast.i32_w]
    rfl
  refine seq_take (v := ?_) (a' := ?_) rfl rfl (by rfl) (fun w' hw' => ?_) ?_ ?_
  rotate_left 2
  · go_simp
    with_reducible rfl
  · simp only [Act.put, List.setIfInBounds_toArray, List.set_cons_zero, List.set_cons_succ, Go.Proofs.YtcbcoaafdggniaaW.PrintLast.i64_w, Go.Proofs.YtcbcoaafdggniaaW.PrintLast.i32_w]
    rfl
  refine seq_take (v := ?_) (a' := ?_) rfl rfl (by rfl) (fun w' hw' => ?_) ?_ ?_
  rotate_left 2
  · have hq := pw_cell_below hw' C0.out; go_simp
    with_reducible rfl
  · simp only [Act.put, List.setIfInBounds_toArray, List.set_cons_zero, List.set_cons_succ, Go.Proofs.YtcbcoaafdggniaaW.PrintLast.i64_w, Go.Proofs.YtcbcoaafdggniaaW.PrintLast.i32_w]
    rfl
  refine seq_take (v := ?_) (a' := ?_) rfl rfl (by rfl) (fun w' hw' => ?_) ?_ ?_
  rotate_left 2
  · have hq := pw_cell_below hw' C3.out; go_simp
    with_reducible rfl
  · simp only [Act.put, List.setIfInBounds_toArray, List.set_cons_zero, List.set_cons_succ, Go.Proofs.YtcbcoaafdggniaaW.PrintLast.i64_w, Go.Proofs.YtcbcoaafdggniaaW.PrintLast.i32_w]
    rfl
  refine seq_take (v := ?_) (a' := ?_) rfl rfl (by rfl) (fun w' hw' => ?_) ?_ ?_
  rotate_left 2
  · have hq := pw_cell_below hw' C3.out; go_simp
    with_reducible rfl
  · simp only [Act.put, List.setIfInBounds_toArray, List.set_cons_zero, List.set_cons_succ, Go.Proofs.YtcbcoaafdggniaaW.PrintLast.i64_w, Go.Proofs.YtcbcoaafdggniaaW.PrintLast.i32_w]
    rfl
  refine seq_take (v := ?_) (a' := ?_) rfl rfl (by rfl) (fun w' hw' => ?_) ?_ ?_
  rotate_left 2
  · go_simp
    with_reducible rfl
  · simp only [Act.put, List.setIfInBounds_toArray, List.set_cons_zero, List.set_cons_succ, Go.Proofs.YtcbcoaafdggniaaW.PrintLast.i64_w, Go.Proofs.YtcbcoaafdggniaaW.PrintLast.i32_w]
    rfl
  refine seq_take (v := ?_) (a' := ?_) rfl rfl (by rfl) (fun w' hw' => ?_) ?_ ?_
  rotate_left 2
  · go_simp
    with_reducible rfl
  · simp only [Act.put, List.setIfInBounds_toArray, List.set_cons_zero, List.set_cons_succ, Go.Proofs.YtcbcoaafdggniaaW.PrintLast.i64_w, Go.Proofs.YtcbcoaafdggniaaW.PrintLast.i32_w]
    rfl
  refine seq_take (v := ?_) (a' := ?_) rfl rfl (by rfl) (fun w' hw' => ?_) ?_ ?_
  rotate_left 2
  · go_simp
    with_reducible rfl
  · simp only [Act.put, List.setIfInBounds_toArray, List.set_cons_zero, List.set_cons_succ, Go.Proofs.YtcbcoaafdggniaaW.PrintLast.i64_w, Go.Proofs.YtcbcoaafdggniaaW.PrintLast.i32_w]
    rfl
  refine seq_take (v := _) (a' := ?_) rfl rfl (by rfl) (fun w' hw' => load_run rfl rfl (HLD.out w' hw')) ?_ ?_
  rotate_left
  · simp only [Act.put, List.setIfInBounds_toArray, List.set_cons_zero, List.set_cons_succ, Go.Proofs.YtcbcoaafdggniaaW.PrintLast.i64_w, Go.Proofs.YtcbcoaafdggniaaW.PrintLast.i32_w]
    rfl
  refine seq_take (v := _) (a' := ?_) rfl rfl (by rfl) (fun w' hw' => lookup_exec _ _ _ _ rfl rfl rfl ((HM.out.is.move (hw'.block bm HM.out.is.lt)).look0 keyOk4 Try.underlying65 (zeroSI w') hkb)) ?_ ?_
  rotate_left
  · simp only [Act.put, List.setIfInBounds_toArray, List.set_cons_zero, List.set_cons_succ, Go.Proofs.YtcbcoaafdggniaaW.PrintLast.i64_w, Go.Proofs.YtcbcoaafdggniaaW.PrintLast.i32_w]
    rfl
  rw [HV.out]
  refine seq_run ?_
  refine do_call rfl rfl (by rfl) rfl Try.func40 (by kernel_rfl) rfl #[.slice Az (occ b (win b n') n').length cz] (by simp only [List.map_toArray, List.map_cons, List.map_nil]; rfl) ?_
  with_reducible refine (back_calls _ _ _ _).mono ?_
  rintro e w5 ⟨rfl, h5⟩
  refine ⟨_, ?_, rfl, ?_, fun _ => (by rw [h5]; exact below_alloc (Below.refl _ _) _), ?_⟩
  rotate_left
  · simp only [Act.put, List.setIfInBounds_toArray, List.set_cons_zero, List.set_cons_succ, Go.Proofs.YtcbcoaafdggniaaW.PrintLast.i64_w, Go.Proofs.YtcbcoaafdggniaaW.PrintLast.i32_w]
    rfl
  refine seq_endN ?_
  have s5 : w5.heap.size = w3.heap.size + 3 := by rw [h5]; simp [s34]
  have K5 : Aside0 (Later w4.drew w5) := ⟨by rw [h5]; exact below_alloc (Below.refl _ _) _⟩
  have HB5 : Aside0 (w5.cell? ⟨w4.drew.heap.size, 0, none⟩ = some (.slice Az (occ b (win b n') n').length cz)) := ⟨by rw [h5, blk_cell (blk_new _ _)]; rfl⟩
  have s4d : w4.drew.heap.size = w3.heap.size + 2 := s34
  clear h5 hsl hat HLD C0 C1 hwr HOW
  have Z6 := Aside0.mk (Later.heap K5.out (Later.heap (Below.drew (Later.refl w4)) N6.out))
  have Z7 := Aside0.mk (Later.heap K5.out (Later.heap (Below.drew (Later.refl w4)) N7.out))
  generalize hBs : w4.drew.heap.size = Bs at *
  have C25 := Aside0.mk (pw_cell_below K5.out C2.out)
  have C35 := Aside0.mk (pw_cell_below K5.out C3.out)
  have C05 := Aside0.mk (HST.out.later K5.out)
  have s03 : w.heap.size + 2 ≤ w3.heap.size := by
    have h1 := blk_lt B3'.out
    have h2 := HFR.out.size
    omega
  have hgb3 : gb < w3.heap.size := rdB_lt HST3.out.read (by omega)
  have hg3 := HST3.out.bound g HST3.out.sg
  have HRET : Aside0 (∀ W m D r, w5.heap.size ≤ D → MI w5 w3.heap.size (w3.heap.size + 1) r W → (W.drewN m).heap[D]? = some (.deferred (some [])) → UpInv w S g bm (some ⟨gb, ob, none⟩) N c b n' n' ((W.drewN m).putObj D (.deferred none))) := ⟨fun W m D r hD hmi hK => by
    have L1 : Below w3.heap.size w3 w5 := K4.out.trans (((Below.drew (Later.refl w4)).trans K5.out).mono (by omega))
    have L2 : Below w3.heap.size w5 W := hmi.fr.below (fun k hk => by omega) (by omega)
    have L3 : Below w3.heap.size W (W.drewN m) := (drewN_below W m).mono (by have := hmi.fr.size; omega)
    have L4 : Below w3.heap.size (W.drewN m) ((W.drewN m).putObj D (.deferred none)) := belowK_b (w := w5) (by omega) (W.drewN m) D _ _ hD hK rfl rfl
    have L := L1.trans (L2.trans (L3.trans L4))
    have F : Fr w w3 S := ((Fr.later K1.out).call K2.out).trans HFR.out
    refine ⟨n', S', Nat.le_refl _, Nat.le_refl _, HST3.out.later L, F.call L, fun k hk => ?_⟩
    rcases HSUB.out k hk with h | h
    · exact .inl h
    · have h1 := Later.size K1.out
      have h2 := Later.size K2.out
      exact .inr (by omega)⟩
  go_wp2_with fail
  refine (wpIn_wide (n := 10)).1 ?_
  refine wpIn_rangeFunc_ownG (F := Fence.wide) (n := 10) (gf := 44) (lb := #[.pointer (some ⟨Bs, 0, none⟩)]) (w0 := w5) rfl (by omega) rfl trivial (enters_of Try.func44 (by kernel_rfl) rfl)
    (back_stops (encP n') (posAt b (win b n') n') Fence.wide 9 trivial rfl (by omega) Bs q cz Az (occ b (win b n') n') (by have := occ_len b (win b n') n'; omega) (fun j => rfl) w5 (by omega) HB5.out
      (fun hp => ⟨(HQ.out.1 hp).1, by omega⟩) (fun j hj => pw_cell_below K5.out (HQ.out.2 j hj)))
    (fun h k => KpS.t h k) (KpS.b (by omega) (by omega)) (Below.refl _ _) (fun _ => rfl)
    (fun pre W => Near n' pre ∧ MI w5 w3.heap.size (w3.heap.size + 1) (msts b n' pre) W)
    (fun c pre W => c = .exit 0 ∧ ∃ ini last, pre = ini ++ [last] ∧ Near n' ini ∧ 1024 < (n' : Int) - last.1.2 ∧ MI w5 w3.heap.size (w3.heap.size + 1) (msts b n' ini) W)
    (fun s A B row hs hg hr => ⟨hs.1, hs.2.turn (by omega) (by omega) hg (fun r e => (hr r e).1)⟩)
    (fun c s A B row hs hg hr => by
      obtain ⟨hc, ini, last, e1, e2, e3, e4⟩ := hs
      exact ⟨hc, ini, last, e1, e2, e3, e4.turn (by omega) (by omega) hg (fun r e => (hr r e).1)⟩)
    ⟨fun p hp => (by cases hp), ⟨Z6.out, Z7.out, Fr.refl _ _⟩⟩
    ?a1 ?assign ?body ?done ?stop
  case assign =>
    intro l x W K hK
    simp only [encP]
    gi_wp2
    exact hK
  case body =>
    rintro l pre ⟨⟨ix, kx⟩, hk0, hk1⟩ W ⟨hpre, hmi⟩ hlt
    dsimp only at hk0 hk1
    obtain ⟨k, rfl⟩ := Int.eq_ofNat_of_zero_le hk0
    have c3 := hmi.fr.cell C35.out (fun e => by rcases e with e | e <;> (simp only at e; omega))
    have HP := Aside0.mk hpre
    have HMI := Aside0.mk hmi
    have CG : Aside0 (W.cell? ⟨w.heap.size, 0, none⟩ = some (.pointer (some ⟨g, 0, none⟩)) ∧ W.cell? ⟨g, 0, none⟩ = some (.slice (some ⟨gb, ob, none⟩) N c) ∧ RdB W (some ⟨gb, ob, none⟩) N b) := ⟨hmi.fr.cell C25.out (fun e => by rcases e with e | e <;> (simp only at e; omega)), hmi.fr.cell C05.out.c0 (fun e => by rcases e with e | e <;> (simp only at e; omega)),
      hmi.fr.rdB C05.out.read (fun ad he _ e => by injection he with he; subst he; rcases e with e | e <;> (simp only at e; omega))⟩
    clear hpre hmi
    by_cases hfar : 1024 < (n' : Int) - (k : Int)
    · gi_wp2
      exact ⟨KeepsFrom.refl _ _, rfl, pre, _, rfl, HP.out, hfar, HMI.out⟩
    · have hfar' : (n' : Int) - (k : Int) ≤ 1024 := by omega
      gi_wp2
      have CW := Aside0.mk c3
      clear c3
      refine seq_startR [] (.take 0 (.take 1 (.take 2 (.take 3 (.take 4 (.take 5 (.run 6 (.take 7 .done)))))))) (by kernel_rfl) (by kernel_rfl) (fun ⟨_, _, h⟩ => h) ?_
      refine seq_take (v := ?_) (a' := ?_) rfl rfl (by rfl) (fun w' hw' => ?_) ?_ ?_
      rotate_left 2
      · have hq := pw_cell_below hw' (show W.drew.cell? ⟨w.heap.size, 0, none⟩ = _ from CG.out.1); go_simp
        with_reducible rfl
      · simp only [Act.put, List.setIfInBounds_toArray, List.set_cons_zero, List.set_cons_succ, Go.Proofs.YtcbcoaafdggniaaW.PrintLast.i64_w, Go.Proofs.YtcbcoaafdggniaaW.PrintLast.i32_w]
        rfl
      refine seq_take (v := ?_) (a' := ?_) rfl rfl (by rfl) (fun w' hw' => ?_) ?_ ?_
      rotate_left 2
      · go_simp
        with_reducible rfl
      · simp only [Act.put, List.setIfInBounds_toArray, List.set_cons_zero, List.set_cons_succ, Go.Proofs.YtcbcoaafdggniaaW.PrintLast.i64_w, Go.Proofs.YtcbcoaafdggniaaW.PrintLast.i32_w]
        rfl
      refine seq_take (v := ?_) (a' := ?_) rfl rfl (by rfl) (fun w' hw' => ?_) ?_ ?_
      rotate_left 2
      · go_simp
        with_reducible rfl
      · simp only [Act.put, List.setIfInBounds_toArray, List.set_cons_zero, List.set_cons_succ, Go.Proofs.YtcbcoaafdggniaaW.PrintLast.i64_w, Go.Proofs.YtcbcoaafdggniaaW.PrintLast.i32_w]
        rfl
      refine seq_take (v := ?_) (a' := ?_) rfl rfl (by rfl) (fun w' hw' => ?_) ?_ ?_
      rotate_left 2
      · have hq := pw_cell_below hw' (show W.drew.cell? ⟨g, 0, none⟩ = _ from CG.out.2.1); go_simp
        with_reducible rfl
      · simp only [Act.put, List.setIfInBounds_toArray, List.set_cons_zero, List.set_cons_succ, Go.Proofs.YtcbcoaafdggniaaW.PrintLast.i64_w, Go.Proofs.YtcbcoaafdggniaaW.PrintLast.i32_w]
        rfl
      refine seq_take (v := ?_) (a' := ?_) rfl rfl (by rfl) (fun w' hw' => ?_) ?_ ?_
      rotate_left 2
      · have hq := pw_cell_below hw' (show W.drew.cell? ⟨w.heap.size + 1, 0, none⟩ = _ from CW.out); go_simp
        with_reducible rfl
      · simp only [Act.put, List.setIfInBounds_toArray, List.set_cons_zero, List.set_cons_succ, Go.Proofs.YtcbcoaafdggniaaW.PrintLast.i64_w, Go.Proofs.YtcbcoaafdggniaaW.PrintLast.i32_w]
        rfl
      refine seq_take (v := ?_) (a' := ?_) rfl rfl (by rfl) (fun w' hw' => ?_) ?_ ?_
      rotate_left 2
      · go_simp
        with_reducible rfl
      · simp only [Act.put, List.setIfInBounds_toArray, List.set_cons_zero, List.set_cons_succ, Go.Proofs.YtcbcoaafdggniaaW.PrintLast.i64_w, Go.Proofs.YtcbcoaafdggniaaW.PrintLast.i32_w]
        rfl
      refine seq_run ?_
      refine do_call rfl rfl (by rfl) rfl Try.func41 (by kernel_rfl) rfl #[.slice (some ⟨gb, ob, none⟩) N c, .int .i64 n', .int .i64 k] (by simp only [List.map_toArray, List.map_cons, List.map_nil]; rfl) ?_
      with_reducible refine (long_calls (some ⟨gb, ob, none⟩) N c b n' k W.drew (Kd.C_drew CG.out.2.2) (by omega) hi hN).mono ?_
      rintro e w6 ⟨rfl, hB6⟩
      refine ⟨_, ?_, rfl, ?_, fun _ => hB6, ?_⟩
      rotate_left
      · simp only [Act.put, List.setIfInBounds_toArray, List.set_cons_zero, List.set_cons_succ, Go.Proofs.YtcbcoaafdggniaaW.PrintLast.i64_w, Go.Proofs.YtcbcoaafdggniaaW.PrintLast.i32_w]
        rfl
      have K6 : Aside0 (Later W w6) := ⟨(Below.drew (Later.refl W)).trans hB6⟩
      clear hB6
      refine seq_take (v := ?_) (a' := ?_) rfl rfl (by rfl) (fun w' hw' => ?_) ?_ ?_
      rotate_left 2
      · go_simp
        with_reducible rfl
      · simp only [Act.put, List.setIfInBounds_toArray, List.set_cons_zero, List.set_cons_succ, Go.Proofs.YtcbcoaafdggniaaW.PrintLast.i64_w, Go.Proofs.YtcbcoaafdggniaaW.PrintLast.i32_w]
        rfl
      refine seq_endN ?_
      have HM6 := Aside0.mk (HMI.out.later K6.out)
      have c6 : w6.cell? ⟨w3.heap.size, 0, none⟩ = some (.int .i64 (msts b n' pre).1) := by rw [blk_cell HM6.out.n]; rfl
      have HEQ : Aside0 (msts b n' (pre ++ [⟨(ix, (k : Int)), hk0, hk1⟩]) = mstep b n' (msts b n' pre) (ix, (k : Int))) := ⟨msts_snoc _ _ _ _⟩
      have HPX : Aside0 (Near n' (pre ++ [(⟨(ix, (k : Int)), hk0, hk1⟩ : Pos n')])) := ⟨fun p hp => by
        rcases List.mem_append.1 hp with hp | hp
        · exact HP.out p hp
        · obtain rfl := List.mem_singleton.1 hp
          exact hfar'⟩
      have HR : Aside0 (mstep b n' (msts b n' pre) (ix, (k : Int)) = if (msts b n' pre).1 < (runL b n' k : Int) then ((runL b n' k : Int), (n' : Int) - k) else msts b n' pre) := ⟨rfl⟩
      have F6 : Aside0 (Fr W w6 (fun k => k = w3.heap.size ∨ k = w3.heap.size + 1)) := ⟨Fr.later K6.out⟩
      by_cases hgt : (msts b n' pre).1 < (runL b n' k : Int)
      · have HR2 := HR.out
        rw [if_pos hgt] at HR2
        have HRR := Aside0.mk HR2
        clear HR2 HR
        have CW6 : Aside0 (w6.drew.cell? ⟨w.heap.size + 1, 0, none⟩ = some (.int .i64 n')) := ⟨by rw [World.cell?_drew]; exact pw_cell_below K6.out CW.out⟩
        have N6d : w6.drew.heap[w3.heap.size]? = some (.cells #[.int .i64 (msts b n' pre).1] 3 (0, 0)) := HM6.out.n
        have D6d : w6.drew.heap[w3.heap.size + 1]? = some (.cells #[.int .i64 (msts b n' pre).2] 3 (0, 0)) := HM6.out.d
        obtain ⟨w7, hst7, hS7⟩ := store_int N6d (runL b n' k : Int)
        have D7 : w7.heap[w3.heap.size + 1]? = some (.cells #[.int .i64 (msts b n' pre).2] 3 (0, 0)) := (hS7.else_ _ (by omega)).trans D6d
        have hwk : wrap64 ((n' : Int) - k) = (n' : Int) - k := by unfold wrap64; omega
        obtain ⟨w8, hst8, hS8⟩ := store_int D7 (wrap64 ((n' : Int) - k))
        have CW7 : Aside0 (w7.cell? ⟨w.heap.size + 1, 0, none⟩ = some (.int .i64 n')) := ⟨by
          rw [World.cell?_of_block (hS7.else_ _ (show w.heap.size + 1 ≠ w3.heap.size by omega))]
          exact CW6.out⟩
        have F8 : Fr W w8 (fun k => k = w3.heap.size ∨ k = w3.heap.size + 1) := (((F6.out.call (Below.drew (Below.refl _ _)))).set hS7 (.inl (.inl rfl))).set hS8 (.inl (.inr rfl))
        have HFIN : Aside0 (KeepsFrom w5.heap.size W w8 ∧ KpS Bs q W w8 ∧ Near n' (pre ++ [(⟨(ix, (k : Int)), hk0, hk1⟩ : Pos n')]) ∧ MI w5 w3.heap.size (w3.heap.size + 1) (msts b n' (pre ++ [(⟨(ix, (k : Int)), hk0, hk1⟩ : Pos n')])) w8) := ⟨by
          refine ⟨F8.keepsFrom (fun k hk => by omega), fun q' hq' => F8.block q' ?_ ?_, HPX.out, ?_⟩
          · rcases hq' with rfl | rfl <;> (have := HMI.out.fr.size; omega)
          · rintro (e | e) <;> omega
          · rw [HEQ.out, HRR.out]
            rw [hwk] at hS8
            exact ⟨(hS8.else_ _ (by omega)).trans hS7.at_, hS8.at_, ((HMI.out.fr.next F8 (fun i hi => .inl hi)))⟩⟩
        have HST7 := Aside0.mk hst7
        have HST8 := Aside0.mk hst8
        clear hst7 hst8 hS7 hS8 D7 N6d D6d F8 hwk
        gi_wp2
        refine seq_startR [4, 5] (.pure 0 (.pure 2 (.fork 1 4 (.pure 3 (.run 4 (.run 5 .done))) (.run 1 (.pure 3 (.run 5 .done)))))) (by kernel_rfl) (by kernel_rfl) (fun ⟨_, _, h⟩ => h) ?_
        refine seq_pure (v := ?_) (a' := ?_) rfl rfl (by rfl) (fun w' => ?_) ?_ ?_
        rotate_left 2
        · go_simp
          with_reducible rfl
        · simp only [Act.put, List.setIfInBounds_toArray, List.set_cons_zero, List.set_cons_succ, Go.Proofs.YtcbcoaafdggniaaW.PrintLast.i64_w, Go.Proofs.YtcbcoaafdggniaaW.PrintLast.i32_w]
          rfl
        refine seq_pure (v := ?_) (a' := ?_) rfl rfl (by rfl) (fun w' => ?_) ?_ ?_
        rotate_left 2
        · go_simp
          with_reducible rfl
        · simp only [Act.put, List.setIfInBounds_toArray, List.set_cons_zero, List.set_cons_succ, Go.Proofs.YtcbcoaafdggniaaW.PrintLast.i64_w, Go.Proofs.YtcbcoaafdggniaaW.PrintLast.i32_w]
          rfl
        refine seq_fork ?_ ?_
        · refine do_val (v := ?_) (a' := ?_) (w1 := ?_) rfl rfl (by rfl) ?_ ?_ ?_
          rotate_left 3
          · have hq := CW6.out; go_simp
            constructor <;> rfl
          · simp only [Act.put, List.setIfInBounds_toArray, List.set_cons_zero, List.set_cons_succ, Go.Proofs.YtcbcoaafdggniaaW.PrintLast.i64_w, Go.Proofs.YtcbcoaafdggniaaW.PrintLast.i32_w]
            rfl
          refine ⟨fun _ => Later.refl _, ?_⟩
          refine seq_pure (v := ?_) (a' := ?_) rfl rfl (by rfl) (fun w' => ?_) ?_ ?_
          rotate_left 2
          · go_simp
            with_reducible rfl
          · simp only [Act.put, List.setIfInBounds_toArray, List.set_cons_zero, List.set_cons_succ, Go.Proofs.YtcbcoaafdggniaaW.PrintLast.i64_w, Go.Proofs.YtcbcoaafdggniaaW.PrintLast.i32_w]
            rfl
          refine seq_run ?_
          refine do_store (w1 := w7) rfl rfl (by rfl) (store_run rfl rfl rfl HST7.out) ?_
          refine ⟨fun h => absurd (by simp) h, ?_⟩
          refine seq_run ?_
          refine do_store (w1 := w8) rfl rfl (by rfl) (store_run rfl rfl rfl HST8.out) ?_
          refine ⟨fun h => absurd (by simp) h, ?_⟩
          refine seq_endN ?_
          exact HFIN.out
        · refine do_store (w1 := w7) rfl rfl (by rfl) (store_run rfl rfl rfl HST7.out) ?_
          refine ⟨fun h => absurd (by simp) h, ?_⟩
          refine seq_run ?_
          refine do_val (v := ?_) (a' := ?_) (w1 := ?_) rfl rfl (by rfl) ?_ ?_ ?_
          rotate_left 3
          · have hq := CW7.out; go_simp
            constructor <;> rfl
          · simp only [Act.put, List.setIfInBounds_toArray, List.set_cons_zero, List.set_cons_succ, Go.Proofs.YtcbcoaafdggniaaW.PrintLast.i64_w, Go.Proofs.YtcbcoaafdggniaaW.PrintLast.i32_w]
            rfl
          refine ⟨fun _ => Later.refl _, ?_⟩
          refine seq_pure (v := ?_) (a' := ?_) rfl rfl (by rfl) (fun w' => ?_) ?_ ?_
          rotate_left 2
          · go_simp
            with_reducible rfl
          · simp only [Act.put, List.setIfInBounds_toArray, List.set_cons_zero, List.set_cons_succ, Go.Proofs.YtcbcoaafdggniaaW.PrintLast.i64_w, Go.Proofs.YtcbcoaafdggniaaW.PrintLast.i32_w]
            rfl
          refine seq_run ?_
          refine do_store (w1 := w8) rfl rfl (by rfl) (store_run rfl rfl rfl HST8.out) ?_
          refine ⟨fun h => absurd (by simp) h, ?_⟩
          refine seq_endN ?_
          exact HFIN.out
      · have HR2 := HR.out
        rw [if_neg hgt] at HR2
        have HRR := Aside0.mk HR2
        clear HR2 HR
        gi_wp2
        refine ⟨F6.out.keepsFrom (fun k hk => by omega), fun q' hq' => F6.out.block q' ?_ ?_, HPX.out, ?_⟩
        · rcases hq' with rfl | rfl <;> (have := HMI.out.fr.size; omega)
        · rintro (e | e) <;> omega
        · rw [HEQ.out, HRR.out]
          exact HM6.out
  case done =>
    rintro D xs W hD rfl ⟨hnear, hmi⟩ hK
    have c6 : W.cell? ⟨w3.heap.size, 0, none⟩ = some (.int .i64 (msts b n' (uptoF (posAt b (win b n') n') (occ b (win b n') n').length)).1) := by rw [blk_cell hmi.n]; rfl
    have c7 : W.cell? ⟨w3.heap.size + 1, 0, none⟩ = some (.int .i64 (msts b n' (uptoF (posAt b (win b n') n') (occ b (win b n') n').length)).2) := by rw [blk_cell hmi.d]; rfl
    go_wp2_with fail
    go_quiet (fail)
    go_wp2
    have hK' : (W.drewN nq).heap[D]? = some (.deferred (some [])) := Later.heap (drewN_below W nq) hK
    refine ⟨by simp, .inl ⟨_, _, rfl, run_takeDeferred hK', ?_⟩⟩
    refine ⟨_, results_tmp2 rfl _ _ _, _, rfl, ⟨_, Nat.le_refl _, by rw [← posAt_val]; rfl, fun p hp => ?_, .inl rfl⟩, HRET.out W nq D _ hD hmi hK'⟩
    obtain ⟨q', hq', rfl⟩ := mem_upto hp
    exact hnear q' hq'
  case stop =>
    rintro D cc pre W hD ⟨k, hk, rfl⟩ ⟨rfl, ini, last, e1, hnear, hfar, hmi⟩ hK
    obtain ⟨k', rfl⟩ : ∃ k', k = k' + 1 := by
      cases k with
      | zero => exact absurd e1 (by simp [uptoF])
      | succ k' => exact ⟨k', rfl⟩
    rw [uptoF_succ] at e1
    obtain ⟨rfl, e5⟩ := List.append_inj' e1 rfl
    obtain rfl : posAt b (win b n') n' k' = last := by simpa using e5
    have c6 : W.cell? ⟨w3.heap.size, 0, none⟩ = some (.int .i64 (msts b n' (uptoF (posAt b (win b n') n') k')).1) := by rw [blk_cell hmi.n]; rfl
    have c7 : W.cell? ⟨w3.heap.size + 1, 0, none⟩ = some (.int .i64 (msts b n' (uptoF (posAt b (win b n') n') k')).2) := by rw [blk_cell hmi.d]; rfl
    gi_wp2
    go_wp2_with fail
    go_quiet (fail)
    go_wp2
    have hK' : (W.drewN nq).heap[D]? = some (.deferred (some [])) := Later.heap (drewN_below W nq) hK
    refine ⟨by simp, .inl ⟨_, _, rfl, run_takeDeferred hK', ?_⟩⟩
    refine ⟨_, results_tmp2 rfl _ _ _, _, rfl, ⟨k', by omega, by rw [← posAt_val]; rfl, fun p hp => ?_, .inr hfar⟩, HRET.out W nq D _ hD hmi hK'⟩
    obtain ⟨q', hq', rfl⟩ := mem_upto hp
    exact hnear q' hq'
end Go.Proofs.Ytcbcoaafdggniaa
