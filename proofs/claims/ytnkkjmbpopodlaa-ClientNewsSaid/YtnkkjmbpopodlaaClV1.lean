/- lighterageref21's clients; Find, New, Left. Conditions: their own. -/
import Derived.Test.YtnkkjmbpopodlaaCl1
namespace Go.Proofs.Ytnkkjmbpopodlaa
open Go.RowKit Go.Proofs.YtnkkjmbpopodlaaW.PrintWords Go.Proofs.YtnkkjmbpopodlaaW.PrintMore
set_option linter.unusedVariables false
set_option linter.unusedSimpArgs false
theorem add_field (a : Addr) (i j : Nat) (h : 0 < j) : a.add (i + j) = ⟨(a.add i).block, (a.add i).off + j, none⟩ := by
  unfold Addr.add
  by_cases hi : i = 0
  · subst hi
    simp [show ¬ j = 0 by omega]
  · simp [hi, show ¬ i + j = 0 by omega, Nat.add_assoc]
/-- A document's client's cells. -/
def Rv (c : Cl) (v : Value) : List Value := [v, .int .i64 c.window, .int .i64 c.timeout, .int .i64 c.tries, .int .i64 c.seq, .int .i64 c.e]
theorem Rv_one {c : Cl} {v : Value} (hv : v.oneCell' = true) : ∀ u ∈ Rv c v, u.oneCell' = true := by
  intro u hu
  simp only [Rv, List.mem_cons, List.not_mem_nil, or_false] at hu
  rcases hu with rfl | rfl | rfl | rfl | rfl | rfl
  · exact hv
  all_goals rfl
theorem size_rv (c : Cl) (v : Value) : (Try.prog.info? 35).map (·.size) = some (Rv c v).length := by
  show _ = some 6
  kernel_rfl
theorem built_rv (a b d : Int) : Try.prog.built 35 [(1, .int .i64 a), (2, .int .i64 b), (3, .int .i64 d)] = some (Rv ⟨[], a, b, d, 0, 0⟩ (.slice none 0 0)).toArray := by kernel_rfl
theorem infoRC : (Try.prog.info? 35).map (fun i => (i.zero, i.size, i.bytes)) = some (some (.agg (Rv ⟨[], 0, 0, 0, 0, 0⟩ (.slice none 0 0)).toArray), 6, 64) := by kernel_rfl
theorem rv_cells {w : World} {g T : Nat} {c : Cl} {v : Value} {fr : Nat × Nat} (h : w.heap[g]? = some (.cells (Rv c v).toArray T fr)) :
    w.cell? ⟨g, 0, none⟩ = some v ∧ w.cell? ⟨g, 1, none⟩ = some (.int .i64 c.window) ∧ w.cell? ⟨g, 2, none⟩ = some (.int .i64 c.timeout) ∧ w.cell? ⟨g, 3, none⟩ = some (.int .i64 c.tries) ∧ w.cell? ⟨g, 4, none⟩ = some (.int .i64 c.seq) ∧ w.cell? ⟨g, 5, none⟩ = some (.int .i64 c.e) := by
  have hc := fun j => cell_of_row w g j _ T fr h
  refine ⟨?_, ?_, ?_, ?_, ?_, ?_⟩
  all_goals
    rw [hc]
    rfl
section
variable {ops : Array Oper} {rest : List Oper} {o : Oper} {a : Act} {Q : Exit → Act → World → Prop} {w : World}
theorem new_rc {o1 o2 : Oper} {N : Tmp} {c : Cl} {v : Value} (hg1 : o1.guard = none) (hg2 : o2.guard = none) (hd1 : o1.dst = some N) (ho1 : o1.op = .alloc 35) (y : Operand) (ho2 : o2.op = .store 35 (.tmp N) y) (hN : N < a.tmps.size)
    (hy : (a.put (some N) (.pointer (some ⟨w.heap.size, 0, none⟩))).eval y = .agg (Rv c v).toArray) (hv : v.oneCell' = true)
    (h : ∀ w1 g, NewBlk w w1 g (.cells (Rv c v).toArray 35 (0, 0)) → wpList Try.prog ops Q rest ((a.put (some N) (.pointer (some ⟨g, 0, none⟩))).put o2.dst undef) w1) : wpList Try.prog ops Q (o1 :: o2 :: rest) a w := by
  obtain ⟨it, hi, hz, hs, _⟩ := info_parts infoRC
  exact new_var hg1 hg2 hd1 _ ho1 y ho2 hN hy hi hz rfl hs (Rv_one hv) h
theorem new_v {o1 o2 : Oper} {N : Tmp} (hg1 : o1.guard = none) (hg2 : o2.guard = none) (hd1 : o1.dst = some N) (ho1 : o1.op = .alloc 58) (y : Operand) (ho2 : o2.op = .store 58 (.tmp N) y) (hN : N < a.tmps.size) {x : Wt}
    (hy : (a.put (some N) (.pointer (some ⟨w.heap.size, 0, none⟩))).eval y = .agg (rcells x).toArray) (hn : x.nm.length = 32)
    (h : ∀ w1 g, NewBlk w w1 g (.cells (rcells x).toArray 58 (0, 0)) → wpList Try.prog ops Q rest ((a.put (some N) (.pointer (some ⟨g, 0, none⟩))).put o2.dst undef) w1) : wpList Try.prog ops Q (o1 :: o2 :: rest) a w := by
  obtain ⟨it, hi, hz, hs, _⟩ := info_parts infoV
  exact new_var hg1 hg2 hd1 _ ho1 y ho2 hN hy hi hz (by rw [zV_size, rcells_len hn]) (by rw [hs, rcells_len hn]) (rcells_one x) h
end
/-- An element's fields. -/
theorem kv_at {w : World} {A : Option Addr} {n : Nat} {L : List Wt} (h : RdV w A n L) {k : Nat} (hk : k < n) : ∃ ad, A = some ad ∧ (wd L k).nm.length = 32 ∧ (∀ W, Below w.heap.size w W →
    (∀ j u, (rcells (wd L k))[j]? = some u → W.cell? (ad.add (k * 36 + j)) = some u) ∧ (∀ j u, (Nm (wd L k).nm)[j]? = some u → W.cell? (ad.add (k * 36 + j)) = some u) ∧ W.cell? ⟨(ad.add (k * 36)).block, (ad.add (k * 36)).off + 32, none⟩ = some (.int .i64 (wd L k).st) ∧ W.cell? ⟨(ad.add (k * 36)).block, (ad.add (k * 36)).off + 33, none⟩ = some (.int .i64 (wd L k).seq) ∧ W.cell? ⟨(ad.add (k * 36)).block, (ad.add (k * 36)).off + 34, none⟩ = some (.int .i64 (wd L k).due) ∧ W.cell? ⟨(ad.add (k * 36)).block, (ad.add (k * 36)).off + 35, none⟩ = some (.int .i64 (wd L k).asks)) := by
  obtain ⟨ad, e, h32, hc⟩ := kf_at h default k hk
  refine ⟨ad, e, h32, fun W hW => ?_⟩
  obtain ⟨a0, a1, a2, a3, a4⟩ := four_at (wd L k).nm (.int .i64 (wd L k).st) (.int .i64 (wd L k).seq) (.int .i64 (wd L k).due) (.int .i64 (wd L k).asks) h32
  have hcw : ∀ j u, (rcells (wd L k))[j]? = some u → W.cell? (ad.add (k * 36 + j)) = some u := fun j u hu => pw_cell_below hW (hc j u hu)
  refine ⟨hcw, fun j u hu => hcw j u (a4 j u hu), ?_, ?_, ?_, ?_⟩
  · rw [← add_field _ _ _ (by omega)]; exact hcw _ _ a0
  · rw [← add_field _ _ _ (by omega)]; exact hcw _ _ a1
  · rw [← add_field _ _ _ (by omega)]; exact hcw _ _ a2
  · rw [← add_field _ _ _ (by omega)]; exact hcw _ _ a3
theorem fnd_some {L : List Wt} {nm : List Int} {k : Nat} (hk : k < L.length) (h : ∀ x ∈ L.take k, x.nm ≠ nm) (hp : (wd L k).nm = nm) : fnd L nm = k := fst_some (d := default) hk (fun x hx => by simp [h x hx]) (by show decide ((wd L k).nm = nm) = true; simp [hp])
theorem fnd_none {L : List Wt} {nm : List Int} (h : ∀ x ∈ L, x.nm ≠ nm) : fnd L nm = -1 := fst_none (fun x hx => by simp [h x hx])
theorem take_mem {L : List Wt} {k : Nat} {Q : Wt → Prop} (hk : k < L.length) (h : ∀ x ∈ L.take k, Q x) (hp : Q (wd L k)) : ∀ x ∈ L.take (k + 1), Q x := by
  intro x hx
  rw [List.take_add_one, List.getElem?_eq_getElem hk] at hx
  rcases List.mem_append.1 hx with hx | hx
  · exact h x hx
  · unfold wd at hp
    rw [List.getD_eq_getElem?_getD, List.getElem?_eq_getElem hk] at hp
    rw [List.mem_singleton.1 hx]; exact hp
set_option maxRecDepth 20000 in
set_option maxHeartbeats 1600000 in
theorem rfind_calls (c : Cl) (A : Option Addr) (n cp : Nat) (nm : List Int) (C D : Array Value) (w : World) (hC : C = (Rv c (.slice A n cp)).toArray) (hD : D = (Nm nm).toArray) (h : RdV w A n c.L) (hn : nm.length = 32) (hl : n ≤ 1048576) :
    Calls Try.prog 18 #[.agg C, .agg D] w fun e w' => e = .returned (.int .i64 (fnd c.L nm)) ∧ Below w.heap.size w w' := by
  obtain ⟨w1, hw1⟩ : ∃ w1, w1 = (w.alloc (.cells C 35)).alloc (.cells D 51) := ⟨_, rfl⟩
  have F1 : Aside0 (w1.heap[w.heap.size]? = some (.cells (Rv c (.slice A n cp)).toArray 35 (0, 0))) := ⟨by rw [hw1, hC]; exact heap_alloc2_old w _ _⟩
  have F2 : Aside0 (w1.heap[w.heap.size + 1]? = some (.cells (Nm nm).toArray 51 (0, 0))) := ⟨by rw [hw1, hD]; exact heap_alloc2_new w _ _⟩
  have L1 : Aside0 (Below w.heap.size w w1) := ⟨by rw [hw1]; exact ((Below.refl _ _).alloc (Nat.le_refl _) _).alloc (by simp) _⟩
  have HR := Aside0.mk (Kd.C_below h L1.out)
  have HN := Aside0.mk hn
  obtain rfl : c.L.length = n := h.1
  have hgd : Try.prog.eqGuardType Try.prog.depth 51 = false := by kernel_rfl
  clear hC hD h hn
  go_enter Try.func18, Try.ntmps18
  go_upto_region 1 with fail
  refine at_w1 (w := w1) hw1 ?_
  clear hw1
  go_wp2
  go_loopw [5] (fun i wr => ∃ k : Nat, k ≤ c.L.length ∧ i = .int .i64 k ∧ (∀ x ∈ c.L.take k, x.nm ≠ nm) ∧ Below w1.heap.size w1 wr) (fun i _ => c.L.length - (intOf i).toNat)
  case atStart => exact ⟨0, Nat.zero_le _, rfl, (fun x hx => by simp at hx), Below.refl _ _⟩
  case round =>
    obtain ⟨k, hk, rfl, hT, hB⟩ := hrel
    have HT := Aside0.mk hT
    have HB := Aside0.mk hB
    clear hT hB
    have q0 := (rv_cells (Later.heap HB.out F1.out)).1
    by_cases hlt : k < c.L.length
    · obtain ⟨ad, rfl, h32, hc⟩ := kv_at HR.out hlt
      have HC := Aside0.mk hc
      have H32 := Aside0.mk h32
      have HS := Aside0.mk (fnd_some (nm := nm) hlt HT.out)
      have HM := Aside0.mk (take_mem (Q := fun x => x.nm ≠ nm) hlt HT.out)
      generalize wd c.L k = x at *
      have hltI : (k : Int) < (c.L.length : Int) := by omega
      have HD : Aside0 (Below w1.heap.size w1 wr.drew) := ⟨Below.drew HB.out⟩
      clear hc h32
      go_upto_region 4 with fail
      clear q0
      refine seq_startN [] (.take 0 (.take 1 (.take 2 (.take 3 (.take 4 (.take 5 (.take 6 (.take 7 .done)))))))) (by kernel_rfl) (by kernel_rfl) ?_
      refine seq_take (v := ?_) (a' := ?_) rfl rfl (by rfl) (fun w' hw' => ?_) ?_ ?_
      rotate_left 2
      · go_simp
        with_reducible rfl
      · simp only [Act.put, List.setIfInBounds_toArray, List.set_cons_zero, List.set_cons_succ, Go.Proofs.YtnkkjmbpopodlaaW.PrintLast.i64_w, Go.Proofs.YtnkkjmbpopodlaaW.PrintLast.i32_w]
        rfl
      refine seq_take (v := ?_) (a' := ?_) rfl rfl (by rfl) (fun w' hw' => ?_) ?_ ?_
      rotate_left 2
      · have q0 := (rv_cells (Later.heap (Later.trans HD.out hw') F1.out)).1; go_simp
        with_reducible rfl
      · simp only [Act.put, List.setIfInBounds_toArray, List.set_cons_zero, List.set_cons_succ, Go.Proofs.YtnkkjmbpopodlaaW.PrintLast.i64_w, Go.Proofs.YtnkkjmbpopodlaaW.PrintLast.i32_w]
        rfl
      refine seq_take (v := ?_) (a' := ?_) rfl rfl (by rfl) (fun w' hw' => ?_) ?_ ?_
      rotate_left 2
      · go_simp
        with_reducible rfl
      · simp only [Act.put, List.setIfInBounds_toArray, List.set_cons_zero, List.set_cons_succ, Go.Proofs.YtnkkjmbpopodlaaW.PrintLast.i64_w, Go.Proofs.YtnkkjmbpopodlaaW.PrintLast.i32_w]
        rfl
      refine seq_take (v := ?_) (a' := ?_) rfl rfl (by rfl) (fun w' hw' => ?_) ?_ ?_
      rotate_left 2
      · go_simp
        with_reducible rfl
      · simp only [Act.put, List.setIfInBounds_toArray, List.set_cons_zero, List.set_cons_succ, Go.Proofs.YtnkkjmbpopodlaaW.PrintLast.i64_w, Go.Proofs.YtnkkjmbpopodlaaW.PrintLast.i32_w]
        rfl
      refine seq_take (v := ?_) (a' := ?_) rfl rfl (by rfl) (fun w' hw' => ?_) ?_ ?_
      rotate_left 2
      · go_simp
        with_reducible rfl
      · simp only [Act.put, List.setIfInBounds_toArray, List.set_cons_zero, List.set_cons_succ, Go.Proofs.YtnkkjmbpopodlaaW.PrintLast.i64_w, Go.Proofs.YtnkkjmbpopodlaaW.PrintLast.i32_w]
        rfl
      refine seq_take (v := _) (a' := ?_) rfl rfl (by rfl) (fun w' hw' => load_run rfl (p := .pointer (some (ad.add (k * 36)))) rfl (ld_elem (HC.out w' (Later.trans HD.out hw')).2.1 51 _ Try.underlying51 rfl (size_d x.nm H32.out))) ?_ ?_
      rotate_left
      · simp only [Act.put, List.setIfInBounds_toArray, List.set_cons_zero, List.set_cons_succ, Go.Proofs.YtnkkjmbpopodlaaW.PrintLast.i64_w, Go.Proofs.YtnkkjmbpopodlaaW.PrintLast.i32_w]
        rfl
      refine seq_take (v := _) (a' := ?_) rfl rfl (by rfl) (fun w' hw' => load_run rfl rfl (ld_row (Later.heap (Later.trans HD.out hw') F2.out) 51 _ Try.underlying51 rfl (by rw [List.size_toArray]; exact size_d nm HN.out))) ?_ ?_
      rotate_left
      · simp only [Act.put, List.setIfInBounds_toArray, List.set_cons_zero, List.set_cons_succ, Go.Proofs.YtnkkjmbpopodlaaW.PrintLast.i64_w, Go.Proofs.YtnkkjmbpopodlaaW.PrintLast.i32_w]
        rfl
      refine seq_take (v := _) (a' := ?_) rfl rfl (by rfl) (fun w' hw' => bin_run .eql 51 (.tmp 18) (.tmp 19) 51 rfl (p := .agg (Nm x.nm).toArray) (q := .agg (Nm nm).toArray) rfl rfl (run_eqGuard_agg _ .eql _ _ _ _ _ hgd) (d_eql H32.out HN.out)) ?_ ?_
      rotate_left
      · simp only [Act.put, List.setIfInBounds_toArray, List.set_cons_zero, List.set_cons_succ, Go.Proofs.YtnkkjmbpopodlaaW.PrintLast.i64_w, Go.Proofs.YtnkkjmbpopodlaaW.PrintLast.i32_w]
        rfl
      refine seq_endN ?_
      by_cases he : x.nm = nm
      · have HS := Aside0.mk (HS.out he)
        rw [decide_eq_true he]
        clear he HM
        go_wp2
        go_ret
        exact ⟨by rw [HS.out]; rfl, L1.out.trans (Below.mono HD.out L1.out.size)⟩
      · have HM := Aside0.mk (HM.out he)
        rw [decide_eq_false he]
        clear he HS
        go_wp2
        go_roundw
        case rel => exact ⟨k + 1, by omega, by go_num, HM.out, HD.out⟩
        case measure => simp [intOf]; omega
    · obtain rfl : k = c.L.length := by omega
      have HS : Aside0 (fnd c.L nm = -1) := ⟨fnd_none (fun x hx => HT.out x (by rw [List.take_length]; exact hx))⟩
      go_wp2
      go_ret
      exact ⟨by rw [HS.out]; rfl, L1.out.trans (Below.mono HB.out L1.out.size)⟩
end Go.Proofs.Ytnkkjmbpopodlaa
