/- Plain lemmas and contracts, several texts in one: ClV1, ClV2. Conditions: their own. -/
import Derived.Test.YtnkkjmbpopodlaaDoorG14
namespace Go.Proofs.YtnkkjmbpopodlaaDoor
open Go.Proofs.YtnkkjmbpopodlaaDoorW.PrintLast (i64_w i32_w)
open Go.RowKit Go.Proofs.YtnkkjmbpopodlaaDoorW.PrintWords Go.Proofs.YtnkkjmbpopodlaaDoorW.PrintMore
set_option linter.unusedVariables false
set_option linter.unusedSimpArgs false
theorem add_field (a : Addr) (i j : Nat) (h : 0 < j) : a.add (i + j) = ⟨(a.add i).block, (a.add i).off + j, none⟩ := by
  unfold Addr.add
  by_cases hi : i = 0
  · subst hi
    simp [show ¬ j = 0 by omega]
  · simp [hi, show ¬ i + j = 0 by omega, Nat.add_assoc]
/-- A document's client's cells. -/
def Rv (c : Cl) (v : Value) : List Value := [v, .int .i64 c.window, .int .i64 c.timeout, .int .i64 c.tries, .int .i64 c.seq, .int .i64 c.e]
theorem Rv_one {c : Cl} {v : Value} (hv : v.oneCell' = true) : ∀ u ∈ Rv c v, u.oneCell' = true := by
  intro u hu
  simp only [Rv, List.mem_cons, List.not_mem_nil, or_false] at hu
  rcases hu with rfl | rfl | rfl | rfl | rfl | rfl
  · exact hv
  all_goals rfl
theorem size_rv (c : Cl) (v : Value) : (Tryd.prog.info? 33).map (·.size) = some (Rv c v).length := by
  show _ = some 6
  kernel_rfl
theorem built_rv (a b d : Int) : Tryd.prog.built 33 [(1, .int .i64 a), (2, .int .i64 b), (3, .int .i64 d)] = some (Rv ⟨[], a, b, d, 0, 0⟩ (.slice none 0 0)).toArray := by kernel_rfl
theorem infoRC : (Tryd.prog.info? 33).map (fun i => (i.zero, i.size, i.bytes)) = some (some (.agg (Rv ⟨[], 0, 0, 0, 0, 0⟩ (.slice none 0 0)).toArray), 6, 64) := by kernel_rfl
theorem rv_cells {w : World} {g T : Nat} {c : Cl} {v : Value} {fr : Nat × Nat} (h : w.heap[g]? = some (.cells (Rv c v).toArray T fr)) :
    w.cell? ⟨g, 0, none⟩ = some v ∧ w.cell? ⟨g, 1, none⟩ = some (.int .i64 c.window) ∧ w.cell? ⟨g, 2, none⟩ = some (.int .i64 c.timeout) ∧ w.cell? ⟨g, 3, none⟩ = some (.int .i64 c.tries) ∧ w.cell? ⟨g, 4, none⟩ = some (.int .i64 c.seq) ∧ w.cell? ⟨g, 5, none⟩ = some (.int .i64 c.e) := by
  have hc := fun j => cell_of_row w g j _ T fr h
  refine ⟨?_, ?_, ?_, ?_, ?_, ?_⟩
  all_goals
    rw [hc]
    rfl
section
variable {ops : Array Oper} {rest : List Oper} {o : Oper} {a : Act} {Q : Exit → Act → World → Prop} {w : World}
theorem new_rc {o1 o2 : Oper} {N : Tmp} {c : Cl} {v : Value} (hg1 : o1.guard = none) (hg2 : o2.guard = none) (hd1 : o1.dst = some N) (ho1 : o1.op = .alloc 33) (y : Operand) (ho2 : o2.op = .store 33 (.tmp N) y) (hN : N < a.tmps.size)
    (hy : (a.put (some N) (.pointer (some ⟨w.heap.size, 0, none⟩))).eval y = .agg (Rv c v).toArray) (hv : v.oneCell' = true)
    (h : ∀ w1 g, NewBlk w w1 g (.cells (Rv c v).toArray 33 (0, 0)) → wpList Tryd.prog ops Q rest ((a.put (some N) (.pointer (some ⟨g, 0, none⟩))).put o2.dst undef) w1) : wpList Tryd.prog ops Q (o1 :: o2 :: rest) a w := by
  obtain ⟨it, hi, hz, hs, _⟩ := info_parts infoRC
  exact new_var hg1 hg2 hd1 _ ho1 y ho2 hN hy hi hz rfl hs (Rv_one hv) h
end
/-- An element's fields. -/
theorem kv_at {w : World} {A : Option Addr} {n : Nat} {L : List Wt} (h : RdV w A n L) {k : Nat} (hk : k < n) : ∃ ad, A = some ad ∧ (wd L k).nm.length = 32 ∧ (∀ W, Below w.heap.size w W →
    (∀ j u, (rcells (wd L k))[j]? = some u → W.cell? (ad.add (k * 36 + j)) = some u) ∧ (∀ j u, (Nm (wd L k).nm)[j]? = some u → W.cell? (ad.add (k * 36 + j)) = some u) ∧ W.cell? ⟨(ad.add (k * 36)).block, (ad.add (k * 36)).off + 32, none⟩ = some (.int .i64 (wd L k).st) ∧ W.cell? ⟨(ad.add (k * 36)).block, (ad.add (k * 36)).off + 33, none⟩ = some (.int .i64 (wd L k).seq) ∧ W.cell? ⟨(ad.add (k * 36)).block, (ad.add (k * 36)).off + 34, none⟩ = some (.int .i64 (wd L k).due) ∧ W.cell? ⟨(ad.add (k * 36)).block, (ad.add (k * 36)).off + 35, none⟩ = some (.int .i64 (wd L k).asks)) := by
  obtain ⟨ad, e, h32, hc⟩ := kf_at h default k hk
  refine ⟨ad, e, h32, fun W hW => ?_⟩
  obtain ⟨a0, a1, a2, a3, a4⟩ := four_at (wd L k).nm (.int .i64 (wd L k).st) (.int .i64 (wd L k).seq) (.int .i64 (wd L k).due) (.int .i64 (wd L k).asks) h32
  have hcw : ∀ j u, (rcells (wd L k))[j]? = some u → W.cell? (ad.add (k * 36 + j)) = some u := fun j u hu => pw_cell_below hW (hc j u hu)
  refine ⟨hcw, fun j u hu => hcw j u (a4 j u hu), ?_, ?_, ?_, ?_⟩
  · rw [← add_field _ _ _ (by omega)]; exact hcw _ _ a0
  · rw [← add_field _ _ _ (by omega)]; exact hcw _ _ a1
  · rw [← add_field _ _ _ (by omega)]; exact hcw _ _ a2
  · rw [← add_field _ _ _ (by omega)]; exact hcw _ _ a3
theorem fnd_some {L : List Wt} {nm : List Int} {k : Nat} (hk : k < L.length) (h : ∀ x ∈ L.take k, x.nm ≠ nm) (hp : (wd L k).nm = nm) : fnd L nm = k := fst_some (d := default) hk (fun x hx => by simp [h x hx]) (by show decide ((wd L k).nm = nm) = true; simp [hp])
theorem fnd_none {L : List Wt} {nm : List Int} (h : ∀ x ∈ L, x.nm ≠ nm) : fnd L nm = -1 := fst_none (fun x hx => by simp [h x hx])
theorem take_mem {L : List Wt} {k : Nat} {Q : Wt → Prop} (hk : k < L.length) (h : ∀ x ∈ L.take k, Q x) (hp : Q (wd L k)) : ∀ x ∈ L.take (k + 1), Q x := by
  intro x hx
  rw [List.take_add_one, List.getElem?_eq_getElem hk] at hx
  rcases List.mem_append.1 hx with hx | hx
  · exact h x hx
  · unfold wd at hp
    rw [List.getD_eq_getElem?_getD, List.getElem?_eq_getElem hk] at hp
    rw [List.mem_singleton.1 hx]; exact hp
set_option maxRecDepth 20000 in
set_option maxHeartbeats 1600000 in
theorem rfind_calls (c : Cl) (A : Option Addr) (n cp : Nat) (nm : List Int) (C D : Array Value) (w : World) (hC : C = (Rv c (.slice A n cp)).toArray) (hD : D = (Nm nm).toArray) (h : RdV w A n c.L) (hn : nm.length = 32) (hl : n ≤ 1048576) :
    Calls Tryd.prog 60 #[.agg C, .agg D] w fun e w' => e = .returned (.int .i64 (fnd c.L nm)) ∧ Below w.heap.size w w' := by
  obtain ⟨w1, hw1⟩ : ∃ w1, w1 = (w.alloc (.cells C 33)).alloc (.cells D 40) := ⟨_, rfl⟩
  have F1 : Aside0 (w1.heap[w.heap.size]? = some (.cells (Rv c (.slice A n cp)).toArray 33 (0, 0))) := ⟨by rw [hw1, hC]; exact heap_alloc2_old w _ _⟩
  have F2 : Aside0 (w1.heap[w.heap.size + 1]? = some (.cells (Nm nm).toArray 40 (0, 0))) := ⟨by rw [hw1, hD]; exact heap_alloc2_new w _ _⟩
  have L1 : Aside0 (Below w.heap.size w w1) := ⟨by rw [hw1]; exact ((Below.refl _ _).alloc (Nat.le_refl _) _).alloc (by simp) _⟩
  have HR := Aside0.mk (Kd.C_below h L1.out)
  have HN := Aside0.mk hn
  obtain rfl : c.L.length = n := h.1
  have hgd : Tryd.prog.eqGuardType Tryd.prog.depth 40 = false := by kernel_rfl
  clear hC hD h hn
  go_enter Tryd.func60, Tryd.ntmps60
  go_upto_region 1 with fail
  refine at_w1 (w := w1) hw1 ?_
  clear hw1
  go_wp2
  go_loopw [5] (fun i wr => ∃ k : Nat, k ≤ c.L.length ∧ i = .int .i64 k ∧ (∀ x ∈ c.L.take k, x.nm ≠ nm) ∧ Below w1.heap.size w1 wr) (fun i _ => c.L.length - (intOf i).toNat)
  case atStart => exact ⟨0, Nat.zero_le _, rfl, (fun x hx => by simp at hx), Below.refl _ _⟩
  case round =>
    obtain ⟨k, hk, rfl, hT, hB⟩ := hrel
    have HT := Aside0.mk hT
    have HB := Aside0.mk hB
    clear hT hB
    have q0 := (rv_cells (Later.heap HB.out F1.out)).1
    by_cases hlt : k < c.L.length
    · obtain ⟨ad, rfl, h32, hc⟩ := kv_at HR.out hlt
      have HC := Aside0.mk hc
      have H32 := Aside0.mk h32
      have HS := Aside0.mk (fnd_some (nm := nm) hlt HT.out)
      have HM := Aside0.mk (take_mem (Q := fun x => x.nm ≠ nm) hlt HT.out)
      generalize wd c.L k = x at *
      have hltI : (k : Int) < (c.L.length : Int) := by omega
      have HD : Aside0 (Below w1.heap.size w1 wr.drew) := ⟨Below.drew HB.out⟩
      clear hc h32
      go_upto_region 4 with fail
      clear q0
      refine seq_startN [] (.take 0 (.take 1 (.take 2 (.take 3 (.take 4 (.take 5 (.take 6 (.take 7 .done)))))))) (by kernel_rfl) (by kernel_rfl) ?_
      refine seq_take (v := ?_) (a' := ?_) rfl rfl (by rfl) (fun w' hw' => ?_) ?_ ?_
      rotate_left 2
      · go_simp
        with_reducible rfl
      · simp only [Act.put, List.setIfInBounds_toArray, List.set_cons_zero, List.set_cons_succ, i64_w, i32_w]
        rfl
      refine seq_take (v := ?_) (a' := ?_) rfl rfl (by rfl) (fun w' hw' => ?_) ?_ ?_
      rotate_left 2
      · have q0 := (rv_cells (Later.heap (Later.trans HD.out hw') F1.out)).1; go_simp
        with_reducible rfl
      · simp only [Act.put, List.setIfInBounds_toArray, List.set_cons_zero, List.set_cons_succ, i64_w, i32_w]
        rfl
      refine seq_take (v := ?_) (a' := ?_) rfl rfl (by rfl) (fun w' hw' => ?_) ?_ ?_
      rotate_left 2
      · go_simp
        with_reducible rfl
      · simp only [Act.put, List.setIfInBounds_toArray, List.set_cons_zero, List.set_cons_succ, i64_w, i32_w]
        rfl
      refine seq_take (v := ?_) (a' := ?_) rfl rfl (by rfl) (fun w' hw' => ?_) ?_ ?_
      rotate_left 2
      · go_simp
        with_reducible rfl
      · simp only [Act.put, List.setIfInBounds_toArray, List.set_cons_zero, List.set_cons_succ, i64_w, i32_w]
        rfl
      refine seq_take (v := ?_) (a' := ?_) rfl rfl (by rfl) (fun w' hw' => ?_) ?_ ?_
      rotate_left 2
      · go_simp
        with_reducible rfl
      · simp only [Act.put, List.setIfInBounds_toArray, List.set_cons_zero, List.set_cons_succ, i64_w, i32_w]
        rfl
      refine seq_take (v := _) (a' := ?_) rfl rfl (by rfl) (fun w' hw' => load_run rfl (p := .pointer (some (ad.add (k * 36)))) rfl (ld_elem (HC.out w' (Later.trans HD.out hw')).2.1 40 _ Tryd.underlying40 rfl (size_d x.nm H32.out))) ?_ ?_
      rotate_left
      · simp only [Act.put, List.setIfInBounds_toArray, List.set_cons_zero, List.set_cons_succ, i64_w, i32_w]
        rfl
      refine seq_take (v := _) (a' := ?_) rfl rfl (by rfl) (fun w' hw' => load_run rfl rfl (ld_row (Later.heap (Later.trans HD.out hw') F2.out) 40 _ Tryd.underlying40 rfl (by rw [List.size_toArray]; exact size_d nm HN.out))) ?_ ?_
      rotate_left
      · simp only [Act.put, List.setIfInBounds_toArray, List.set_cons_zero, List.set_cons_succ, i64_w, i32_w]
        rfl
      refine seq_take (v := _) (a' := ?_) rfl rfl (by rfl) (fun w' hw' => bin_run .eql 40 (.tmp 18) (.tmp 19) 40 rfl (p := .agg (Nm x.nm).toArray) (q := .agg (Nm nm).toArray) rfl rfl (run_eqGuard_agg _ .eql _ _ _ _ _ hgd) (d_eql H32.out HN.out)) ?_ ?_
      rotate_left
      · simp only [Act.put, List.setIfInBounds_toArray, List.set_cons_zero, List.set_cons_succ, i64_w, i32_w]
        rfl
      refine seq_endN ?_
      by_cases he : x.nm = nm
      · have HS := Aside0.mk (HS.out he)
        rw [decide_eq_true he]
        clear he HM
        go_wp2
        go_ret
        exact ⟨by rw [HS.out]; rfl, L1.out.trans (Below.mono HD.out L1.out.size)⟩
      · have HM := Aside0.mk (HM.out he)
        rw [decide_eq_false he]
        clear he HS
        go_wp2
        go_roundw
        case rel => exact ⟨k + 1, by omega, by go_num, HM.out, HD.out⟩
        case measure => simp [intOf]; omega
    · obtain rfl : k = c.L.length := by omega
      have HS : Aside0 (fnd c.L nm = -1) := ⟨fnd_none (fun x hx => HT.out x (by rw [List.take_length]; exact hx))⟩
      go_wp2
      go_ret
      exact ⟨by rw [HS.out]; rfl, L1.out.trans (Below.mono HB.out L1.out.size)⟩
end Go.Proofs.YtnkkjmbpopodlaaDoor
namespace Go.Proofs.YtnkkjmbpopodlaaDoor
open Go.Proofs.YtnkkjmbpopodlaaDoorW.PrintLast (i64_w i32_w)
open Go.RowKit Go.Proofs.YtnkkjmbpopodlaaDoorW.PrintWords Go.Proofs.YtnkkjmbpopodlaaDoorW.PrintMore
set_option linter.unusedVariables false
set_option linter.unusedSimpArgs false
set_option maxRecDepth 20000 in
set_option maxHeartbeats 3200000 in
theorem rnew_calls (A : Option Addr) (n cp : Nat) (ns : List (List Int)) (window timeout tries : Int) (w : World) (h : RdD w A n ns) (hn : n ≤ 1024) :
    Calls Tryd.prog 33 #[.slice A n cp, .int .i64 window, .int .i64 timeout, .int .i64 tries] w fun e w' => ∃ B d, e = .returned (.agg (Rv ⟨newL [] ns, window, timeout, tries, 0, 0⟩ (.slice B (newL [] ns).length d)).toArray) ∧ OwV w' w.heap.size (.slice B (newL [] ns).length d) (newL [] ns) ∧ Below w.heap.size w w' := by
  have HX := Aside0.mk h
  obtain rfl : ns.length = n := h.1
  obtain ⟨w1, hw1⟩ : ∃ w1, w1 = w.alloc (.cells (Rv ⟨[], 0, 0, 0, 0, 0⟩ (.slice none 0 0)).toArray 33) := ⟨_, rfl⟩
  have F1 : Aside0 (w1.heap[w.heap.size]? = some (.cells (Rv ⟨[], 0, 0, 0, 0, 0⟩ (.slice none 0 0)).toArray 33 (0, 0))) := ⟨by rw [hw1]; exact blk_new w _⟩
  have L1 : Aside0 (Below w.heap.size w w1) := ⟨by rw [hw1]; exact below_alloc (Below.refl _ w) _⟩
  clear h
  go_enter Tryd.func33, Tryd.ntmps33
  go_upto_region 1 with fail
  refine at_w1 (w := w1) hw1 ?_
  clear hw1
  go_wp2_with (first
    | ((with_reducible refine at_bd 33 ?_); refine build_arm rfl 33 _ rfl (built_rv window timeout tries) ?_; simp only [Act.put, List.setIfInBounds_toArray, List.set_cons_zero, List.set_cons_succ])
    | ((with_reducible refine at_al 33 ?_); refine new_rc rfl rfl rfl rfl (.tmp 14) rfl (of_decide_eq_true rfl) rfl rfl ?_; rintro w2 g2 N2; have HN2 := Aside0.mk N2; clear N2)
    | fail)
  have F2 : Aside0 (w2.heap[w.heap.size]? = some (.cells (Rv ⟨[], 0, 0, 0, 0, 0⟩ (.slice none 0 0)).toArray 33 (0, 0))) := ⟨HN2.out.blk F1.out⟩
  have L2 : Aside0 (Below w.heap.size w w2) := ⟨L1.out.trans (Below.mono HN2.out.below L1.out.size)⟩
  have HG2 : Aside0 (w1.heap.size ≤ g2 ∧ g2 < w2.heap.size ∧ w.heap.size < w1.heap.size) := ⟨⟨HN2.out.ge, HN2.out.lt, blk_lt F1.out⟩⟩
  have HW2 := Aside0.mk HN2.out.at_
  clear HN2 F1
  go_loopw [10] (fun i wr => ∃ (k : Nat) (v : Value), k ≤ ns.length ∧ i = .int .i64 k ∧ wr.heap[g2]? = some (.cells (Rv ⟨newL [] (ns.take k), window, timeout, tries, 0, 0⟩ v).toArray 33 (0, 0)) ∧ OwV wr w2.heap.size v (newL [] (ns.take k)) ∧ Below w1.heap.size w2 wr) (fun i _ => ns.length - (intOf i).toNat)
  case atStart => exact ⟨0, _, Nat.zero_le _, rfl, HW2.out, Kd.R_nil _ _ _ _ _, Below.refl _ _⟩
  case round =>
    obtain ⟨k, v, hk, rfl, hG, hO, hB⟩ := hrel
    have HG := Aside0.mk hG
    have HO := Aside0.mk hO
    have HB := Aside0.mk hB
    clear hG hO hB
    by_cases hlt : k < ns.length
    · have HBW : Aside0 (Below w.heap.size w wr) := ⟨L2.out.trans (HB.out.mono (by have := HG2.out; omega))⟩
      obtain ⟨ad, rfl, hx32, hxc⟩ := kf_at (Kd.C_below HX.out HBW.out) [] k hlt
      have HXC := Aside0.mk hxc
      have HX32 := Aside0.mk hx32
      have HT := Aside0.mk (newL_take hlt)
      have hll : (newL [] (ns.take k)).length ≤ 1024 := by
        have := newL_len [] (ns.take k)
        rw [List.length_take] at this
        simp only [List.length_nil] at this
        omega
      generalize ns.getD k [] = X at *
      generalize newL [] (ns.take k) = L at *
      obtain ⟨VA, vc, rfl, -, hrv⟩ := Kd.R_reads HO.out
      have HRV := Aside0.mk hrv
      have hltI : (k : Int) < (ns.length : Int) := by omega
      have HD0 : Aside0 (Below wr.heap.size wr wr.drew) := ⟨Below.drew (Below.refl _ wr)⟩
      have HLD : Aside0 (∀ W, Below wr.heap.size wr W → (Instr.loadAt 40 (.pointer (some (ad.add (k * 32))))).run Tryd.prog W = .ok (.agg (Nm X).toArray) W) := ⟨fun W hW => ld_elem (fun j u h => pw_cell_below hW (HXC.out j u h)) 40 _ Tryd.underlying40 rfl (size_d X HX32.out)⟩
      have HFI : Aside0 (∀ W, Below wr.heap.size wr W → Calls Tryd.prog 60 #[.agg (Rv ⟨L, window, timeout, tries, 0, 0⟩ (.slice VA L.length vc)).toArray, .agg (Nm X).toArray] W fun e w' => e = .returned (.int .i64 (fnd L X)) ∧ Below W.heap.size W w') := ⟨fun W hW => rfind_calls ⟨L, window, timeout, tries, 0, 0⟩ VA L.length vc X _ _ W rfl rfl (Kd.C_below HRV.out hW) HX32.out (by omega)⟩
      clear hxc hx32 hrv
      have hfr := fst_range (fun x => decide (Wt.nm x = X)) L
      rw [show fst (fun x => decide (Wt.nm x = X)) L = fnd L X from rfl] at hfr
      generalize fnd L X = f at *
      have HDD : Aside0 (∀ W, Later wr.drew W → W.heap[g2]? = some (.cells (Rv ⟨L, window, timeout, tries, 0, 0⟩ (.slice VA L.length vc)).toArray 33 (0, 0))) := ⟨fun W hW => Later.heap (Later.trans HD0.out hW) HG.out⟩
      by_cases hf : f < 0
      · rw [if_pos hf] at HT
        go_upto_region 5 with fail
        refine seq_startN [] (.take 0 (.pure 1 (.pure 2 (.take 3 (.take 4 (.run 5 (.take 6 .done))))))) (by kernel_rfl) (by kernel_rfl) ?_
        refine seq_take (v := _) (a' := ?_) rfl rfl (by rfl) (fun w' hw' => load_run rfl rfl (ld_row (HDD.out w' hw') 33 _ Tryd.underlying33 rfl (by rw [List.size_toArray]; exact size_rv _ _))) ?_ ?_
        rotate_left
        · simp only [Act.put, List.setIfInBounds_toArray, List.set_cons_zero, List.set_cons_succ, i64_w, i32_w]
          rfl
        refine seq_pure (v := ?_) (a' := ?_) rfl rfl (by rfl) (fun w' => ?_) ?_ ?_
        rotate_left 2
        · go_simp
          with_reducible rfl
        · simp only [Act.put, List.setIfInBounds_toArray, List.set_cons_zero, List.set_cons_succ, i64_w, i32_w]
          rfl
        refine seq_pure (v := ?_) (a' := ?_) rfl rfl (by rfl) (fun w' => ?_) ?_ ?_
        rotate_left 2
        · go_simp
          with_reducible rfl
        · simp only [Act.put, List.setIfInBounds_toArray, List.set_cons_zero, List.set_cons_succ, i64_w, i32_w]
          rfl
        refine seq_take (v := ?_) (a' := ?_) rfl rfl (by rfl) (fun w' hw' => ?_) ?_ ?_
        rotate_left 2
        · go_simp
          with_reducible rfl
        · simp only [Act.put, List.setIfInBounds_toArray, List.set_cons_zero, List.set_cons_succ, i64_w, i32_w]
          rfl
        refine seq_take (v := _) (a' := ?_) rfl rfl (by rfl) (fun w' hw' => load_run rfl rfl (HLD.out w' (Later.trans HD0.out hw'))) ?_ ?_
        rotate_left
        · simp only [Act.put, List.setIfInBounds_toArray, List.set_cons_zero, List.set_cons_succ, i64_w, i32_w]
          rfl
        refine seq_run ?_
        refine do_call rfl rfl (by rfl) rfl Tryd.func60 (by kernel_rfl) rfl #[.agg (Rv ⟨L, window, timeout, tries, 0, 0⟩ (.slice VA L.length vc)).toArray, .agg (Nm X).toArray] (by simp only [List.map_toArray, List.map_cons, List.map_nil]; rfl) ?_
        with_reducible refine (HFI.out _ HD0.out).mono ?_
        rintro e w3 ⟨rfl, hB3⟩
        refine ⟨_, ?_, rfl, ?_, fun _ => hB3, ?_⟩
        rotate_left
        · simp only [Act.put, List.setIfInBounds_toArray, List.set_cons_zero, List.set_cons_succ, i64_w, i32_w]
          rfl
        have HD3 : Aside0 (Below wr.heap.size wr w3.drew) := ⟨Below.drew (Later.trans HD0.out hB3)⟩
        clear hB3 HDD
        refine seq_take (v := ?_) (a' := ?_) rfl rfl (by rfl) (fun w' hw' => ?_) ?_ ?_
        rotate_left 2
        · go_simp
          with_reducible rfl
        · simp only [Act.put, List.setIfInBounds_toArray, List.set_cons_zero, List.set_cons_succ, i64_w, i32_w]
          rfl
        refine seq_endN ?_
        go_upto_region 6 with fail
        have HO3 : Aside0 (OwV w3.drew w2.heap.size (.slice VA L.length vc) L) := ⟨Kd.R_below HO.out HD3.out⟩
        have HG3 : Aside0 (w3.drew.heap[g2]? = some (.cells (Rv ⟨L, window, timeout, tries, 0, 0⟩ (.slice VA L.length vc)).toArray 33 (0, 0))) := ⟨Later.heap HD3.out HG.out⟩
        have HB3 : Aside0 (Below w1.heap.size w2 w3.drew) := ⟨HB.out.trans (HD3.out.mono (by have := HB.out.size; have := HG2.out; omega))⟩
        have HZ3 : Aside0 (w2.heap.size ≤ w3.drew.heap.size) := ⟨by have := HB3.out.size; exact this⟩
        refine seq_startN [8, 10] (.take 0 (.take 1 (.take 2 (.take 3 (.take 4 (.take 5 (.take 6 (.run 7 (.run 8 (.take 9 (.run 10 .done))))))))))) (by kernel_rfl) (by kernel_rfl) ?_
        refine seq_take (v := ?_) (a' := ?_) rfl rfl (by rfl) (fun w' hw' => ?_) ?_ ?_
        rotate_left 2
        · go_simp
          with_reducible rfl
        · simp only [Act.put, List.setIfInBounds_toArray, List.set_cons_zero, List.set_cons_succ, i64_w, i32_w]
          rfl
        refine seq_take (v := ?_) (a' := ?_) rfl rfl (by rfl) (fun w' hw' => ?_) ?_ ?_
        rotate_left 2
        · have q0 := (rv_cells (Later.heap hw' HG3.out)).1; go_simp
          with_reducible rfl
        · simp only [Act.put, List.setIfInBounds_toArray, List.set_cons_zero, List.set_cons_succ, i64_w, i32_w]
          rfl
        refine seq_take (v := ?_) (a' := ?_) rfl rfl (by rfl) (fun w' hw' => ?_) ?_ ?_
        rotate_left 2
        · go_simp
          with_reducible rfl
        · simp only [Act.put, List.setIfInBounds_toArray, List.set_cons_zero, List.set_cons_succ, i64_w, i32_w]
          rfl
        refine seq_take (v := ?_) (a' := ?_) rfl rfl (by rfl) (fun w' hw' => ?_) ?_ ?_
        rotate_left 2
        · go_simp
          with_reducible rfl
        · simp only [Act.put, List.setIfInBounds_toArray, List.set_cons_zero, List.set_cons_succ, i64_w, i32_w]
          rfl
        refine seq_take (v := ?_) (a' := ?_) rfl rfl (by rfl) (fun w' hw' => ?_) ?_ ?_
        rotate_left 2
        · go_simp
          with_reducible rfl
        · simp only [Act.put, List.setIfInBounds_toArray, List.set_cons_zero, List.set_cons_succ, i64_w, i32_w]
          rfl
        refine seq_take (v := _) (a' := ?_) rfl rfl (by rfl) (fun w' hw' => load_run rfl rfl (HLD.out w' (Later.trans HD3.out hw'))) ?_ ?_
        rotate_left
        · simp only [Act.put, List.setIfInBounds_toArray, List.set_cons_zero, List.set_cons_succ, i64_w, i32_w]
          rfl
        refine seq_take (v := _) (a' := ?_) rfl rfl (by rfl) (fun w' hw' => build_run 110 #[(0, .tmp 33)] rfl (built_v X HX32.out)) ?_ ?_
        rotate_left
        · simp only [Act.put, List.setIfInBounds_toArray, List.set_cons_zero, List.set_cons_succ, i64_w, i32_w]
          rfl
        refine seq_run ?_
        refine do_val (v := _) (a' := ?_) (w1 := _) rfl rfl (by rfl) (row1_exec #[(0, .tmp 34)] rfl Tryd.underlying30 infoV (rcells (Wt.new X)) (rcells_len HX32.out) (by decide) (by decide) rfl) ?_ ?_
        rotate_left
        · simp only [Act.put, List.setIfInBounds_toArray, List.set_cons_zero, List.set_cons_succ, i64_w, i32_w]
          rfl
        refine ⟨fun _ => below_alloc (Below.refl _ _) _, ?_⟩
        refine seq_run ?_
        refine do_appR KV (w0 := w3.drew) (W := w3.drew) w2.heap.size rfl rfl (by rfl) (.tmp 29) (.tmp 35) 30 110 zV 64 rfl Tryd.underlying30 infoV zV_size (by decide) (by decide) (.slice VA L.length vc) L (Wt.new X) (rcells (Wt.new X)) rfl rfl ⟨HX32.out, rfl⟩ HO3.out (Below.refl _ _) HZ3.out (by omega) ?_
        intro v4 w4 hO4 hB4 hG4 _
        refine ⟨fun h => absurd (by simp) h, ?_⟩
        have hgb : w4.heap[g2]? = some (.cells (Rv ⟨L, window, timeout, tries, 0, 0⟩ (.slice VA L.length vc)).toArray 33 (0, 0)) := (hG4.block g2 (blk_lt HG3.out) (Kd.R_ne HO3.out HG3.out (by decide))).trans HG3.out
        obtain ⟨WA, wcc, rfl, -, -⟩ := Kd.R_reads hO4
        rw [show (L ++ [Wt.new X]).length = L.length + 1 by simp] at hO4 ⊢
        have hc0 := (rv_cells hgb).1
        have hf0 : w4.frozen? ⟨g2, 0, none⟩ = false := blk_frozen hgb 0
        have HS4 : Aside0 (SetBlk w4 (w4.setCell ⟨g2, 0, none⟩ (.slice WA (L.length + 1) wcc)) g2 (.cells (Rv ⟨L ++ [Wt.new X], window, timeout, tries, 0, 0⟩ (.slice WA (L.length + 1) wcc)).toArray 33 (0, 0))) := ⟨setBlk_cell (i := 0) hgb _⟩
        have HO4 := Aside0.mk hO4
        have HB4 := Aside0.mk hB4
        have HGB := Aside0.mk hgb
        clear hO4 hG4 hB4 hgb
        refine seq_take (v := ?_) (a' := ?_) rfl rfl (by rfl) (fun w' hw' => ?_) ?_ ?_
        rotate_left 2
        · go_simp
          with_reducible rfl
        · simp only [Act.put, List.setIfInBounds_toArray, List.set_cons_zero, List.set_cons_succ, i64_w, i32_w]
          rfl
        refine seq_run ?_
        refine do_store (w1 := ?_) rfl rfl (by rfl) ?_ ?_
        rotate_left
        · go_simp
          rfl
        refine ⟨fun h => absurd (by simp) h, ?_⟩
        refine seq_endN ?_
        have HO5 : Aside0 (OwV (w4.setCell ⟨g2, 0, none⟩ (.slice WA (L.length + 1) wcc)) w2.heap.size (.slice WA (L.length + 1) wcc) (L ++ [Wt.new X])) := ⟨kf_move HO4.out fun q cells hq hc => HS4.out.else_ q (by have := HG2.out; omega)⟩
        have HB5 : Aside0 (Below w1.heap.size w2 (w4.setCell ⟨g2, 0, none⟩ (.slice WA (L.length + 1) wcc))) := ⟨(HB3.out.trans (HB4.out.mono (by have := HG2.out; omega))).trans (HS4.out.below HG2.out.1)⟩
        go_wp2
        go_roundw
        case rel => exact ⟨k + 1, _, by omega, by go_num, by rw [HT.out]; exact HS4.out.at_, by rw [HT.out]; exact HO5.out, HB5.out⟩
        case measure => simp [intOf]; omega
      · rw [if_neg hf] at HT
        go_upto_region 5 with fail
        refine seq_startN [] (.take 0 (.pure 1 (.pure 2 (.take 3 (.take 4 (.run 5 (.take 6 .done))))))) (by kernel_rfl) (by kernel_rfl) ?_
        refine seq_take (v := _) (a' := ?_) rfl rfl (by rfl) (fun w' hw' => load_run rfl rfl (ld_row (HDD.out w' hw') 33 _ Tryd.underlying33 rfl (by rw [List.size_toArray]; exact size_rv _ _))) ?_ ?_
        rotate_left
        · simp only [Act.put, List.setIfInBounds_toArray, List.set_cons_zero, List.set_cons_succ, i64_w, i32_w]
          rfl
        refine seq_pure (v := ?_) (a' := ?_) rfl rfl (by rfl) (fun w' => ?_) ?_ ?_
        rotate_left 2
        · go_simp
          with_reducible rfl
        · simp only [Act.put, List.setIfInBounds_toArray, List.set_cons_zero, List.set_cons_succ, i64_w, i32_w]
          rfl
        refine seq_pure (v := ?_) (a' := ?_) rfl rfl (by rfl) (fun w' => ?_) ?_ ?_
        rotate_left 2
        · go_simp
          with_reducible rfl
        · simp only [Act.put, List.setIfInBounds_toArray, List.set_cons_zero, List.set_cons_succ, i64_w, i32_w]
          rfl
        refine seq_take (v := ?_) (a' := ?_) rfl rfl (by rfl) (fun w' hw' => ?_) ?_ ?_
        rotate_left 2
        · go_simp
          with_reducible rfl
        · simp only [Act.put, List.setIfInBounds_toArray, List.set_cons_zero, List.set_cons_succ, i64_w, i32_w]
          rfl
        refine seq_take (v := _) (a' := ?_) rfl rfl (by rfl) (fun w' hw' => load_run rfl rfl (HLD.out w' (Later.trans HD0.out hw'))) ?_ ?_
        rotate_left
        · simp only [Act.put, List.setIfInBounds_toArray, List.set_cons_zero, List.set_cons_succ, i64_w, i32_w]
          rfl
        refine seq_run ?_
        refine do_call rfl rfl (by rfl) rfl Tryd.func60 (by kernel_rfl) rfl #[.agg (Rv ⟨L, window, timeout, tries, 0, 0⟩ (.slice VA L.length vc)).toArray, .agg (Nm X).toArray] (by simp only [List.map_toArray, List.map_cons, List.map_nil]; rfl) ?_
        with_reducible refine (HFI.out _ HD0.out).mono ?_
        rintro e w3 ⟨rfl, hB3⟩
        refine ⟨_, ?_, rfl, ?_, fun _ => hB3, ?_⟩
        rotate_left
        · simp only [Act.put, List.setIfInBounds_toArray, List.set_cons_zero, List.set_cons_succ, i64_w, i32_w]
          rfl
        have HD3 : Aside0 (Below wr.heap.size wr w3) := ⟨Later.trans HD0.out hB3⟩
        clear hB3 HDD
        refine seq_take (v := ?_) (a' := ?_) rfl rfl (by rfl) (fun w' hw' => ?_) ?_ ?_
        rotate_left 2
        · go_simp
          with_reducible rfl
        · simp only [Act.put, List.setIfInBounds_toArray, List.set_cons_zero, List.set_cons_succ, i64_w, i32_w]
          rfl
        refine seq_endN ?_
        go_wp2
        go_roundw
        case rel => exact ⟨k + 1, _, by omega, by go_num, by rw [HT.out]; exact Later.heap HD3.out HG.out, by rw [HT.out]; exact Kd.R_below HO.out HD3.out, HB.out.trans (HD3.out.mono (by have := HB.out.size; have := HG2.out; omega))⟩
        case measure => simp [intOf]; omega
    · obtain rfl : k = ns.length := by omega
      have HO1 := HO.out
      have HG1 := HG.out
      rw [List.take_length] at HO1 HG1
      obtain ⟨VA, vc, rfl, -, -⟩ := Kd.R_reads HO1
      have HO1 := Aside0.mk HO1
      have HG1 := Aside0.mk HG1
      have F3 : Aside0 (wr.heap[w.heap.size]? = some (.cells (Rv ⟨[], 0, 0, 0, 0, 0⟩ (.slice none 0 0)).toArray 33 (0, 0))) := ⟨(HB.out.block _ HG2.out.2.2).trans F2.out⟩
      have HNE : Aside0 (w.heap.size ≠ g2) := ⟨by have := HG2.out; omega⟩
      go_wp2_with (first
        | ((with_reducible refine at_ld (w := wr) 33 (.tmp 9) ?_); refine load_arm rfl 33 (.tmp 9) rfl rfl (ld_row HG1.out 33 _ Tryd.underlying33 rfl (by rw [List.size_toArray]; exact size_rv _ _)) ?_; simp only [Act.put, List.setIfInBounds_toArray, List.set_cons_zero, List.set_cons_succ])
        | ((with_reducible refine at_st 33 (.tmp 8) (.tmp 38) ?_); refine store_blk rfl 33 (.tmp 8) (.tmp 38) rfl rfl rfl F3.out rfl (size_rv _ _) (Rv_one rfl) ?_; rintro w4 HS4)
        | fail)
      (try simp only [Exit.inBlock, Exit.then])
      refine bodyPost_ret (v := .agg _) (results_cell1 rfl _ _ w.heap.size _ _ _ _ rfl HS4.at_ Tryd.underlying33 rfl (by rw [List.size_toArray]; exact size_rv _ _)) rfl ⟨VA, vc, rfl, ?_, ?_⟩
      · exact Kd.R_lower (kf_move HO1.out fun q cells hq hc => HS4.else_ q (by have := HG2.out; omega)) (by have := L2.out.size; omega)
      · exact (L2.out.trans (HB.out.mono (by have := HG2.out; omega))).trans (HS4.below (Nat.le_refl _))
end Go.Proofs.YtnkkjmbpopodlaaDoor
