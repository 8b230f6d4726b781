/- client.Client's find, want.asked, New, Left, Asked, Asks, Done, Errno. Conditions: their own. -/
import Derived.Test.YtnkkjmbpopodlaaCl1
namespace Go.Proofs.Ytnkkjmbpopodlaa
open Go.RowKit Go.Proofs.YtnkkjmbpopodlaaW.PrintWords Go.Proofs.YtnkkjmbpopodlaaW.PrintMore
set_option linter.unusedVariables false
set_option linter.unusedSimpArgs false
/-- A row's block. -/
def gOf : Value → Nat
  | .slice (some ad) _ _ => ad.block
  | _ => 0
theorem own_form {w : World} {B : Nat} {v : Value} {L : List Wt} (h : OwP w B v L) (hp : 0 < L.length) : ∃ cp, v = .slice (some ⟨gOf v, 0, none⟩) L.length cp ∧ L.length ≤ cp ∧ B ≤ gOf v ∧ gOf v < w.heap.size := by
  obtain ⟨g, cap, rfl, h1, h2, h3⟩ := Kd.R_form h hp
  obtain ⟨A, c, e, h4, _⟩ := Kd.R_reads h
  injection e with _ _ e3
  exact ⟨cap, rfl, by omega, h1, h2⟩
/-- An element's cells. -/
theorem own_cells {w : World} {B : Nat} {v : Value} {L : List Wt} (h : OwP w B v L) {i : Nat} (hi : i < L.length) :
    w.cell? ⟨gOf v, i * 36 + 32, none⟩ = some (.bool ((wd L i).st == 2)) ∧ w.cell? ⟨gOf v, i * 36 + 33, none⟩ = some (.int .i64 (wd L i).asks) ∧ w.cell? ⟨gOf v, i * 36 + 34, none⟩ = some (.int .i64 (wd L i).seq) ∧ w.cell? ⟨gOf v, i * 36 + 35, none⟩ = some (.int .i64 (wd L i).due) ∧
    w.rangeAt (gOf v) (i * 36) (Nm (wd L i).nm) ∧ (wd L i).nm.length = 32 ∧ w.rangeAt (gOf v) (i * 36) (pcells (wd L i)) ∧ ∀ j, w.frozen? ⟨gOf v, i * 36 + j, none⟩ = false := by
  obtain ⟨cp, hv, _⟩ := own_form h (by omega)
  generalize gOf v = gr at *
  subst hv
  obtain ⟨_, _, e, h4, hr⟩ := Kd.R_reads h
  injection e with e1 _ _
  obtain ⟨ad, e2, hx32, hxc⟩ := kf_at hr default i hi
  rw [← e1] at e2
  obtain rfl := Option.some.inj e2
  have hc : ∀ j u, (pcells (wd L i))[j]? = some u → w.cell? ⟨gr, i * 36 + j, none⟩ = some u := fun j u hu => by
    have := hxc j u hu
    rwa [Addr.add_mid, Nat.zero_add] at this
  obtain ⟨a0, a1, a2, a3, a4⟩ := four_at (wd L i).nm (.bool ((wd L i).st == 2)) (.int .i64 (wd L i).asks) (.int .i64 (wd L i).seq) (.int .i64 (wd L i).due) hx32
  obtain ⟨_, _, _, _, hfz⟩ := Kd.R_elem h default (i : Int) (by omega) (by omega)
  rw [Int.toNat_natCast] at hfz
  exact ⟨hc _ _ a0, hc _ _ a1, hc _ _ a2, hc _ _ a3, fun j u hu => hc _ _ (a4 j u hu), hx32, fun j u hu => hc _ _ hu, hfz⟩
/-- A pointer to one; nil, where there is none. -/
def ptr (v : Value) (i : Int) : Value := .pointer (if i < 0 then none else some ⟨gOf v, i.toNat * 36, none⟩)
theorem ptr_no {v : Value} {i : Int} (h : i < 0) : ptr v i = .pointer none := by unfold ptr; rw [if_pos h]
theorem ptr_at {v : Value} {i : Int} (h : ¬ i < 0) : ptr v i = .pointer (some ⟨gOf v, i.toNat * 36, none⟩) := by unfold ptr; rw [if_neg h]
set_option maxRecDepth 20000 in
theorem find_calls (B g tb : Nat) (c : Cl) (v : Value) (nm : List Int) (C : Array Value) (w : World) (h : PCl w B g tb c v) (hC : C = (Nm nm).toArray) (hn : nm.length = 32) (hl : c.L.length ≤ 1048576) :
    Calls Try.prog 16 #[.pointer (some ⟨g, 0, none⟩), .agg C] w fun e w' => e = .returned (ptr v (fnd c.L nm)) ∧ Below w.heap.size w w' := by
  obtain ⟨w1, hw1⟩ : ∃ w1, w1 = w.alloc (.cells C 51) := ⟨_, rfl⟩
  have HQ : Aside0 (w1.heap[w.heap.size]? = some (.cells (Nm nm).toArray 51 (0, 0))) := ⟨by rw [hw1, hC]; exact blk_new w _⟩
  have HB : Aside0 (Below w.heap.size w w1) := ⟨by rw [hw1]; exact below_alloc (Below.refl _ w) _⟩
  have HP := Aside0.mk (h.below HB.out)
  obtain ⟨A, cp, hv, hcp, hr⟩ := HP.out.reads
  obtain ⟨q0, q1, q2, q3, q4, q5, q6⟩ := HP.out.cells
  have HF : Aside0 (∀ W, Below w1.heap.size w1 W → Calls Try.prog 23 #[.slice A c.L.length cp, .func (.func 24) #[] #[.pointer (some ⟨w.heap.size, 0, none⟩)]] W fun e w' => e = .returned (.int .i64 (fnd c.L nm)) ∧ Below W.heap.size W w') := ⟨fun W hW =>
    ifn1_calls A c.L.length cp c.L (fun x => decide (x.nm = nm)) #[.pointer (some ⟨w.heap.size, 0, none⟩)] W (Kd.C_below hr hW) hl fun x hx W' hW' => find1_calls x nm w.heap.size _ W' rfl (kf_all hr x hx) hn (Later.heap (Later.trans hW hW') HQ.out)⟩
  have hfr := fst_range (fun x => decide (Wt.nm x = nm)) c.L
  rw [show fst (fun x => decide (Wt.nm x = nm)) c.L = fnd c.L nm from rfl] at hfr
  have HFORM : Aside0 (¬ fnd c.L nm < 0 → A = some ⟨gOf v, 0, none⟩) := ⟨fun hf => by
    obtain ⟨cp', e, _⟩ := own_form HP.out.own (by omega)
    rw [hv] at e
    injection e with e1
    rw [hv]; exact e1⟩
  obtain ⟨gr, hgr⟩ : ∃ gr, gOf v = gr := ⟨_, rfl⟩
  rw [hgr] at HFORM
  have hpn : ∀ i, i < 0 → ptr v i = .pointer none := fun i hi => ptr_no hi
  have hpa : ∀ i, ¬ i < 0 → ptr v i = .pointer (some ⟨gr, i.toNat * 36, none⟩) := fun i hi => by rw [ptr_at hi, hgr]
  have HPN := Aside0.mk hpn
  have HPA := Aside0.mk hpa
  clear hgr hpn hpa
  obtain ⟨k, hk⟩ : ∃ k, fnd c.L nm = k := ⟨_, rfl⟩
  rw [hk] at HF hfr HFORM ⊢
  clear hk
  have hmf : ∀ (fn : Fn) (first cap : Array Value) (w : World), (Instr.makeFunc fn first cap).run Try.prog w = .ok (.func fn first cap) w := fun _ _ _ _ => rfl
  clear h hC hr HP
  subst hv
  go_enter Try.func16, Try.ntmps16
  go_upto_region 1 with fail
  refine at_w1 (w := w1) hw1 ?_
  clear hw1 q1 q2 q3 q4 q5 q6
  by_cases hf : k < 0
  · have HPK := Aside0.mk (HPN.out _ hf)
    go_wp2_with (first
      | (go_at_call 23; refine (HF.out w1 (Below.refl _ _)).mono ?_; rintro e w2 ⟨rfl, hB2⟩; have HB2 : Aside0 (Below w.heap.size w w2) := ⟨below_tr HB.out hB2 HB.out.size⟩; clear hB2)
      | fail)
    go_ret
    exact ⟨by rw [HPK.out]; rfl, HB2.out⟩
  · have HPK := Aside0.mk (HPA.out _ hf)
    obtain rfl := HFORM.out hf
    obtain ⟨j, rfl⟩ := Int.eq_ofNat_of_zero_le (show 0 ≤ k by omega)
    clear HFORM
    go_wp2_with (first
      | (go_at_call 23; refine (HF.out w1 (Below.refl _ _)).mono ?_; rintro e w2 ⟨rfl, hB2⟩; have HB2 : Aside0 (Below w.heap.size w w2) := ⟨below_tr HB.out hB2 HB.out.size⟩; have q0 := pw_cell_below hB2 q0; clear hB2)
      | fail)
    go_ret
    exact ⟨by rw [HPK.out]; rfl, HB2.out⟩
/-- Is one asked for? -/
theorem isa_calls (q o : Nat) (d : Bool) (k : Int) (w : World) (h1 : w.cell? ⟨q, o + 32, none⟩ = some (.bool d)) (h2 : w.cell? ⟨q, o + 33, none⟩ = some (.int .i64 k)) :
    Calls Try.prog 20 #[.pointer (some ⟨q, o, none⟩)] w fun e w' => e = .returned (.bool (!d && decide (0 < k))) ∧ w = w' := by
  rcases d with _ | _
  · by_cases hk : 0 < k
    · go_enter Try.func20, Try.ntmps20
      go_wp2
      go_ret
      exact ⟨by simp [hk], rfl⟩
    · go_enter Try.func20, Try.ntmps20
      go_wp2
      go_ret
      exact ⟨by simp [hk], rfl⟩
  · go_enter Try.func20, Try.ntmps20
    go_wp2
    go_ret
    exact ⟨rfl, rfl⟩
theorem Wt.ok.asked {m : Int} {x : Wt} (h : x.ok m) : (!(x.st == 2) && decide (0 < x.asks)) = (x.st == 1) := by
  obtain ⟨_, _, _, _, h5, _, h7⟩ := h
  rcases h7 with ⟨h7, h8⟩ | ⟨h7, h8⟩ | h7
  · simp [h7, h8]
  · simp [h7, h8]
  · simp [h7]
theorem built_cl (window tries : Int) (tb : Nat) : Try.prog.built 49 [(1, .int .i64 window), (2, .int .i64 tries), (4, .func (.func 15) #[] #[.pointer (some ⟨tb, 0, none⟩)])] = some #[.slice none 0 0, .int .i64 window, .int .i64 tries, .int .i64 0, .func (.func 15) #[] #[.pointer (some ⟨tb, 0, none⟩)], .int .i64 0] := by kernel_rfl
def inR (window timeout tries : Int) : Prop := 1 ≤ window ∧ window ≤ 8 ∧ 1 ≤ timeout ∧ timeout ≤ 1000 ∧ 1 ≤ tries ∧ tries ≤ 16
set_option maxRecDepth 20000 in
set_option maxHeartbeats 1600000 in
theorem new_bad (A : Option Addr) (n cp : Nat) (window timeout tries : Int) (w : World) (h : ¬ inR window timeout tries) :
    Calls Try.prog 5 #[.slice A n cp, .int .i64 window, .int .i64 timeout, .int .i64 tries] w fun e w' => e = .returned (.tuple #[.pointer none, .int .i64 1]) ∧ Below w.heap.size w w' := by
  have h2 : (window < 1) ∨ (¬ window < 1 ∧ 8 < window) ∨ (¬ window < 1 ∧ ¬ 8 < window ∧ timeout < 1) ∨ (¬ window < 1 ∧ ¬ 8 < window ∧ ¬ timeout < 1 ∧ 1000 < timeout) ∨ (¬ window < 1 ∧ ¬ 8 < window ∧ ¬ timeout < 1 ∧ ¬ 1000 < timeout ∧ tries < 1) ∨ (¬ window < 1 ∧ ¬ 8 < window ∧ ¬ timeout < 1 ∧ ¬ 1000 < timeout ∧ ¬ tries < 1 ∧ 16 < tries) := by
    unfold inR at h
    omega
  clear h
  rcases h2 with h1 | ⟨h1, h2⟩ | ⟨h1, h2, h3⟩ | ⟨h1, h2, h3, h4⟩ | ⟨h1, h2, h3, h4, h5⟩ | ⟨h1, h2, h3, h4, h5, h6⟩
  all_goals
    go_enter Try.func5, Try.ntmps5
    go_wp2
    go_ret2
    exact ⟨rfl, below_alloc (Below.refl _ w) _⟩
theorem PCl.new {w : World} (window timeout tries : Int) : PCl ((w.alloc (.cells #[.int .i64 timeout] 3)).alloc (.cells #[.slice none 0 0, .int .i64 window, .int .i64 tries, .int .i64 0, .func (.func 15) #[] #[.pointer (some ⟨w.heap.size, 0, none⟩)], .int .i64 0] 49)) w.heap.size (w.heap.size + 1) w.heap.size ⟨[], window, timeout, tries, 0, 0⟩ (.slice none 0 0) :=
  ⟨heap_alloc2_new w _ _, heap_alloc2_old w _ _, Kd.R_nil _ _ _ _ _, by omega, Nat.le_refl _⟩
/-- A client's row is turned. -/
theorem PCl.row {w w1 w2 : World} {B g tb : Nat} {c : Cl} {v v2 : Value} {L : List Wt} (h : PCl w B g tb c v) (hO : OwP w1 B v2 L) (hG : w.grownBy w1 v.ownBlock) (hS : SetBlk w1 w2 g (.cells (Cc c v2 tb) 49 (0, 0))) : PCl w2 B g tb { c with L := L } v2 ∧ Below B w w2 := by
  have hb : w1.heap[tb]? = some (.cells #[.int .i64 c.timeout] 3 (0, 0)) := (hG.block tb (blk_lt h.tim) (Kd.R_ne h.own h.tim (by decide))).trans h.tim
  have hg1 : w1.heap[g]? = some (.cells (Cc c v tb) 49 (0, 0)) := (hG.block g (blk_lt h.blk) (Kd.R_ne h.own h.blk (by decide))).trans h.blk
  have hne : tb ≠ g := fun e => by
    subst e
    rw [hg1] at hb
    injection hb with hb
    injection hb with _ hb
    exact absurd hb (by decide)
  refine ⟨⟨hS.at_, hS.blk hne hb, kf_move hO fun q cells hq hc => hS.else_ q (fun e => ?_), h.hg, h.ht⟩, ?_⟩
  · subst e
    rw [hg1] at hc
    injection hc with hc
    injection hc with _ hc
    exact absurd hc (by decide)
  · refine Below.trans ⟨hG.os, hG.tape, hG.output, hG.size, fun k hk => ?_⟩ (hS.below h.hg)
    have hsz := blk_lt h.blk
    have := h.hg
    refine hG.block k (by omega) (fun e => ?_)
    rcases Kd.R_base2 h.own with h2 | ⟨q, h2, hq⟩
    · rw [h2] at e; cases e
    · rw [h2] at e; injection e with e; omega
set_option maxRecDepth 20000 in
set_option maxHeartbeats 3200000 in
theorem new_ok (A : Option Addr) (n cp : Nat) (ns : List (List Int)) (window timeout tries : Int) (w : World) (h : RdD w A n ns) (hn : n ≤ 1024) (hr : inR window timeout tries) :
    Calls Try.prog 5 #[.slice A n cp, .int .i64 window, .int .i64 timeout, .int .i64 tries] w fun e w' => ∃ g tb v, e = .returned (.tuple #[.pointer (some ⟨g, 0, none⟩), .int .i64 0]) ∧ PCl w' w.heap.size g tb ⟨newL [] ns, window, timeout, tries, 0, 0⟩ v ∧ Below w.heap.size w w' := by
  have HX := Aside0.mk h
  obtain rfl : ns.length = n := h.1
  have HR := Aside0.mk hr
  have hmf : ∀ (fn : Fn) (first cap : Array Value) (w : World), (Instr.makeFunc fn first cap).run Try.prog w = .ok (.func fn first cap) w := fun _ _ _ _ => rfl
  obtain ⟨r1, r2, r3, r4, r5, r6⟩ := hr
  have e1 : ¬ window < 1 := by omega
  have e2 : ¬ 8 < window := by omega
  have e3 : ¬ timeout < 1 := by omega
  have e4 : ¬ 1000 < timeout := by omega
  have e5 : ¬ tries < 1 := by omega
  have e6 : ¬ 16 < tries := by omega
  obtain ⟨w1, hw1⟩ : ∃ w1, w1 = (w.alloc (.cells #[.int .i64 timeout] 3)).alloc (.cells #[.slice none 0 0, .int .i64 window, .int .i64 tries, .int .i64 0, .func (.func 15) #[] #[.pointer (some ⟨w.heap.size, 0, none⟩)], .int .i64 0] 49) := ⟨_, rfl⟩
  have HP0 : Aside0 (PCl w1 w.heap.size (w.heap.size + 1) w.heap.size ⟨[], window, timeout, tries, 0, 0⟩ (.slice none 0 0)) := ⟨by rw [hw1]; exact PCl.new window timeout tries⟩
  have HB0 : Aside0 (Below w.heap.size w w1) := ⟨by rw [hw1]; exact ((Below.refl _ _).alloc (Nat.le_refl _) _).alloc (by simp) _⟩
  clear h r1 r2 r3 r4 r5 r6
  go_enter Try.func5, Try.ntmps5
  go_upto_region 5 with (first | ((with_reducible refine at_bd 49 ?_); refine build_arm rfl 49 _ rfl (built_cl window tries w.heap.size) ?_; simp only [Act.put, List.setIfInBounds_toArray, List.set_cons_zero, List.set_cons_succ]) | fail)
  refine at_w1 (w := w1) hw1 ?_
  clear hw1 e1 e2 e3 e4 e5 e6
  generalize w.heap.size + 1 = g at *
  go_loopw [12, 42] (fun _ i wr => ∃ (k : Nat) (v : Value), k ≤ ns.length ∧ i = .int .i64 k ∧ PCl wr w.heap.size g w.heap.size ⟨newL [] (ns.take k), window, timeout, tries, 0, 0⟩ v ∧ Below w.heap.size w wr) (fun _ i _ => ns.length - (intOf i).toNat)
  case atStart => exact ⟨0, _, Nat.zero_le _, rfl, HP0.out, HB0.out⟩
  case round =>
    obtain ⟨k, v, hk, rfl, hP, hB⟩ := hrel
    have HP := Aside0.mk hP
    have HB := Aside0.mk hB
    clear hP hB HP0 HB0
    by_cases hlt : k < ns.length
    · obtain ⟨ad, rfl, hx32, hxc⟩ := kf_at (Kd.C_below HX.out HB.out) [] k hlt
      have HXC := Aside0.mk hxc
      have HX32 := Aside0.mk hx32
      have HT := Aside0.mk (newL_take hlt)
      have hll : (newL [] (ns.take k)).length ≤ 1024 := by
        have := newL_len [] (ns.take k)
        rw [List.length_take] at this
        simp only [List.length_nil] at this
        omega
      generalize ns.getD k [] = X at *
      generalize newL [] (ns.take k) = L at *
      have HFI : Aside0 (∀ W, Below wr.heap.size wr W → Calls Try.prog 16 #[.pointer (some ⟨g, 0, none⟩), .agg (Nm X).toArray] W fun e w' => e = .returned (ptr v (fnd L X)) ∧ Below W.heap.size W w') := ⟨fun W hW => find_calls w.heap.size g w.heap.size ⟨L, window, timeout, tries, 0, 0⟩ v X _ W (HP.out.below hW) rfl HX32.out (by show L.length ≤ _; omega)⟩
      clear hxc hx32
      by_cases hf : fnd L X < 0
      · rw [if_pos hf] at HT
        rw [ptr_no hf] at HFI
        clear hf
        go_upto_region 8 with (first
          | ((with_reducible refine at_ld 51 (.tmp 44) ?_); refine load_arm rfl 51 (.tmp 44) rfl rfl (ld_elem HXC.out 51 _ Try.underlying51 rfl (size_d X HX32.out)) ?_; simp only [Act.put, List.setIfInBounds_toArray, List.set_cons_zero, List.set_cons_succ])
          | ((with_reducible refine at_al 51 ?_); refine new_dg rfl rfl rfl rfl (.tmp 45) rfl (of_decide_eq_true rfl) rfl HX32.out ?_; rintro w2 g2 N2; have HN2 := Aside0.mk N2; clear N2)
          | ((with_reducible refine at_ld (w := w2) 51 (.tmp 12) ?_); refine load_arm rfl 51 (.tmp 12) rfl rfl (ld_row HN2.out.at_ 51 _ Try.underlying51 rfl (by rw [List.size_toArray]; exact size_d X HX32.out)) ?_; simp only [Act.put, List.setIfInBounds_toArray, List.set_cons_zero, List.set_cons_succ])
          | (go_at_call 16; refine (HFI.out w2 HN2.out.below).mono ?_; rintro e w3 ⟨rfl, hB3⟩; have HB3 := Aside0.mk hB3; clear hB3)
          | fail)
        have HP3 : Aside0 (PCl w3.drew w.heap.size g w.heap.size ⟨L, window, timeout, tries, 0, 0⟩ v) := ⟨HP.out.below (Below.drew (Later.trans HN2.out.below HB3.out))⟩
        have HN3 : Aside0 (w3.drew.heap[g2]? = some (.cells (Nm X).toArray 51 (0, 0))) := ⟨(Later.heap HB3.out HN2.out.at_ : w3.heap[g2]? = _)⟩
        have HB4 : Aside0 (Below w.heap.size w w3.drew) := ⟨HB.out.trans (Below.mono (Below.drew (Later.trans HN2.out.below HB3.out)) HB.out.size)⟩
        clear HB3 HN2
        obtain ⟨VA, vc, rfl, hvc, -⟩ := Kd.R_reads HP3.out.own
        refine seq_startN [8, 11] (.pure 0 (.take 1 (.take 2 (.take 3 (.take 4 (.take 5 (.take 6 (.run 7 (.run 8 (.take 9 (.take 10 (.run 11 .done)))))))))))) (by kernel_rfl) (by kernel_rfl) ?_
        refine seq_pure (v := ?_) (a' := ?_) rfl rfl (by rfl) (fun w' => ?_) ?_ ?_
        rotate_left 2
        · go_simp
          with_reducible rfl
        · simp only [Act.put, List.setIfInBounds_toArray, List.set_cons_zero, List.set_cons_succ, Go.Proofs.YtnkkjmbpopodlaaW.PrintLast.i64_w, Go.Proofs.YtnkkjmbpopodlaaW.PrintLast.i32_w]
          rfl
        refine seq_take (v := ?_) (a' := ?_) rfl rfl (by rfl) (fun w' hw' => ?_) ?_ ?_
        rotate_left 2
        · go_simp
          with_reducible rfl
        · simp only [Act.put, List.setIfInBounds_toArray, List.set_cons_zero, List.set_cons_succ, Go.Proofs.YtnkkjmbpopodlaaW.PrintLast.i64_w, Go.Proofs.YtnkkjmbpopodlaaW.PrintLast.i32_w]
          rfl
        refine seq_take (v := ?_) (a' := ?_) rfl rfl (by rfl) (fun w' hw' => ?_) ?_ ?_
        rotate_left 2
        · go_simp
          with_reducible rfl
        · simp only [Act.put, List.setIfInBounds_toArray, List.set_cons_zero, List.set_cons_succ, Go.Proofs.YtnkkjmbpopodlaaW.PrintLast.i64_w, Go.Proofs.YtnkkjmbpopodlaaW.PrintLast.i32_w]
          rfl
        refine seq_take (v := ?_) (a' := ?_) rfl rfl (by rfl) (fun w' hw' => ?_) ?_ ?_
        rotate_left 2
        · go_simp
          with_reducible rfl
        · simp only [Act.put, List.setIfInBounds_toArray, List.set_cons_zero, List.set_cons_succ, Go.Proofs.YtnkkjmbpopodlaaW.PrintLast.i64_w, Go.Proofs.YtnkkjmbpopodlaaW.PrintLast.i32_w]
          rfl
        refine seq_take (v := ?_) (a' := ?_) rfl rfl (by rfl) (fun w' hw' => ?_) ?_ ?_
        rotate_left 2
        · obtain ⟨q0, q1, q2, q3, q4, q5, q6⟩ := (HP3.out.below hw').cells; go_simp
          with_reducible rfl
        · simp only [Act.put, List.setIfInBounds_toArray, List.set_cons_zero, List.set_cons_succ, Go.Proofs.YtnkkjmbpopodlaaW.PrintLast.i64_w, Go.Proofs.YtnkkjmbpopodlaaW.PrintLast.i32_w]
          rfl
        refine seq_take (v := _) (a' := ?_) rfl rfl (by rfl) (fun w' hw' => load_run rfl rfl (ld_row (Later.heap hw' HN3.out) 51 _ Try.underlying51 rfl (by rw [List.size_toArray]; exact size_d X HX32.out))) ?_ ?_
        rotate_left
        · simp only [Act.put, List.setIfInBounds_toArray, List.set_cons_zero, List.set_cons_succ, Go.Proofs.YtnkkjmbpopodlaaW.PrintLast.i64_w, Go.Proofs.YtnkkjmbpopodlaaW.PrintLast.i32_w]
          rfl
        refine seq_take (v := _) (a' := ?_) rfl rfl (by rfl) (fun w' hw' => build_run 55 #[(0, .tmp 55)] rfl (built_p X HX32.out)) ?_ ?_
        rotate_left
        · simp only [Act.put, List.setIfInBounds_toArray, List.set_cons_zero, List.set_cons_succ, Go.Proofs.YtnkkjmbpopodlaaW.PrintLast.i64_w, Go.Proofs.YtnkkjmbpopodlaaW.PrintLast.i32_w]
          rfl
        refine seq_run ?_
        refine do_val (v := _) (a' := ?_) (w1 := _) rfl rfl (by rfl) (row1_exec #[(0, .tmp 56)] rfl Try.underlying42 infoP (pcells (Wt.new X)) (pcells_len HX32.out) (by decide) (by decide) rfl) ?_ ?_
        rotate_left
        · simp only [Act.put, List.setIfInBounds_toArray, List.set_cons_zero, List.set_cons_succ, Go.Proofs.YtnkkjmbpopodlaaW.PrintLast.i64_w, Go.Proofs.YtnkkjmbpopodlaaW.PrintLast.i32_w]
          rfl
        refine ⟨fun _ => below_alloc (Below.refl _ _) _, ?_⟩
        refine seq_run ?_
        refine do_appR KP (w0 := w3.drew) (W := w3.drew) w.heap.size rfl rfl (by rfl) (.tmp 54) (.tmp 57) 42 55 zP 64 rfl Try.underlying42 infoP zP_size (by decide) (by decide) (.slice VA L.length vc) L (Wt.new X) (pcells (Wt.new X)) rfl rfl ⟨HX32.out, rfl⟩ HP3.out.own (Below.refl _ _) HB4.out.size (by omega) ?_
        intro v2 w4 hO2 hB2 hG2 hAt2
        refine ⟨fun h => absurd (by simp) h, ?_⟩
        have hgb : w4.heap[g]? = some (.cells (Cc ⟨L, window, timeout, tries, 0, 0⟩ (.slice VA L.length vc) w.heap.size) 49 (0, 0)) := (hG2.block g (blk_lt HP3.out.blk) (Kd.R_ne HP3.out.own HP3.out.blk (by decide))).trans HP3.out.blk
        obtain ⟨WA, wcc, rfl, -, -⟩ := Kd.R_reads hO2
        rw [show (L ++ [Wt.new X]).length = L.length + 1 by simp] at hO2 ⊢
        have hc0 : w4.cell? ⟨g, 0, none⟩ = some (.slice VA L.length vc) := by rw [blk_cell hgb]; rfl
        have hf0 : w4.frozen? ⟨g, 0, none⟩ = false := blk_frozen hgb 0
        have HS2 : Aside0 (SetBlk w4 (w4.setCell ⟨g, 0, none⟩ (.slice WA (L.length + 1) wcc)) g (.cells (Cc ⟨L, window, timeout, tries, 0, 0⟩ (.slice WA (L.length + 1) wcc) w.heap.size) 49 (0, 0))) := ⟨setBlk_cell (i := 0) hgb _⟩
        have HO2 := Aside0.mk hO2
        have HG2 := Aside0.mk hG2
        clear hO2 hG2 hB2 hAt2 hgb
        refine seq_take (v := ?_) (a' := ?_) rfl rfl (by rfl) (fun w' hw' => ?_) ?_ ?_
        rotate_left 2
        · go_simp
          with_reducible rfl
        · simp only [Act.put, List.setIfInBounds_toArray, List.set_cons_zero, List.set_cons_succ, Go.Proofs.YtnkkjmbpopodlaaW.PrintLast.i64_w, Go.Proofs.YtnkkjmbpopodlaaW.PrintLast.i32_w]
          rfl
        refine seq_take (v := ?_) (a' := ?_) rfl rfl (by rfl) (fun w' hw' => ?_) ?_ ?_
        rotate_left 2
        · go_simp
          with_reducible rfl
        · simp only [Act.put, List.setIfInBounds_toArray, List.set_cons_zero, List.set_cons_succ, Go.Proofs.YtnkkjmbpopodlaaW.PrintLast.i64_w, Go.Proofs.YtnkkjmbpopodlaaW.PrintLast.i32_w]
          rfl
        refine seq_run ?_
        refine do_store (w1 := ?_) rfl rfl (by rfl) ?_ ?_
        rotate_left
        · go_simp
          rfl
        refine ⟨fun h => absurd (by simp) h, ?_⟩
        refine seq_endN ?_
        have HPN := Aside0.mk (HP3.out.row HO2.out HG2.out HS2.out)
        go_wp2
        go_roundw
        case rel => exact ⟨k + 1, _, by omega, by go_num, by rw [HT.out]; exact HPN.out.1, HB4.out.trans HPN.out.2⟩
        case measure => simp [intOf]; omega
      · rw [if_neg hf] at HT
        rw [ptr_at hf] at HFI
        clear hf
        go_wp2_with (first
          | ((with_reducible refine at_ld 51 (.tmp 44) ?_); refine load_arm rfl 51 (.tmp 44) rfl rfl (ld_elem HXC.out 51 _ Try.underlying51 rfl (size_d X HX32.out)) ?_; simp only [Act.put, List.setIfInBounds_toArray, List.set_cons_zero, List.set_cons_succ])
          | ((with_reducible refine at_al 51 ?_); refine new_dg rfl rfl rfl rfl (.tmp 45) rfl (of_decide_eq_true rfl) rfl HX32.out ?_; rintro w2 g2 N2; have HN2 := Aside0.mk N2; clear N2)
          | ((with_reducible refine at_ld (w := w2) 51 (.tmp 12) ?_); refine load_arm rfl 51 (.tmp 12) rfl rfl (ld_row HN2.out.at_ 51 _ Try.underlying51 rfl (by rw [List.size_toArray]; exact size_d X HX32.out)) ?_; simp only [Act.put, List.setIfInBounds_toArray, List.set_cons_zero, List.set_cons_succ])
          | (go_at_call 16; refine (HFI.out w2 HN2.out.below).mono ?_; rintro e w3 ⟨rfl, hB3⟩; have HB3 := Aside0.mk hB3; clear hB3)
          | fail)
        go_roundw
        case rel => exact ⟨k + 1, v, by omega, by go_num, by rw [HT.out]; exact HP.out.below (Later.trans HN2.out.below HB3.out), HB.out.trans (Below.mono (Later.trans HN2.out.below HB3.out) HB.out.size)⟩
        case measure => simp [intOf]; omega
    · obtain rfl : k = ns.length := by omega
      have HP1 := HP.out
      rw [List.take_length] at HP1
      have HP1 := Aside0.mk HP1
      go_wp2
      go_ret2
      exact ⟨_, _, _, rfl, HP1.out, HB.out⟩
end Go.Proofs.Ytnkkjmbpopodlaa
