/- client.Client's ContainsFunc; one is asked for. Conditions: their own. -/
import Derived.Test.YtnkkjmbpopodlaaCl4
namespace Go.Proofs.Ytnkkjmbpopodlaa
open Go.RowKit Go.Proofs.YtnkkjmbpopodlaaW.PrintWords Go.Proofs.YtnkkjmbpopodlaaW.PrintMore
set_option linter.unusedVariables false
set_option linter.unusedSimpArgs false
set_option maxRecDepth 20000 in
theorem ifn2_calls (A : Option Addr) (n cp : Nat) (xs : List Wt) (p : Wt → Bool) (K : Array Value) (w : World) (h : RdP w A n xs) (hn : n ≤ 1048576)
    (hF : ∀ x ∈ xs, ∀ W, Below w.heap.size w W → Calls Try.prog 30 (#[.agg (pcells x).toArray] ++ K) W fun e W' => e = .returned (.bool (p x)) ∧ Below W.heap.size W W') :
    Calls Try.prog 23 #[.slice A n cp, .func (.func 30) #[] K] w fun e w' => e = .returned (.int .i64 (fst p xs)) ∧ Below w.heap.size w w' := by
  have HX := Aside0.mk h
  obtain rfl : xs.length = n := h.1
  have HF := Aside0.mk hF
  clear h hF
  go_enter Try.func23, Try.ntmps23
  go_wp2
  go_loopw [5, 8] (fun _ i wr => ∃ k : Nat, k ≤ xs.length ∧ i = .int .i64 k ∧ (∀ x ∈ xs.take k, p x = false) ∧ Below w.heap.size w wr) (fun _ i _ => xs.length - (intOf i).toNat)
  case atStart => exact ⟨0, Nat.zero_le _, rfl, (fun x hx => by simp at hx), Below.refl _ _⟩
  case round =>
    obtain ⟨k, hk, rfl, hT, hB⟩ := hrel
    have HB := Aside0.mk hB
    have HT := Aside0.mk hT
    clear hB hT
    by_cases hlt : k < xs.length
    · obtain ⟨ad, rfl, hx32, hxc⟩ := kf_at (Kd.C_below HX.out HB.out) default k hlt
      have HXC := Aside0.mk hxc
      have HX32 := Aside0.mk hx32
      have HC : Aside0 (Calls Try.prog 30 (#[.agg (pcells (xs.getD k default)).toArray] ++ K) wr fun e W' => e = .returned (.bool (p (xs.getD k default))) ∧ Below wr.heap.size wr W') := ⟨HF.out _ (by rw [List.getD_eq_getElem?_getD, List.getElem?_eq_getElem hlt]; exact List.getElem_mem _) wr HB.out⟩
      have HS : Aside0 (p (xs.getD k default) = true → fst p xs = k) := ⟨fun h => fst_some hlt HT.out h⟩
      have HN : Aside0 (p (xs.getD k default) = false → ∀ x ∈ xs.take (k + 1), p x = false) := ⟨fun h x hx => by
        rw [List.take_add_one, List.getElem?_eq_getElem hlt] at hx
        rcases List.mem_append.1 hx with hx | hx
        · exact HT.out x hx
        · rw [List.getD_eq_getElem?_getD, List.getElem?_eq_getElem hlt] at h
          rw [List.mem_singleton.1 hx]; exact h⟩
      generalize xs.getD k default = X at *
      clear hxc hx32
      rcases hp : p X with _ | _
      · have HN := Aside0.mk (HN.out hp)
        rw [hp] at HC
        clear hp HS
        go_wp2_with (first
          | ((with_reducible refine at_ld 55 (.tmp 14) ?_); refine load_arm rfl 55 (.tmp 14) rfl rfl (ld_elem HXC.out 55 _ Try.underlying55 rfl (size_p HX32.out)) ?_; simp only [Act.put, List.setIfInBounds_toArray, List.set_cons_zero, List.set_cons_succ])
          | (go_at_call 30; refine (HC.out).mono ?_; rintro e w1 ⟨rfl, hB1⟩; have HB1 : Aside0 (Below w.heap.size w w1) := ⟨below_tr HB.out hB1 HB.out.size⟩; clear hB1)
          | fail)
        go_roundw
        case rel => exact ⟨k + 1, by omega, by go_num, HN.out, HB1.out⟩
        case measure => simp [intOf]; omega
      · have HS := Aside0.mk (HS.out hp)
        rw [hp] at HC
        clear hp HN
        go_wp2_with (first
          | ((with_reducible refine at_ld 55 (.tmp 14) ?_); refine load_arm rfl 55 (.tmp 14) rfl rfl (ld_elem HXC.out 55 _ Try.underlying55 rfl (size_p HX32.out)) ?_; simp only [Act.put, List.setIfInBounds_toArray, List.set_cons_zero, List.set_cons_succ])
          | (go_at_call 30; refine (HC.out).mono ?_; rintro e w1 ⟨rfl, hB1⟩; have HB1 : Aside0 (Below w.heap.size w w1) := ⟨below_tr HB.out hB1 HB.out.size⟩; clear hB1)
          | fail)
        go_ret
        exact ⟨by rw [HS.out]; rfl, HB1.out⟩
    · obtain rfl : k = xs.length := by omega
      have HS : Aside0 (fst p xs = -1) := ⟨fst_none (fun x hx => HT.out x (by rw [List.take_length]; exact hx))⟩
      go_wp2
      go_ret
      exact ⟨by rw [HS.out]; rfl, HB.out⟩
theorem lost_calls (t : Int) (B g tb q qo qc : Nat) (c : Cl) (v : Value) (A : Option Addr) (cp : Nat) (w : World) (hok : c.ok) (hS : StV w q qo qc g t) (hP : PCl w B g tb c v) (hv : v = .slice A c.L.length cp) :
    Calls Try.prog 29 #[v, .func (.func 30) #[] #[.pointer (some ⟨qo, 0, none⟩), .pointer (some ⟨qc, 0, none⟩)]] w fun e w' => e = .returned (.bool (lostC c t)) ∧ Below w.heap.size w w' := by
  have HF : Aside0 (Calls Try.prog 23 #[v, .func (.func 30) #[] #[.pointer (some ⟨qo, 0, none⟩), .pointer (some ⟨qc, 0, none⟩)]] w fun e w' => e = .returned (.int .i64 (fst (fun x => late t x && decide (c.tries ≤ x.asks)) c.L)) ∧ Below w.heap.size w w') := ⟨by
    obtain ⟨A', cp', e, hcp, hr⟩ := hP.reads
    rw [hv] at e
    injection e with e1 _ e3
    subst e1; subst e3
    rw [hv]
    exact ifn2_calls A c.L.length cp c.L _ _ w hr (by have := hok.l1; omega) fun x hx W hW => step2_calls x c.seq t B g tb q qo qc c v _ W rfl (hok.all x hx) (hS.below hW) (hP.below hW)⟩
  have HE : Aside0 (lostC c t = decide (0 ≤ fst (fun x => late t x && decide (c.tries ≤ x.asks)) c.L)) := ⟨(fst_any _ _).symm⟩
  generalize fst (fun x => late t x && decide (c.tries ≤ x.asks)) c.L = k at *
  subst hv
  clear hok hS hP
  go_enter Try.func29, Try.ntmps29
  go_wp2_with (go_at_call 23; refine HF.out.mono ?_; rintro e w1 ⟨rfl, hB⟩; have HB := Aside0.mk hB; clear hB)
  go_ret
  exact ⟨by rw [HE.out]; rfl, HB.out⟩
theorem own_set {w : World} {B : Nat} {v : Value} {L : List Wt} (h : OwP w B v L) {i : Nat} (hi : i < L.length) {j : Nat} (hj : j < 36) {x' : Wt} {u : Value} (hx : x'.nm.length = 32) (hc : (pcells (wd L i)).take j ++ [u] ++ (pcells (wd L i)).drop (j + 1) = pcells x') :
    OwP (w.setCell ⟨gOf v, i * 36 + j, none⟩ u) B v (L.set i x') := by
  obtain ⟨cp, hv, hcp, hB, hlt⟩ := own_form h (by omega)
  obtain ⟨-, -, -, -, -, h32, hrg, -⟩ := own_cells h hi
  obtain ⟨gr, hgr⟩ : ∃ gr, gOf v = gr := ⟨_, rfl⟩
  rw [hgr] at hv hrg ⊢
  subst hv
  have := (Kd.R_seg (d := KP) (okp := fun _ => False) h (i : Int) (by omega) (by omega) (c := pcells (wd L i)) (seg := [u]) (j := j) (pcells_len h32) (fun j u hu => by rw [Int.toNat_natCast]; exact hrg j u hu) (by show j + 1 ≤ 36; omega) (x' := x') ⟨hx, hc⟩ (fun _ h => h.elim)).1
  rw [Int.toNat_natCast] at this
  exact this
theorem wd_set {L : List Wt} {i : Nat} (h : i < L.length) (x : Wt) : wd (L.set i x) i = x := by
  unfold wd
  rw [List.getD_eq_getElem?_getD, List.getElem?_set_self h]; rfl
theorem set_set {L : List Wt} {i : Nat} (x y : Wt) : (L.set i x).set i y = L.set i y := List.set_set ..
/-- A client's block and row are not each other's. -/
theorem PCl.gne {w : World} {B g tb : Nat} {c : Cl} {v : Value} (h : PCl w B g tb c v) (hp : 0 < c.L.length) : g ≠ gOf v ∧ tb ≠ gOf v ∧ B ≤ gOf v ∧ gOf v < w.heap.size := by
  obtain ⟨cp, hv, hcp, hB, hlt⟩ := own_form h.own hp
  have h1 := Kd.R_ne h.own h.blk (by decide)
  have h2 := Kd.R_ne h.own h.tim (by decide)
  have hob : v.ownBlock = some (gOf v) := by
    obtain ⟨gr, hgr⟩ : ∃ gr, gOf v = gr := ⟨_, rfl⟩
    rw [hgr] at hv ⊢
    rw [hv]; simp [Value.ownBlock]
  rw [hob] at h1 h2
  exact ⟨fun e => h1 (by rw [e]), fun e => h2 (by rw [e]), hB, hlt⟩
theorem PCl.tne {w : World} {B g tb : Nat} {c : Cl} {v : Value} (h : PCl w B g tb c v) : tb ≠ g := fun e => by
  subst e
  have := h.tim
  rw [h.blk] at this
  injection this with this
  injection this with _ this
  exact absurd this (by decide)
/-- A cell of one that is wanted is written. -/
theorem PCl.el {w : World} {B g tb : Nat} {c : Cl} {v : Value} (h : PCl w B g tb c v) {i : Nat} (hi : i < c.L.length) {j : Nat} (hj : j < 36) {x' : Wt} {u : Value} (hx : x'.nm.length = 32) (hc : (pcells (wd c.L i)).take j ++ [u] ++ (pcells (wd c.L i)).drop (j + 1) = pcells x') :
    PCl (w.setCell ⟨gOf v, i * 36 + j, none⟩ u) B g tb { c with L := c.L.set i x' } v ∧ Fr w (w.setCell ⟨gOf v, i * 36 + j, none⟩ u) (fun k => k = g ∨ k = gOf v) := by
  obtain ⟨n1, n2, _, hlt⟩ := h.gne (by omega)
  have hb := fun k (hk : k ≠ gOf v) => Below.heap_setCell w ⟨gOf v, i * 36 + j, none⟩ u k hk
  refine ⟨⟨(hb g n1).trans h.blk, (hb tb n2).trans h.tim, own_set h.own hi hj hx hc, h.hg, h.ht⟩, rfl, rfl, rfl, by simp [World.setCell], fun k hk hS => hb k (fun e => hS (.inr e))⟩
/-- A client's own cell is written. -/
theorem PCl.seqS {w : World} {B g tb : Nat} {c : Cl} {v : Value} (h : PCl w B g tb c v) (s : Int) :
    PCl (w.setCell ⟨g, 3, none⟩ (.int .i64 s)) B g tb { c with seq := s } v ∧ Fr w (w.setCell ⟨g, 3, none⟩ (.int .i64 s)) (fun k => k = g ∨ k = gOf v) := by
  have hS := setBlk_cell (i := 3) h.blk (.int .i64 s)
  exact ⟨⟨hS.at_, hS.blk h.tne h.tim, Kd.R_set h.own h.blk (by decide) 3 _, h.hg, h.ht⟩, (Fr.refl w _).set hS (.inl (.inl rfl))⟩
theorem PCl.errS {w : World} {B g tb : Nat} {c : Cl} {v : Value} (h : PCl w B g tb c v) (s : Int) :
    PCl (w.setCell ⟨g, 5, none⟩ (.int .i64 s)) B g tb { c with e := s } v ∧ Fr w (w.setCell ⟨g, 5, none⟩ (.int .i64 s)) (fun k => k = g) := by
  have hS := setBlk_cell (i := 5) h.blk (.int .i64 s)
  exact ⟨⟨hS.at_, hS.blk h.tne h.tim, Kd.R_set h.own h.blk (by decide) 5 _, h.hg, h.ht⟩, (Fr.refl w _).set hS (.inl rfl)⟩
theorem set_at4 (nm : List Int) (a b c d u : Value) (h : nm.length = 32) : (Nm nm ++ [a, b, c, d]).take 32 ++ [u] ++ (Nm nm ++ [a, b, c, d]).drop 33 = Nm nm ++ [u, b, c, d] ∧ (Nm nm ++ [a, b, c, d]).take 33 ++ [u] ++ (Nm nm ++ [a, b, c, d]).drop 34 = Nm nm ++ [a, u, c, d] ∧ (Nm nm ++ [a, b, c, d]).take 34 ++ [u] ++ (Nm nm ++ [a, b, c, d]).drop 35 = Nm nm ++ [a, b, u, d] ∧ (Nm nm ++ [a, b, c, d]).take 35 ++ [u] ++ (Nm nm ++ [a, b, c, d]).drop 36 = Nm nm ++ [a, b, c, u] := by
  have hl : (Nm nm).length = 32 := by rw [Nm_len, h]
  have ht : ∀ k (l : List Value), (Nm nm ++ l).take (32 + k) = Nm nm ++ l.take k := fun k l => by rw [← hl, List.take_length_add_append]
  have hd : ∀ k (l : List Value), (Nm nm ++ l).drop (32 + k) = l.drop k := fun k l => by rw [← hl, List.drop_length_add_append]
  refine ⟨?_, ?_, ?_, ?_⟩
  · rw [ht 0, hd 1]; simp
  · rw [ht 1, hd 2]; simp
  · rw [ht 2, hd 3]; simp
  · rw [ht 3, hd 4]; simp
theorem due_calls (t T : Int) (tb : Nat) (w : World) (h : w.heap[tb]? = some (.cells #[.int .i64 T] 3 (0, 0))) (h0 : 0 ≤ t) (h1 : t ≤ 1099511627776) (h2 : 0 ≤ T) (h3 : T ≤ 1000) :
    Calls Try.prog 15 #[.int .i64 t, .pointer (some ⟨tb, 0, none⟩)] w fun e w' => e = .returned (.int .i64 (t + T)) ∧ w = w' := by
  have c0 : w.cell? ⟨tb, 0, none⟩ = some (.int .i64 T) := by rw [blk_cell h]; rfl
  have hw : IntKind.i64.wrap (t + T) = t + T := by rw [IntKind.wrap_i64]; omega
  clear h
  go_enter Try.func15, Try.ntmps15
  go_wp2
  go_ret
  exact ⟨rfl, rfl⟩
theorem add_calls (g : Nat) (s : Int) (w : World) (hc : w.cell? ⟨g, 3, none⟩ = some (.int .i64 s)) (hf : w.frozen? ⟨g, 3, none⟩ = false) (h0 : 0 ≤ s) (h1 : s ≤ 4294967296) :
    Calls Try.prog 35 #[.pointer (some ⟨g, 3, none⟩), .int .i64 1] w fun e w' => e = .returned (.int .i64 (s + 1)) ∧ w' = w.setCell ⟨g, 3, none⟩ (.int .i64 (s + 1)) := by
  have hw : IntKind.i64.wrap (s + 1) = s + 1 := by rw [IntKind.wrap_i64]; omega
  have hs : (Op.intArith .add .i64 s 1).run Try.prog w = .ok (.int .i64 (s + 1)) w := by simp [Op.intArith, hw]
  have hld := run_call_add (P := Try.prog) Try.func40 (by kernel_rfl) (by kernel_rfl) (by kernel_rfl) .i64 (by kernel_rfl) hc hf hs
  clear hs hw
  go_enter Try.func35, Try.ntmps35
  go_wp2
  go_ret
  exact ⟨rfl, rfl⟩
end Go.Proofs.Ytnkkjmbpopodlaa
