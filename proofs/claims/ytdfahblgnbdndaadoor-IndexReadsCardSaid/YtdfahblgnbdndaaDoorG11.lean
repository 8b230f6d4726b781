/- Plain lemmas and contracts, several texts in one: Idx4, Idx5, Idx6, Idx8. Conditions: their own. -/
import Derived.Test.YtdfahblgnbdndaaDoorG10
import Derived.Test.YtdfahblgnbdndaaDoorRegionX
namespace Go.Proofs.YtdfahblgnbdndaaDoor
open Go.RowKit Go.Shelf Go.Proofs.YtdfahblgnbdndaaDoorW.PrintWords Go.Proofs.YtdfahblgnbdndaaDoorW.PrintMore
set_option linter.unusedVariables false
set_option linter.unusedSimpArgs false
theorem at_w1 {P : Program} {s : Code} {Q : Exit → Act → World → Prop} {a : Act} {w W : World} (hw : w = W) (h : s.wp P Q a w) : s.wp P Q a W := hw ▸ h
def X0 : Value := .agg (Xc 0 0 0 Z32 (.slice none 0 0)).toArray
set_option maxRecDepth 20000 in
set_option maxHeartbeats 3200000 in
theorem iof_ok (a b c : Nat) (A : Option Addr) (n cp : Nat) (xs : List Int) (w : World) (hm : mayB a b c = true) (h : RdB w A n xs) (hb : Bytes xs) (hK : Roots w) (hn : n ≤ 65536) (hcn : (al a c (pw b) [] xs).length ≤ 4096) :
    Calls Tryd.prog 11 #[.slice A n cp, .agg #[.int .i64 a, .int .i64 b, .int .i64 c]] w fun e w' => ∃ v, e = .returned (.tuple #[.agg (Xc a b c (shaL xs) v).toArray, .int .i64 0]) ∧ OwI w' w.heap.size v (itsOf (al a c (pw b) [] xs)) ∧ Below w.heap.size w w' := by
  obtain rfl : xs.length = n := h.1
  have HX := Aside0.mk h
  have HBY := Aside0.mk hb
  have HK := Aside0.mk hK
  have HM := Aside0.mk hm
  obtain ⟨_, _, _, ea, eb, ec, m1, m2, m3, m4⟩ := mayB_nat hm
  obtain rfl := Int.ofNat.inj ea
  obtain rfl := Int.ofNat.inj eb
  obtain rfl := Int.ofNat.inj ec
  have HSZ := Aside0.mk (al_mem_le (p := pw b) (xs := xs) m1 (by omega : a ≤ c))
  have HTL := Aside0.mk (tells_ok a b c A xs.length cp xs hb hm (by omega))
  obtain ⟨CH, hCH⟩ : ∃ CH, (al a c (pw b) [] xs) = CH := ⟨_, rfl⟩
  have HCE := Aside0.mk hCH
  rw [hCH] at HSZ HTL hcn
  have hnI : ¬ (65536 : Int) < (xs.length : Int) := by omega
  have hcI : ¬ (4096 : Int) < (CH.length : Int) := by omega
  clear h hb hK hm ea eb ec hCH
  obtain ⟨w1, hw1⟩ : ∃ w1, w1 = (w.alloc (.cells #[.int .i64 (a : Int), .int .i64 (b : Int), .int .i64 (c : Int)] 24)).alloc (.cells (Xc 0 0 0 Z32 (.slice none 0 0)).toArray 29) := ⟨_, rfl⟩
  have F1 : Aside0 (w1.heap[w.heap.size]? = some (.cells #[.int .i64 (a : Int), .int .i64 (b : Int), .int .i64 (c : Int)] 24 (0, 0))) := ⟨by rw [hw1]; exact heap_alloc2_old w _ _⟩
  have F2 : Aside0 (w1.heap[w.heap.size + 1]? = some (.cells (Xc 0 0 0 Z32 (.slice none 0 0)).toArray 29 (0, 0))) := ⟨by rw [hw1]; exact heap_alloc2_new w _ _⟩
  have L1 : Aside0 (Below w.heap.size w w1) := ⟨by rw [hw1]; exact ((Below.refl _ _).alloc (Nat.le_refl _) _).alloc (by simp) _⟩
  obtain ⟨q0, q1, q2⟩ := pm_cells F1.out
  go_enter Tryd.func11, Tryd.ntmps11
  go_upto_region 1 with fail
  refine at_w1 (w := w1) hw1 ?_
  clear hw1
  go_wp2_with (first
    | (go_at_call 36; (with_reducible refine at_cw w1 ?_); refine (items_calls a b c A xs.length cp xs CH w1 HM.out (HK.out.below L1.out) HTL.out (Kd.C_below HX.out L1.out) (by omega) (fun x hx => by have := (HSZ.out x hx).2; omega)).mono ?_; rintro e w2 ⟨v, rfl, hO, hB⟩; obtain ⟨vA, vc, rfl, -, -⟩ := Kd.R_reads hO; rw [itsOf_len] at hO ⊢; have HO := Aside0.mk hO; have HB2 := Aside0.mk hB; clear hO hB q0 q1 q2)
    | fail)
  have G2 := Aside0.mk (Later.heap HB2.out F1.out)
  have GR := Aside0.mk (Later.heap HB2.out F2.out)
  have L2 : Aside0 (Below w.heap.size w w2) := ⟨below_tr L1.out HB2.out L1.out.size⟩
  have hl32 := shaL_len xs
  refine seq_startN [5] (.take 0 (.take 1 (.take 3 (.run 2 (.take 4 (.run 5 (.take 6 .done))))))) (by kernel_rfl) (by kernel_rfl) ?_
  refine seq_take (v := ?_) (a' := ?_) rfl rfl (by rfl) (fun w' hw' => ?_) ?_ ?_
  rotate_left 2
  · obtain ⟨q0, q1, q2⟩ := pm_cells (Later.heap hw' (show w2.drew.heap[w.heap.size]? = _ from G2.out)); go_simp
    with_reducible rfl
  · simp only [Act.put, List.setIfInBounds_toArray, List.set_cons_zero, List.set_cons_succ, Go.Proofs.YtdfahblgnbdndaaDoorW.PrintLast.i64_w, Go.Proofs.YtdfahblgnbdndaaDoorW.PrintLast.i32_w]
    rfl
  refine seq_take (v := ?_) (a' := ?_) rfl rfl (by rfl) (fun w' hw' => ?_) ?_ ?_
  rotate_left 2
  · go_simp
    with_reducible rfl
  · simp only [Act.put, List.setIfInBounds_toArray, List.set_cons_zero, List.set_cons_succ, Go.Proofs.YtdfahblgnbdndaaDoorW.PrintLast.i64_w, Go.Proofs.YtdfahblgnbdndaaDoorW.PrintLast.i32_w]
    rfl
  refine seq_take (v := ?_) (a' := ?_) rfl rfl (by rfl) (fun w' hw' => ?_) ?_ ?_
  rotate_left 2
  · go_simp
    with_reducible rfl
  · simp only [Act.put, List.setIfInBounds_toArray, List.set_cons_zero, List.set_cons_succ, Go.Proofs.YtdfahblgnbdndaaDoorW.PrintLast.i64_w, Go.Proofs.YtdfahblgnbdndaaDoorW.PrintLast.i32_w]
    rfl
  refine seq_run ?_
  refine do_call rfl rfl (by rfl) rfl Tryd.func37 (by kernel_rfl) rfl #[.slice A xs.length cp] (by simp only [List.map_toArray, List.map_cons, List.map_nil]; rfl) ?_
  with_reducible refine (psum_calls A xs.length cp xs w2.drew (Kd.C_drew (Kd.C_below HX.out L2.out)) HBY.out ((HK.out.below L2.out).below (Below.drew (Below.refl _ _))) (by omega)).mono ?_
  rintro e w3 ⟨rfl, hB3⟩
  refine ⟨_, ?_, rfl, ?_, fun _ => hB3, ?_⟩
  rotate_left
  · simp only [Act.put, List.setIfInBounds_toArray, List.set_cons_zero, List.set_cons_succ, Go.Proofs.YtdfahblgnbdndaaDoorW.PrintLast.i64_w, Go.Proofs.YtdfahblgnbdndaaDoorW.PrintLast.i32_w]
    rfl
  have HB3 : Aside0 (Below w2.heap.size w2 w3) := ⟨(Below.drew (Below.refl w2.heap.size w2)).trans hB3⟩
  clear hB3
  refine seq_take (v := _) (a' := ?_) rfl rfl (by rfl) (fun w' hw' => build_run 29 #[(0, .tmp 29), (1, .tmp 31), (2, .tmp 32)] rfl (built_x3 a b c (shaL xs) vA CH.length vc hl32)) ?_ ?_
  rotate_left
  · simp only [Act.put, List.setIfInBounds_toArray, List.set_cons_zero, List.set_cons_succ, Go.Proofs.YtdfahblgnbdndaaDoorW.PrintLast.i64_w, Go.Proofs.YtdfahblgnbdndaaDoorW.PrintLast.i32_w]
    rfl
  refine seq_run ?_
  refine do_blk rfl rfl (by rfl) 29 (.tmp 4) (.tmp 33) rfl rfl rfl (Later.heap HB3.out GR.out) (by rw [Xc_len hl32]; exact Xc_len Z32_len) (size_X hl32) (Xc_one rfl) ?_
  rintro w4 HS4
  refine ⟨fun h => absurd (by simp) h, ?_⟩
  refine seq_take (v := ?_) (a' := ?_) rfl rfl (by rfl) (fun w' hw' => ?_) ?_ ?_
  rotate_left 2
  · go_simp
    with_reducible rfl
  · simp only [Act.put, List.setIfInBounds_toArray, List.set_cons_zero, List.set_cons_succ, Go.Proofs.YtdfahblgnbdndaaDoorW.PrintLast.i64_w, Go.Proofs.YtdfahblgnbdndaaDoorW.PrintLast.i32_w]
    rfl
  refine seq_endN ?_
  have L3 : Aside0 (Below w.heap.size w w3) := ⟨below_tr L2.out HB3.out L2.out.size⟩
  go_wp2
  (try simp only [Exit.inBlock, Exit.then])
  refine bodyPost_ret (v := .tuple #[.agg _, _]) (results_cell_tmp rfl _ _ (w.heap.size + 1) _ _ _ _ rfl HS4.at_ Tryd.underlying29 rfl (by rw [List.size_toArray]; exact size_X hl32)) rfl ⟨.slice vA CH.length vc, rfl, ?_, L3.out.trans (HS4.below (by omega))⟩
  rw [HCE.out]
  have hs1 := L1.out.size
  refine Kd.R_lower (kf_move (Kd.R_below HO.out HB3.out) fun k cells hk hc => HS4.else_ k (fun e => ?_)) hs1
  subst e
  rw [Later.heap HB3.out GR.out] at hc
  injection hc with hc
  injection hc with _ hc
  exact absurd hc (by decide)
end Go.Proofs.YtdfahblgnbdndaaDoor
namespace Go.Proofs.YtdfahblgnbdndaaDoor
open Go.RowKit Go.Shelf Go.Proofs.YtdfahblgnbdndaaDoorW.PrintWords Go.Proofs.YtdfahblgnbdndaaDoorW.PrintMore
set_option linter.unusedVariables false
set_option linter.unusedSimpArgs false
/-- A row of bytes that may be appended to: one's own, or one that is full. -/
def ApQ (w : World) (base : Nat) (v : Value) (xs : List Int) : Prop := QB w base v xs ∨ (∃ ad, v = .slice (some ad) xs.length xs.length ∧ RdB w (some ad) xs.length xs ∧ 0 < xs.length)
theorem QB.ap {w : World} {base : Nat} {v : Value} {xs : List Int} (h : QB w base v xs) : ApQ w base v xs := .inl h
theorem ApQ.reads {w : World} {base : Nat} {v : Value} {xs : List Int} (h : ApQ w base v xs) : ∃ A c, v = .slice A xs.length c ∧ xs.length ≤ c ∧ RdB w A xs.length xs := by
  rcases h with h | ⟨ad, rfl, hr, _⟩
  · exact h.reads
  · exact ⟨_, _, rfl, Nat.le_refl _, hr⟩
theorem apq_below {w w1 : World} {base : Nat} {v : Value} {xs : List Int} (h : ApQ w base v xs) (k : Below w.heap.size w w1) : ApQ w1 base v xs := by
  rcases h with h | ⟨ad, rfl, hr, hp⟩
  · exact .inl (h.below k)
  · exact .inr ⟨ad, rfl, Kd.C_below hr k, hp⟩
theorem RdB.cells {w : World} {ad : Addr} {n : Nat} {xs : List Int} (h : RdB w (some ad) n xs) (hp : 0 < n) : ∀ j u, (xs.map (Value.int .u8))[j]? = some u → w.cell? (ad.add j) = some u := by
  intro j u hu
  rw [List.getElem?_map] at hu
  rcases hy : xs[j]? with _ | y
  · rw [hy] at hu; cases hu
  · rw [hy] at hu
    obtain rfl := Option.some.inj hu
    have hj := (List.getElem?_eq_some_iff.1 hy).1
    rw [rdB_at h j (by have := h.1; omega)]
    unfold Go.Proofs.YtdfahblgnbdndaaDoorW.PrintWords.rd
    rw [Int.toNat_natCast, List.getD_eq_getElem?_getD, hy]
    rfl
theorem own_new_row (W : World) (base cap : Nat) (zs : List Int) (tail : Array Value) (hb : base ≤ W.heap.size) (hc : cap = zs.length + tail.size) (hm : cap ≤ 9223372036854775807) :
    OwB (W.alloc (.cells ((zs.map (Value.int .u8)).toArray ++ tail) 5)) base (.slice (some ⟨W.heap.size, 0, none⟩) zs.length cap) zs := by
  refine Kd.R_of_own ⟨by simp [encs], .inr ⟨W.heap.size, cap, _, rfl, hb, blk_new W _, by omega, by simpa [maxLen] using hm, ?_, ?_⟩⟩ (fun _ _ => trivial)
  · simp [hc]
  · simp [encs]
theorem appA_run {W : World} (base : Nat) (ty : TypeId) (v : Value) (xs ys : List Int) (A : Option Addr) (m c : Nat) (HO : ApQ W base v xs) (HR : RdB W A m ys) (hbase : base ≤ W.heap.size) (hm : 0 < m) (hl : xs.length + m ≤ 70368744177664) :
    ∃ v1 w1, (Builtin.append_ #[33, 33] ty #[v, .slice A m c]).run Tryd.prog W = .ok v1 w1 ∧ QB w1 base v1 (xs ++ ys) ∧ W.grownBy w1 v.ownBlock ∧ (v1.ownBlock = v.ownBlock ∨ ∃ b, v1.ownBlock = some b ∧ W.heap.size ≤ b) := by
  rcases HO with HO | ⟨ad, rfl, hr, hp⟩
  · exact appQ_run base ty v xs ys A m c HO HR hbase (by omega)
  · obtain ⟨i0, hi, hz0, hsz, hby⟩ := info_parts infoB
    obtain ⟨bd, rfl, _⟩ := (Kd.reads_of_C (d := (0 : Int)) HR).2.2 hm
    have hyl : ys.length = m := HR.1
    have hrun := run_append_grow (P := Tryd.prog) (w := W) 33 ty 5 i0 (.int .u8 0) Tryd.underlying33 hi hz0 ad xs.length xs.length (xs.map (Value.int .u8)) (by rw [hsz]; simp) (hr.cells hp)
      bd m c (ys.map (Value.int .u8)) (by rw [hsz, List.length_map, hyl]; simp) (HR.cells hm) (by omega) (by omega) (by
        have := growslice_fits (need := xs.length + m) (old := xs.length) (bytes := i0.bytes) (by omega) (by rw [hby]; omega)
        exact this)
    have hcap : xs.length + m ≤ grownCap W (xs.length + m) xs.length 5 := by simpa using grownCap_ge W (xs.length + m) xs.length 5
    have hcapm : grownCap W (xs.length + m) xs.length 5 ≤ 9223372036854775807 := by
      have := grownCap_le_maxLen W (xs.length + m) xs.length 5 (by simp only [maxLen]; omega)
      simpa only [maxLen] using this
    generalize grownCap W (xs.length + m) xs.length 5 = cap at *
    refine ⟨_, _, hrun, ?_, ?_, .inr ⟨_, rfl, Nat.le_refl _⟩⟩
    · have h := own_new_row W.drew base cap (xs ++ ys) (Builtin.zeroCells (Value.int .u8 0).cells (cap - (xs.length + m))) hbase (by rw [List.length_append, hyl]; rw [size_zeroCells]; simp [Value.cells]; omega) hcapm
      rw [List.length_append, hyl, List.map_append, ← List.append_toArray] at h
      exact QB.own h
    · have hg := World.grownBy_alloc W.drew (.cells ((xs.map (Value.int .u8)).toArray ++ (ys.map (Value.int .u8)).toArray ++ Builtin.zeroCells (Value.int .u8 0).cells (cap - (xs.length + m))) 5) (Value.slice (some ad) xs.length xs.length).ownBlock
      exact ⟨hg.os, hg.tape, hg.output, hg.size, hg.block⟩
section
variable {ops : Array Oper} {rest : List Oper} {o : Oper} {a : Act} {Q : Exit → Act → World → Prop}
theorem appA {W : World} (base : Nat) (hgd : o.guard = none) (s x : Operand)
    (ho : o.op = .call { callee := .builtin .append, args := #[s, x], argTypes := #[33, 33] })
    (v : Value) (xs ys : List Int) (A : Option Addr) (m c : Nat) (hs : a.eval s = v) (hx : a.eval x = .slice A m c)
    (HO : ApQ W base v xs) (HR : RdB W A m ys) (hbase : base ≤ W.heap.size) (hm : 0 < m) (hl : xs.length + m ≤ 70368744177664)
    (h : ∀ v1 w1, QB w1 base v1 (xs ++ ys) → W.grownBy w1 v.ownBlock → (v1.ownBlock = v.ownBlock ∨ ∃ b, v1.ownBlock = some b ∧ W.heap.size ≤ b) → wpList Tryd.prog ops Q rest (a.put o.dst v1) w1) :
    wpList Tryd.prog ops Q (o :: rest) a W := by
  obtain ⟨v1, w1, hrun, h2, h3, h4⟩ := appA_run base o.type v xs ys A m c HO HR hbase hm hl
  refine wpList_plain hgd fun K hK => ?_
  unfold Oper.wp execOp
  simp only [ho, resolve, invoke, builtin, Sem.run_bind, Sem.run_pure, Result.andThen_ok, List.map_toArray, List.map_cons, List.map_nil, hs, hx, hrun]
  exact hK _ _ (h v1 w1 h2 h3 h4)
end
theorem le32_len4 (n : Nat) : (le32 n).length = 4 := by simp [le32]
theorem Fr.of_below {w w1 : World} {B : Nat} (h : Below B w w1) : Fr w w1 (fun k => B ≤ k) := ⟨h.os, h.tape, h.output, h.size, fun k _ hk => h.block k (by omega)⟩
/-- What goes along in number. -/
structure NuI (w : World) (base : Nat) (v0 : Value) (xs : List Int) (n k : Nat) (v : Value) (wr : World) : Prop where
  ap : ApQ wr base v (xs ++ (le32 n).take k)
  own : 0 < k → QB wr base v (xs ++ (le32 n).take k)
  fr : Fr w wr (fun q => some q = v0.ownBlock)
  at_ : v.ownBlock = v0.ownBlock ∨ ∃ b, v.ownBlock = some b ∧ w.heap.size ≤ b
theorem NuI.step {w : World} {base : Nat} {v0 : Value} {xs : List Int} {n k : Nat} {v v1 : Value} {wr w1 w2 : World} (h : NuI w base v0 xs n k v wr) (hB : Below wr.heap.size wr w1) (hq : QB w2 base v1 (xs ++ (le32 n).take (k + 1))) (hG : w1.grownBy w2 v.ownBlock) (hA : v1.ownBlock = v.ownBlock ∨ ∃ b, v1.ownBlock = some b ∧ w1.heap.size ≤ b) : NuI w base v0 xs n (k + 1) v1 w2 := by
  have hs := h.fr.size
  have hs2 := hB.size
  refine ⟨.inl hq, fun _ => hq, (h.fr.call hB).grown hG (fun i hi => ?_), ?_⟩
  · rcases h.at_ with e | ⟨b, e, hb⟩
    · exact .inl (by rw [← e, hi])
    · rw [e] at hi
      injection hi with hi
      exact .inr (by omega)
  · rcases hA with e | ⟨b, e, hb⟩
    · rw [e]; exact h.at_
    · exact .inr ⟨b, e, by omega⟩
set_option maxRecDepth 20000 in
theorem inumber_calls (base : Nat) (v0 : Value) (xs : List Int) (n : Nat) (w : World) (h : ApQ w base v0 xs) (hbase : base ≤ w.heap.size) (hl : xs.length ≤ 1099511627776) (hn : n ≤ 1099511627776) :
    Calls Tryd.prog 38 #[v0, .int .i64 (n : Int)] w fun e w' => ∃ v, e = .returned v ∧ QB w' base v (xs ++ le32 n) ∧ Fr w w' (fun q => some q = v0.ownBlock) ∧ (v.ownBlock = v0.ownBlock ∨ ∃ b, v.ownBlock = some b ∧ w.heap.size ≤ b) := by
  have H0 : Aside0 (NuI w base v0 xs n 0 v0 w) := ⟨⟨by rw [List.take_zero, List.append_nil]; exact h, fun h => absurd h (by omega), Fr.refl _ _, .inl rfl⟩⟩
  obtain ⟨A0, c0, rfl, _, _⟩ := h.reads
  clear h
  go_enter Tryd.func38, Tryd.ntmps38
  go_wp2
  go_loopw [0, 1, 5] (fun v m i wr => ∃ k : Nat, k ≤ 4 ∧ i = .int .i64 k ∧ m = .int .i64 ((n / 256 ^ k : Nat) : Int) ∧ NuI w base (.slice A0 xs.length c0) xs n k v wr) (fun _ _ i _ => 4 - (intOf i).toNat)
  case atStart => exact ⟨0, by omega, rfl, by simp, H0.out⟩
  case round =>
    obtain ⟨k, hk, rfl, rfl, hI⟩ := hrel
    have HI := Aside0.mk hI
    have hsz := hI.fr.size
    obtain ⟨A1, c1, hv, _, _⟩ := hI.ap.reads
    subst hv
    clear hI
    by_cases hlt : k < 4
    · have HT := Aside0.mk (le32_snoc n k hlt)
      have HL : Aside0 ((xs ++ (le32 n).take k).length ≤ 1099511627780) := ⟨by simp [le32]; omega⟩
      have HQ : Aside0 (((n / 256 ^ k / 256 : Nat) : Int) = ((n / 256 ^ (k + 1) : Nat) : Int)) := ⟨by rw [Nat.div_div_eq_div_mul, Nat.pow_succ]⟩
      have hq : n / 256 ^ k ≤ 1099511627776 := Nat.le_trans (Nat.div_le_self _ _) hn
      obtain ⟨U, hU⟩ : ∃ U, xs ++ (le32 n).take k = U := ⟨_, rfl⟩
      have HU := Aside0.mk hU
      rw [hU] at HL ⊢
      generalize hz : n / 256 ^ k = z at *
      have HRL := fun (y : Int) => Aside0.mk (rd_lit wr [y] #[.int .u8 y] (0, 0) 1 rfl rfl (by simp))
      clear hz hU
      go_wp2_with (at_builtin; refine appA base rfl (.tmp 7) (.tmp 10) rfl (.slice A1 U.length c1) U [((z : Int) % 256)] (some ⟨wr.heap.size, 0, none⟩) 1 1 rfl rfl (by have h := HI.out.ap; rw [HU.out] at h; exact apq_below h (below_alloc (Below.refl _ wr) _)) (HRL _).out (Nat.le_trans (Nat.le_trans hbase hsz) (by simp)) (by omega) (by have := HL.out; omega) ?_; intro v2 w2 hO2 hG2 hA2; have HN : Aside0 (NuI w base (.slice A0 xs.length c0) xs n (k + 1) v2 w2) := ⟨HI.out.step (below_alloc (Below.refl _ wr) _) (by rw [HT.out, ← List.append_assoc, HU.out]; exact hO2) (by rw [← HU.out] at hG2; exact hG2) (by rw [← HU.out] at hA2; exact hA2)⟩; clear hO2 hG2 hA2)
      go_roundw
      case rel => exact ⟨k + 1, by omega, by go_num, by rw [← HQ.out]; simp, HN.out⟩
      case measure => simp [intOf]; omega
    · obtain rfl : k = 4 := by omega
      go_wp2
      go_ret
      have h := HI.out.own (by omega)
      rw [show (le32 n).take 4 = le32 n from List.take_of_length_le (by simp [le32])] at h
      exact ⟨_, rfl, h, HI.out.fr, HI.out.at_⟩
end Go.Proofs.YtdfahblgnbdndaaDoor
namespace Go.Proofs.YtdfahblgnbdndaaDoor
open Go.RowKit Go.Shelf Go.Proofs.YtdfahblgnbdndaaDoorW.PrintWords Go.Proofs.YtdfahblgnbdndaaDoorW.PrintMore
set_option linter.unusedVariables false
set_option linter.unusedSimpArgs false
def hdr (a b c : Nat) : List Int := [76, 84, 73, 49] ++ le32 a ++ le32 b ++ le32 c
def itB (its : List Itm) : List Int := (its.map (fun x => x.1 ++ le32 x.2.toNat)).flatten
/-- An index's bytes, without and with their check. -/
def xbody (a b c : Nat) (im : List Int) (its : List Itm) : List Int := hdr a b c ++ im ++ le32 its.length ++ itB its
def xbytes (a b c : Nat) (im : List Int) (its : List Itm) : List Int := cput (xbody a b c im its)
theorem itB_len {its : List Itm} (h : ∀ x ∈ its, x.1.length = 32) : (itB its).length = 36 * its.length := by
  induction its with
  | nil => rfl
  | cons x its ih =>
    unfold itB at ih ⊢
    rw [List.map_cons, List.flatten_cons, List.length_append, ih (fun y hy => h y (by simp [hy])), List.length_append, h x (by simp), le32_len4, List.length_cons]
    omega
theorem itB_take {its : List Itm} {k : Nat} (h : k < its.length) : itB (its.take (k + 1)) = itB (its.take k) ++ (its.getD k ([], 0)).1 ++ le32 (its.getD k ([], 0)).2.toNat := by
  have e : its.take (k + 1) = its.take k ++ [its.getD k ([], 0)] := by
    rw [List.take_add_one, List.getD_eq_getElem?_getD, List.getElem?_eq_getElem h]; rfl
  rw [e]
  simp [itB]
theorem hdr_bytes (a b c : Nat) : Bytes (hdr a b c) := (((by intro x hx; simp at hx; omega : Bytes [76, 84, 73, 49]).append (le32_bytes a)).append (le32_bytes b)).append (le32_bytes c)
theorem itB_bytes {its : List Itm} (h : ∀ x ∈ its, Bytes x.1) : Bytes (itB its) := by
  intro y hy
  obtain ⟨l, hl, hy⟩ := List.mem_flatten.1 hy
  obtain ⟨x, hx, rfl⟩ := List.mem_map.1 hl
  exact (h x hx).append (le32_bytes _) y hy
theorem xbody_bytes {a b c : Nat} {im : List Int} {its : List Itm} (h : Bytes im) (k : ∀ x ∈ its, Bytes x.1) : Bytes (xbody a b c im its) := (((hdr_bytes a b c).append h).append (le32_bytes _)).append (itB_bytes k)
theorem xbody_len {a b c : Nat} {im : List Int} {its : List Itm} (h : im.length = 32) (k : ∀ x ∈ its, x.1.length = 32) : (xbody a b c im its).length = 52 + 36 * its.length := by
  unfold xbody hdr
  simp only [List.length_append, le32_len4, itB_len k, h, List.length_cons, List.length_nil]
theorem rd_of_range {w : World} {g o : Nat} {im : List Int} (h : w.rangeAt g o (Nm im)) (hl : im.length ≤ 9223372036854775807) : RdB w (some ⟨g, o, none⟩) im.length im :=
  Kd.C_of_reads (d := (0 : Int)) ⟨rfl, hl, fun _ => ⟨_, rfl, fun j hj => by
    rw [Addr.add_mid]
    refine h j _ ?_
    simp [Nm, List.getD_eq_getElem?_getD, List.getElem?_eq_getElem hj]⟩⟩
theorem fr_remark (w : World) (o o' : Obj) : Fr (w.alloc o) (w.alloc o') (fun k => w.heap.size ≤ k) :=
  ⟨rfl, rfl, rfl, by simp, fun k hk hn => by rw [Below.heap_alloc w o' k (by omega), Below.heap_alloc w o k (by omega)]⟩
theorem seqX_at {P : Program} {ops : Array Oper} {Q : Exit → Act → World → Prop} {ds : List Nat} {X : Nat → Prop} {r : Ord} {a : Act} {w W : World} (hw : w = W) (h : seqX P ops Q ds X r a w) : seqX P ops Q ds X r a W := hw ▸ h
set_option maxRecDepth 20000 in
set_option maxHeartbeats 3200000 in
theorem iwrite_ok (a b c : Nat) (im : List Int) (A : Option Addr) (n cp : Nat) (its : List Itm) (C : Array Value) (w : World) (hC : C = (Xc a b c im (.slice A n cp)).toArray) (hn : im.length = 32) (h : RdI w A n its) (hm : mayX a b c its = true) (hib : Bytes im) (hnb : ∀ x ∈ its, Bytes x.1) :
    Calls Tryd.prog 17 #[.agg C] w fun e w' => ∃ v, e = .returned (.tuple #[v, .int .i64 0]) ∧ OwB w' w.heap.size v (xbytes a b c im its) ∧ Below w.heap.size w w' := by
  obtain rfl : its.length = n := h.1
  have kc := fun (w : World) (C : Array Value) (n c : Nat) => Lib.run_convert_bytes_const (P := Tryd.prog) w 33 5 C n c Tryd.underlying33 Tryd.underlying5
  have HKC := Aside0.mk kc
  have HCE := Aside0.mk hC
  have HX := Aside0.mk h
  have HM := Aside0.mk hm
  have HIB := Aside0.mk hib
  have HNB := Aside0.mk hnb
  obtain ⟨hmb, hl, hall, -⟩ := mayX_spec hm
  obtain ⟨_, _, _, ea, eb, ec, m1, m2, m3, m4⟩ := mayB_nat hmb
  obtain rfl := Int.ofNat.inj ea
  obtain rfl := Int.ofNat.inj eb
  obtain rfl := Int.ofNat.inj ec
  have HALL := Aside0.mk hall
  have HBK : Aside0 ((w.alloc (.cells C 29)).heap[w.heap.size]? = some (.cells C 29 (0, 0))) := ⟨blk_new w _⟩
  have HBX : Aside0 ((w.alloc (.cells C 29)).heap[w.heap.size]? = some (.cells (Xc a b c im (.slice A its.length cp)).toArray 29 (0, 0))) := ⟨by rw [← hC]; exact blk_new w _⟩
  obtain ⟨w1, hw1⟩ : ∃ w1, w1 = w.alloc (.cells C 29) := ⟨_, rfl⟩
  have L1 : Aside0 (Below w.heap.size w w1) := ⟨by rw [hw1]; exact below_alloc (Below.refl _ _) _⟩
  rw [← hw1] at HBK HBX
  clear hC h hm hib hnb hmb hall ea eb ec kc
  go_enter Tryd.func17, Tryd.ntmps17
  go_upto_region 1 with fail
  rw [← hw1]
  clear hw1
  go_wp2_with (first
    | ((with_reducible refine at_ld (w := w1) 29 (.tmp 1) ?_); refine load_arm rfl 29 (.tmp 1) rfl rfl (ld_row HBK.out 29 _ Tryd.underlying29 rfl (by rw [HCE.out, List.size_toArray]; exact size_X hn)) ?_; simp only [Act.put, List.setIfInBounds_toArray, List.set_cons_zero, List.set_cons_succ])
    | (go_at_call 19; refine (imay_calls a b c im A its.length cp its C w1 HCE.out hn (Kd.C_below HX.out L1.out) (by omega)).mono ?_; rw [HM.out]; rintro e w2 ⟨rfl, hB⟩; have L2 := Aside0.mk (below_tr L1.out hB L1.out.size); have HB2 := Aside0.mk hB; clear hB))
  have HL : Aside0 (∀ W, Fr w2 W (fun k => w2.heap.size ≤ k) → W.heap[w.heap.size]? = some (.cells (Xc a b c im (.slice A its.length cp)).toArray 29 (0, 0)) ∧ W.cell? ⟨w.heap.size, 0, none⟩ = some (.int .i64 a) ∧ W.cell? ⟨w.heap.size, 1, none⟩ = some (.int .i64 b) ∧ W.cell? ⟨w.heap.size, 2, none⟩ = some (.int .i64 c) ∧ W.cell? ⟨w.heap.size, 35, none⟩ = some (.slice A its.length cp)) := ⟨fun W hW => by
    have h2 := Later.heap HB2.out HBX.out
    have h3 := (hW.block _ (blk_lt h2) (by have := blk_lt h2; omega)).trans h2
    obtain ⟨q0, q1, q2, q3, _⟩ := x_cells h3 hn
    exact ⟨h3, q0, q1, q2, q3⟩⟩
  refine seqX_startN [] (fun k => w2.heap.size ≤ k) (.take 2 (.take 3 (.take 4 (.take 6 (.take 7 (.take 8 (.take 10 (.take 11 (.take 12 (.run 0 (.run 1 (.run 5 (.run 9 (.run 13 (.take 14 .done))))))))))))))) (by kernel_rfl) (by kernel_rfl) ?_
  obtain ⟨wd, hwd⟩ : ∃ wd, wd = w2.drew := ⟨_, rfl⟩
  have HD : Aside0 (Fr w2 wd (fun k => w2.heap.size ≤ k)) := ⟨by rw [hwd]; exact (Fr.refl _ _).drew⟩
  have hsd : wd.heap.size = w2.heap.size := by rw [hwd]; rfl
  have HSD := Aside0.mk hsd
  rw [← hwd, ← hsd]
  rw [← hsd] at HL HD
  clear hwd hsd
  refine seqX_take (v := ?_) (a' := ?_) rfl rfl (by rfl) (fun w' hw' => ?_) ?_ ?_
  rotate_left 2
  · go_simp
    with_reducible rfl
  · simp only [Act.put, List.setIfInBounds_toArray, List.set_cons_zero, List.set_cons_succ, Go.Proofs.YtdfahblgnbdndaaDoorW.PrintLast.i64_w, Go.Proofs.YtdfahblgnbdndaaDoorW.PrintLast.i32_w]
    rfl
  refine seqX_take (v := ?_) (a' := ?_) rfl rfl (by rfl) (fun w' hw' => ?_) ?_ ?_
  rotate_left 2
  · go_simp
    with_reducible rfl
  · simp only [Act.put, List.setIfInBounds_toArray, List.set_cons_zero, List.set_cons_succ, Go.Proofs.YtdfahblgnbdndaaDoorW.PrintLast.i64_w, Go.Proofs.YtdfahblgnbdndaaDoorW.PrintLast.i32_w]
    rfl
  refine seqX_take (v := ?_) (a' := ?_) rfl rfl (by rfl) (fun w' hw' => ?_) ?_ ?_
  rotate_left 2
  · obtain ⟨_, q0, q1, q2, q3⟩ := HL.out w' (HD.out.trans hw'); go_simp
    with_reducible rfl
  · simp only [Act.put, List.setIfInBounds_toArray, List.set_cons_zero, List.set_cons_succ, Go.Proofs.YtdfahblgnbdndaaDoorW.PrintLast.i64_w, Go.Proofs.YtdfahblgnbdndaaDoorW.PrintLast.i32_w]
    rfl
  refine seqX_take (v := ?_) (a' := ?_) rfl rfl (by rfl) (fun w' hw' => ?_) ?_ ?_
  rotate_left 2
  · go_simp
    with_reducible rfl
  · simp only [Act.put, List.setIfInBounds_toArray, List.set_cons_zero, List.set_cons_succ, Go.Proofs.YtdfahblgnbdndaaDoorW.PrintLast.i64_w, Go.Proofs.YtdfahblgnbdndaaDoorW.PrintLast.i32_w]
    rfl
  refine seqX_take (v := ?_) (a' := ?_) rfl rfl (by rfl) (fun w' hw' => ?_) ?_ ?_
  rotate_left 2
  · go_simp
    with_reducible rfl
  · simp only [Act.put, List.setIfInBounds_toArray, List.set_cons_zero, List.set_cons_succ, Go.Proofs.YtdfahblgnbdndaaDoorW.PrintLast.i64_w, Go.Proofs.YtdfahblgnbdndaaDoorW.PrintLast.i32_w]
    rfl
  refine seqX_take (v := ?_) (a' := ?_) rfl rfl (by rfl) (fun w' hw' => ?_) ?_ ?_
  rotate_left 2
  · obtain ⟨_, q0, q1, q2, q3⟩ := HL.out w' (HD.out.trans hw'); go_simp
    with_reducible rfl
  · simp only [Act.put, List.setIfInBounds_toArray, List.set_cons_zero, List.set_cons_succ, Go.Proofs.YtdfahblgnbdndaaDoorW.PrintLast.i64_w, Go.Proofs.YtdfahblgnbdndaaDoorW.PrintLast.i32_w]
    rfl
  refine seqX_take (v := ?_) (a' := ?_) rfl rfl (by rfl) (fun w' hw' => ?_) ?_ ?_
  rotate_left 2
  · go_simp
    with_reducible rfl
  · simp only [Act.put, List.setIfInBounds_toArray, List.set_cons_zero, List.set_cons_succ, Go.Proofs.YtdfahblgnbdndaaDoorW.PrintLast.i64_w, Go.Proofs.YtdfahblgnbdndaaDoorW.PrintLast.i32_w]
    rfl
  refine seqX_take (v := ?_) (a' := ?_) rfl rfl (by rfl) (fun w' hw' => ?_) ?_ ?_
  rotate_left 2
  · go_simp
    with_reducible rfl
  · simp only [Act.put, List.setIfInBounds_toArray, List.set_cons_zero, List.set_cons_succ, Go.Proofs.YtdfahblgnbdndaaDoorW.PrintLast.i64_w, Go.Proofs.YtdfahblgnbdndaaDoorW.PrintLast.i32_w]
    rfl
  refine seqX_take (v := ?_) (a' := ?_) rfl rfl (by rfl) (fun w' hw' => ?_) ?_ ?_
  rotate_left 2
  · obtain ⟨_, q0, q1, q2, q3⟩ := HL.out w' (HD.out.trans hw'); go_simp
    with_reducible rfl
  · simp only [Act.put, List.setIfInBounds_toArray, List.set_cons_zero, List.set_cons_succ, Go.Proofs.YtdfahblgnbdndaaDoorW.PrintLast.i64_w, Go.Proofs.YtdfahblgnbdndaaDoorW.PrintLast.i32_w]
    rfl
  refine seqX_run ?_
  refine do_val (v := ?_) (a' := ?_) (w1 := ?_) rfl rfl (by rfl) ?_ ?_ ?_
  rotate_left 3
  · go_simp
    constructor <;> rfl
  · simp only [Act.put, List.setIfInBounds_toArray, List.set_cons_zero, List.set_cons_succ, Go.Proofs.YtdfahblgnbdndaaDoorW.PrintLast.i64_w, Go.Proofs.YtdfahblgnbdndaaDoorW.PrintLast.i32_w]
    rfl
  refine ⟨fun _ => Fr.later (below_alloc (Below.refl _ _) _), ?_⟩
  refine seqX_run ?_
  refine do_val (v := _) (a' := ?_) (w1 := _) rfl rfl (by rfl) (conv_run 33 33 (.tmp 10) rfl rfl (HKC.out wd _ 4 4)) ?_ ?_
  rotate_left
  · simp only [Act.put, List.setIfInBounds_toArray, List.set_cons_zero, List.set_cons_succ, Go.Proofs.YtdfahblgnbdndaaDoorW.PrintLast.i64_w, Go.Proofs.YtdfahblgnbdndaaDoorW.PrintLast.i32_w]
    rfl
  refine ⟨fun _ => (fr_remark wd _ _), ?_⟩
  obtain ⟨wm, hwm⟩ : ∃ wm, wm = wd.alloc (.cells #[.int .u8 76, .int .u8 84, .int .u8 73, .int .u8 49] 5 (4, 5)) := ⟨_, rfl⟩
  have FM : Aside0 (Fr w2 wm (fun k => wd.heap.size ≤ k)) := ⟨by rw [hwm]; exact HD.out.call (below_alloc (Below.refl _ _) _)⟩
  have AM : Aside0 (ApQ wm wd.heap.size (.slice (some ⟨wd.heap.size, 0, none⟩) 4 4) [76, 84, 73, 49]) := ⟨.inr ⟨_, rfl, by rw [hwm]; exact rd_lit wd _ _ _ _ rfl rfl (by simp), by simp⟩⟩
  have SM : wd.heap.size ≤ wm.heap.size := by rw [hwm]; simp
  refine seqX_at (w := wm) hwm ?_
  clear hwm
  refine seqX_run ?_
  refine do_call rfl rfl (by rfl) rfl Tryd.func38 (by kernel_rfl) rfl #[.slice (some ⟨wd.heap.size, 0, none⟩) 4 4, .int .i64 (a : Int)] (by simp only [List.map_toArray, List.map_cons, List.map_nil]; rfl) ?_
  with_reducible refine (inumber_calls wd.heap.size _ [76, 84, 73, 49] a wm AM.out SM (by simp) (by omega)).mono ?_
  rintro e w3 ⟨v3, rfl, hq3, hf3, -⟩
  refine ⟨_, ?_, rfl, ?_, fun _ => hf3.mono (fun k hk => by injection hk with hk; exact Nat.le_of_eq hk.symm), ?_⟩
  rotate_left
  · simp only [Act.put, List.setIfInBounds_toArray, List.set_cons_zero, List.set_cons_succ, Go.Proofs.YtdfahblgnbdndaaDoorW.PrintLast.i64_w, Go.Proofs.YtdfahblgnbdndaaDoorW.PrintLast.i32_w]
    rfl
  have F3 : Aside0 (Fr w2 w3 (fun k => wd.heap.size ≤ k)) := ⟨FM.out.trans (hf3.mono (fun k hk => by injection hk with hk; exact Nat.le_of_eq hk.symm))⟩
  have S3 : wd.heap.size ≤ w3.heap.size := Nat.le_trans SM hf3.size
  have HQ3 := Aside0.mk hq3
  clear hq3 hf3
  refine seqX_run ?_
  refine do_call rfl rfl (by rfl) rfl Tryd.func38 (by kernel_rfl) rfl #[v3, .int .i64 (b : Int)] (by simp only [List.map_toArray, List.map_cons, List.map_nil]; rfl) ?_
  with_reducible refine (inumber_calls wd.heap.size v3 ([76, 84, 73, 49] ++ le32 a) b w3 HQ3.out.ap S3 (by simp [le32]) (by omega)).mono ?_
  rintro e w4 ⟨v4, rfl, hq4, hf4, -⟩
  refine ⟨_, ?_, rfl, ?_, fun _ => hf4.mono (fun k hk => HQ3.out.ge k hk.symm), ?_⟩
  rotate_left
  · simp only [Act.put, List.setIfInBounds_toArray, List.set_cons_zero, List.set_cons_succ, Go.Proofs.YtdfahblgnbdndaaDoorW.PrintLast.i64_w, Go.Proofs.YtdfahblgnbdndaaDoorW.PrintLast.i32_w]
    rfl
  have F4 : Aside0 (Fr w2 w4 (fun k => wd.heap.size ≤ k)) := ⟨F3.out.trans (hf4.mono (fun k hk => HQ3.out.ge k hk.symm))⟩
  have S4 : wd.heap.size ≤ w4.heap.size := Nat.le_trans S3 hf4.size
  have HQ4 := Aside0.mk hq4
  clear hq4 hf4
  refine seqX_run ?_
  refine do_call rfl rfl (by rfl) rfl Tryd.func38 (by kernel_rfl) rfl #[v4, .int .i64 (c : Int)] (by simp only [List.map_toArray, List.map_cons, List.map_nil]; rfl) ?_
  with_reducible refine (inumber_calls wd.heap.size v4 ([76, 84, 73, 49] ++ le32 a ++ le32 b) c w4 HQ4.out.ap S4 (by simp [le32]) (by omega)).mono ?_
  rintro e w5 ⟨v5, rfl, hq5, hf5, -⟩
  refine ⟨_, ?_, rfl, ?_, fun _ => hf5.mono (fun k hk => HQ4.out.ge k hk.symm), ?_⟩
  rotate_left
  · simp only [Act.put, List.setIfInBounds_toArray, List.set_cons_zero, List.set_cons_succ, Go.Proofs.YtdfahblgnbdndaaDoorW.PrintLast.i64_w, Go.Proofs.YtdfahblgnbdndaaDoorW.PrintLast.i32_w]
    rfl
  have F5 : Aside0 (Fr w2 w5 (fun k => wd.heap.size ≤ k)) := ⟨F4.out.trans (hf5.mono (fun k hk => HQ4.out.ge k hk.symm))⟩
  have S5 : wd.heap.size ≤ w5.heap.size := Nat.le_trans S4 hf5.size
  have HQ5 : Aside0 (QB w5 wd.heap.size v5 (hdr a b c)) := ⟨hq5⟩
  clear hq5 hf5
  refine seqX_take (v := ?_) (a' := ?_) rfl rfl (by rfl) (fun w' hw' => ?_) ?_ ?_
  rotate_left 2
  · go_simp
    with_reducible rfl
  · simp only [Act.put, List.setIfInBounds_toArray, List.set_cons_zero, List.set_cons_succ, Go.Proofs.YtdfahblgnbdndaaDoorW.PrintLast.i64_w, Go.Proofs.YtdfahblgnbdndaaDoorW.PrintLast.i32_w]
    rfl
  refine seqX_endN ?_
  go_upto_region 4 with fail
  obtain ⟨B0, hB0⟩ : ∃ B0, wd.heap.size = B0 := ⟨_, rfl⟩
  rw [hB0] at F5 S5 HQ5 HL HSD
  have HBX5 := Aside0.mk (HL.out w5 F5.out).1
  have HLW := Aside0.mk (blk_lt (Later.heap HB2.out HBX.out))
  clear hB0
  refine seqX_startN [] (fun k => B0 ≤ k) (.take 0 (.take 1 (.take 2 (.take 4 (.take 5 (.take 6 (.run 3 (.run 7 (.take 8 .done))))))))) (by kernel_rfl) (by kernel_rfl) ?_
  refine seqX_take (v := ?_) (a' := ?_) rfl rfl (by rfl) (fun w' hw' => ?_) ?_ ?_
  rotate_left 2
  · go_simp
    with_reducible rfl
  · simp only [Act.put, List.setIfInBounds_toArray, List.set_cons_zero, List.set_cons_succ, Go.Proofs.YtdfahblgnbdndaaDoorW.PrintLast.i64_w, Go.Proofs.YtdfahblgnbdndaaDoorW.PrintLast.i32_w]
    rfl
  refine seqX_take (v := ?_) (a' := ?_) rfl rfl (by rfl) (fun w' hw' => ?_) ?_ ?_
  rotate_left 2
  · go_simp
    with_reducible rfl
  · simp only [Act.put, List.setIfInBounds_toArray, List.set_cons_zero, List.set_cons_succ, Go.Proofs.YtdfahblgnbdndaaDoorW.PrintLast.i64_w, Go.Proofs.YtdfahblgnbdndaaDoorW.PrintLast.i32_w]
    rfl
  refine seqX_take (v := ?_) (a' := ?_) rfl rfl (by rfl) (fun w' hw' => ?_) ?_ ?_
  rotate_left 2
  · go_simp
    with_reducible rfl
  · simp only [Act.put, List.setIfInBounds_toArray, List.set_cons_zero, List.set_cons_succ, Go.Proofs.YtdfahblgnbdndaaDoorW.PrintLast.i64_w, Go.Proofs.YtdfahblgnbdndaaDoorW.PrintLast.i32_w]
    rfl
  refine seqX_take (v := ?_) (a' := ?_) rfl rfl (by rfl) (fun w' hw' => ?_) ?_ ?_
  rotate_left 2
  · go_simp
    with_reducible rfl
  · simp only [Act.put, List.setIfInBounds_toArray, List.set_cons_zero, List.set_cons_succ, Go.Proofs.YtdfahblgnbdndaaDoorW.PrintLast.i64_w, Go.Proofs.YtdfahblgnbdndaaDoorW.PrintLast.i32_w]
    rfl
  refine seqX_take (v := ?_) (a' := ?_) rfl rfl (by rfl) (fun w' hw' => ?_) ?_ ?_
  rotate_left 2
  · obtain ⟨_, q0, q1, q2, q3⟩ := HL.out w' ((F5.out.drew).trans hw'); go_simp
    with_reducible rfl
  · simp only [Act.put, List.setIfInBounds_toArray, List.set_cons_zero, List.set_cons_succ, Go.Proofs.YtdfahblgnbdndaaDoorW.PrintLast.i64_w, Go.Proofs.YtdfahblgnbdndaaDoorW.PrintLast.i32_w]
    rfl
  refine seqX_take (v := ?_) (a' := ?_) rfl rfl (by rfl) (fun w' hw' => ?_) ?_ ?_
  rotate_left 2
  · go_simp
    with_reducible rfl
  · simp only [Act.put, List.setIfInBounds_toArray, List.set_cons_zero, List.set_cons_succ, Go.Proofs.YtdfahblgnbdndaaDoorW.PrintLast.i64_w, Go.Proofs.YtdfahblgnbdndaaDoorW.PrintLast.i32_w]
    rfl
  have HIM : Aside0 (∀ W, Fr w2 W (fun k => B0 ≤ k) → RdB W (some ⟨w.heap.size, 3, none⟩) 32 im) := ⟨fun W hW => by
    have h := rd_of_range (x_cells (HL.out W hW).1 hn).2.2.2.2 (by omega)
    rwa [hn] at h⟩
  refine seqX_run ?_
  refine do_appQ B0 rfl rfl (by rfl) (.tmp 24) (.tmp 26) rfl v5 (hdr a b c) im (some ⟨w.heap.size, 3, none⟩) 32 32 rfl rfl (HQ5.out.move (fun _ _ => rfl)) (HIM.out _ F5.out.drew) S5 (by simp [hdr, le32]) ?_
  intro v6 w6 hq6 hG6 hA6
  have hf6 : Fr w5.drew w6 (fun k => B0 ≤ k) := (Fr.refl _ _).grown hG6 (fun i hi => .inl (HQ5.out.ge i hi))
  refine ⟨fun _ => hf6, ?_⟩
  have F6 : Aside0 (Fr w2 w6 (fun k => B0 ≤ k)) := ⟨F5.out.drew.trans hf6⟩
  have S6 : B0 ≤ w6.heap.size := Nat.le_trans S5 hf6.size
  have HQ6 := Aside0.mk hq6
  clear hq6 hG6 hA6 hf6
  refine seqX_run ?_
  refine do_call rfl rfl (by rfl) rfl Tryd.func38 (by kernel_rfl) rfl #[v6, .int .i64 (its.length : Int)] (by simp only [List.map_toArray, List.map_cons, List.map_nil]; rfl) ?_
  with_reducible refine (inumber_calls B0 v6 (hdr a b c ++ im) its.length w6 HQ6.out.ap S6 (by simp [hdr, le32, hn]) (by omega)).mono ?_
  rintro e w7 ⟨v7, rfl, hq7, hf7, -⟩
  refine ⟨_, ?_, rfl, ?_, fun _ => hf7.mono (fun k hk => HQ6.out.ge k hk.symm), ?_⟩
  rotate_left
  · simp only [Act.put, List.setIfInBounds_toArray, List.set_cons_zero, List.set_cons_succ, Go.Proofs.YtdfahblgnbdndaaDoorW.PrintLast.i64_w, Go.Proofs.YtdfahblgnbdndaaDoorW.PrintLast.i32_w]
    rfl
  have F7 : Aside0 (Fr w2 w7 (fun k => B0 ≤ k)) := ⟨F6.out.trans (hf7.mono (fun k hk => HQ6.out.ge k hk.symm))⟩
  have HQ7 := Aside0.mk hq7
  clear hq7 hf7
  refine seqX_take (v := ?_) (a' := ?_) rfl rfl (by rfl) (fun w' hw' => ?_) ?_ ?_
  rotate_left 2
  · go_simp
    with_reducible rfl
  · simp only [Act.put, List.setIfInBounds_toArray, List.set_cons_zero, List.set_cons_succ, Go.Proofs.YtdfahblgnbdndaaDoorW.PrintLast.i64_w, Go.Proofs.YtdfahblgnbdndaaDoorW.PrintLast.i32_w]
    rfl
  refine seqX_endN ?_
  obtain ⟨_, q0, q1, q2, q3⟩ := HL.out w7 F7.out
  go_wp2
  clear q0 q1 q2 q3
  go_loopw [4, 6, 35] (fun vb _ i wr => ∃ k : Nat, k ≤ its.length ∧ i = .int .i64 k ∧ QB wr B0 vb (hdr a b c ++ im ++ le32 its.length ++ itB (its.take k)) ∧ Fr w2 wr (fun k => B0 ≤ k)) (fun _ _ i _ => its.length - (intOf i).toNat)
  case atStart => exact ⟨0, Nat.zero_le _, rfl, by simpa [itB] using HQ7.out, F7.out⟩
  case round =>
    obtain ⟨k, hk, rfl, hQ, hF⟩ := hrel
    have HQ := Aside0.mk hQ
    have HF := Aside0.mk hF
    have SR : B0 ≤ wr.heap.size := by have := hF.size; have := HSD.out; omega
    have HW : Aside0 (Below w.heap.size w wr) := ⟨L2.out.trans ((hF.below (B := B0) (fun k hk => hk) (by have := HSD.out; omega)).mono (by have := HSD.out; have := L2.out.size; omega))⟩
    clear hQ hF
    by_cases hlt : k < its.length
    · obtain ⟨ad, rfl, hx32, hxc⟩ := kf_at (Kd.C_below HX.out HW.out) ([], 0) k hlt
      have HXC := Aside0.mk hxc
      have HX32 := Aside0.mk hx32
      have HT := Aside0.mk (itB_take hlt)
      have hok := HALL.out k hlt
      unfold okI sz at hok
      generalize its.getD k ([], 0) = X at *
      obtain ⟨nm, s⟩ := X
      dsimp only at hok HT
      obtain ⟨m, rfl⟩ := Int.eq_ofNat_of_zero_le (show 0 ≤ s by omega)
      have hm5 : m ≤ 4096 := by omega
      have HNL : Aside0 (nm.length = 32) := ⟨HX32.out⟩
      rw [Int.toNat_natCast] at HT
      obtain ⟨U, hU⟩ : ∃ U, hdr a b c ++ im ++ le32 its.length ++ itB (its.take k) = U := ⟨_, rfl⟩
      have HUL : Aside0 (U.length ≤ 200000) := ⟨by
        rw [← hU]
        have h1 := itB_len (its := its.take k) (fun x hx => kf_all HX.out x (List.mem_of_mem_take hx))
        rw [List.length_take] at h1
        simp only [List.length_append, h1, hdr, le32_len4, List.length_cons, List.length_nil, hn]
        omega⟩
      have HUE : Aside0 (hdr a b c ++ im ++ le32 its.length ++ itB (its.take (k + 1)) = U ++ nm ++ le32 m) := ⟨by rw [HT.out, ← hU]; simp [List.append_assoc]⟩
      rw [hU] at HQ
      clear hxc hx32 hok hU
      go_wp2_with (first
        | ((with_reducible refine at_ld 41 (.tmp 37) ?_); refine load_arm rfl 41 (.tmp 37) rfl rfl (ld_elem HXC.out 41 _ Tryd.underlying41 rfl (size_it HX32.out)) ?_; simp only [Act.put, List.setIfInBounds_toArray, List.set_cons_zero, List.set_cons_succ])
        | ((with_reducible refine at_al 41 ?_); refine new_it rfl rfl rfl rfl (.tmp 38) rfl (of_decide_eq_true rfl) rfl HX32.out ?_; rintro w8 g8 HN); have HN8 := Aside0.mk HN; clear HN)
      have HB8 := Aside0.mk HN8.out.below
      have HQ8 := Aside0.mk (HQ.out.below HN8.out.below)
      have S8 : B0 ≤ w8.heap.size := Nat.le_trans SR HN8.out.below.size
      have HG8 : Aside0 (∀ W, Fr w8 W (fun q => some q = u4.ownBlock ∨ w8.heap.size ≤ q) → W.heap[g8]? = some (.cells (icells (nm, (m : Int))).toArray 41 (0, 0))) := ⟨fun W hW => (hW.block g8 (blk_lt HN8.out.at_) (by
        rintro (e | e)
        · exact HQ8.out.typed HN8.out.at_ (by decide) e.symm
        · have := blk_lt HN8.out.at_; omega)).trans HN8.out.at_⟩
      refine seqX_startN [] (fun q => some q = u4.ownBlock ∨ w8.heap.size ≤ q) (.take 0 (.take 1 (.take 2 (.take 4 (.take 5 (.run 3 (.run 6 (.take 7 .done)))))))) (by kernel_rfl) (by kernel_rfl) ?_
      refine seqX_take (v := ?_) (a' := ?_) rfl rfl (by rfl) (fun w' hw' => ?_) ?_ ?_
      rotate_left 2
      · go_simp
        with_reducible rfl
      · simp only [Act.put, List.setIfInBounds_toArray, List.set_cons_zero, List.set_cons_succ, Go.Proofs.YtdfahblgnbdndaaDoorW.PrintLast.i64_w, Go.Proofs.YtdfahblgnbdndaaDoorW.PrintLast.i32_w]
        rfl
      refine seqX_take (v := ?_) (a' := ?_) rfl rfl (by rfl) (fun w' hw' => ?_) ?_ ?_
      rotate_left 2
      · go_simp
        with_reducible rfl
      · simp only [Act.put, List.setIfInBounds_toArray, List.set_cons_zero, List.set_cons_succ, Go.Proofs.YtdfahblgnbdndaaDoorW.PrintLast.i64_w, Go.Proofs.YtdfahblgnbdndaaDoorW.PrintLast.i32_w]
        rfl
      refine seqX_take (v := ?_) (a' := ?_) rfl rfl (by rfl) (fun w' hw' => ?_) ?_ ?_
      rotate_left 2
      · go_simp
        with_reducible rfl
      · simp only [Act.put, List.setIfInBounds_toArray, List.set_cons_zero, List.set_cons_succ, Go.Proofs.YtdfahblgnbdndaaDoorW.PrintLast.i64_w, Go.Proofs.YtdfahblgnbdndaaDoorW.PrintLast.i32_w]
        rfl
      refine seqX_take (v := ?_) (a' := ?_) rfl rfl (by rfl) (fun w' hw' => ?_) ?_ ?_
      rotate_left 2
      · go_simp
        with_reducible rfl
      · simp only [Act.put, List.setIfInBounds_toArray, List.set_cons_zero, List.set_cons_succ, Go.Proofs.YtdfahblgnbdndaaDoorW.PrintLast.i64_w, Go.Proofs.YtdfahblgnbdndaaDoorW.PrintLast.i32_w]
        rfl
      refine seqX_take (v := ?_) (a' := ?_) rfl rfl (by rfl) (fun w' hw' => ?_) ?_ ?_
      rotate_left 2
      · have hc3 := (it_cells (HG8.out w' ((Fr.refl w8 _).drew.trans hw')) HX32.out).1; go_simp
        with_reducible rfl
      · simp only [Act.put, List.setIfInBounds_toArray, List.set_cons_zero, List.set_cons_succ, Go.Proofs.YtdfahblgnbdndaaDoorW.PrintLast.i64_w, Go.Proofs.YtdfahblgnbdndaaDoorW.PrintLast.i32_w]
        rfl
      have HNR : Aside0 (RdB w8.drew (some ⟨g8, 0, none⟩) 32 nm) := ⟨by
        have h := rd_of_range (it_cells (HG8.out w8.drew (Fr.refl w8 _).drew) HX32.out).2 (by have := HNL.out; show nm.length ≤ _; omega)
        have h2 : RdB w8.drew (some ⟨g8, 0, none⟩) nm.length nm := h
        rwa [HNL.out] at h2⟩
      refine seqX_run ?_
      refine do_appQ B0 rfl rfl (by rfl) (.tmp 39) (.tmp 41) rfl u4 U nm (some ⟨g8, 0, none⟩) 32 32 rfl rfl (HQ8.out.move (fun _ _ => rfl)) HNR.out S8 (by have := HUL.out; omega) ?_
      intro v9 w9 hq9 hG9 hA9
      have hf9 : Fr w8.drew w9 (fun q => some q = u4.ownBlock ∨ w8.heap.size ≤ q) := (Fr.refl _ _).grown hG9 (fun i hi => .inl (.inl hi.symm))
      refine ⟨fun _ => hf9, ?_⟩
      have F9 : Aside0 (Fr w8 w9 (fun q => some q = u4.ownBlock ∨ w8.heap.size ≤ q)) := ⟨(Fr.refl w8 _).drew.trans hf9⟩
      have S9 : w8.heap.size ≤ w9.heap.size := hf9.size
      have HQ9 := Aside0.mk hq9
      have HA9 : Aside0 (v9.ownBlock = u4.ownBlock ∨ ∃ b, v9.ownBlock = some b ∧ w8.heap.size ≤ b) := ⟨hA9⟩
      have HV9 : Aside0 (∀ k, some k = v9.ownBlock → some k = u4.ownBlock ∨ w8.heap.size ≤ k) := ⟨fun k hk => by
        rcases HA9.out with e | ⟨b, e, hb⟩
        · exact .inl (hk.trans e)
        · rw [e] at hk
          injection hk with hk
          exact .inr (by omega)⟩
      clear hq9 hG9 hA9 hf9
      refine seqX_run ?_
      refine do_call rfl rfl (by rfl) rfl Tryd.func38 (by kernel_rfl) rfl #[v9, .int .i64 (m : Int)] (by simp only [List.map_toArray, List.map_cons, List.map_nil]; rfl) ?_
      with_reducible refine (inumber_calls B0 v9 (U ++ nm) m w9 HQ9.out.ap (Nat.le_trans S8 S9) (by have := HUL.out; have := HNL.out; rw [List.length_append]; omega) (by omega)).mono ?_
      rintro e w10 ⟨v10, rfl, hq10, hf10, -⟩
      refine ⟨_, ?_, rfl, ?_, fun _ => hf10.mono HV9.out, ?_⟩
      rotate_left
      · simp only [Act.put, List.setIfInBounds_toArray, List.set_cons_zero, List.set_cons_succ, Go.Proofs.YtdfahblgnbdndaaDoorW.PrintLast.i64_w, Go.Proofs.YtdfahblgnbdndaaDoorW.PrintLast.i32_w]
        rfl
      have F10 : Aside0 (Fr w2 w10 (fun k => B0 ≤ k)) := ⟨((HF.out.call HB8.out).trans (F9.out.mono (fun q hq => by rcases hq with e | e; exact HQ.out.ge q e.symm; omega))).trans (hf10.mono (fun k hk => HQ9.out.ge k hk.symm))⟩
      have HQ10 : Aside0 (QB w10 B0 v10 (hdr a b c ++ im ++ le32 its.length ++ itB (its.take (k + 1)))) := ⟨by rw [HUE.out]; exact hq10⟩
      clear hq10 hf10
      refine seqX_take (v := ?_) (a' := ?_) rfl rfl (by rfl) (fun w' hw' => ?_) ?_ ?_
      rotate_left 2
      · go_simp
        with_reducible rfl
      · simp only [Act.put, List.setIfInBounds_toArray, List.set_cons_zero, List.set_cons_succ, Go.Proofs.YtdfahblgnbdndaaDoorW.PrintLast.i64_w, Go.Proofs.YtdfahblgnbdndaaDoorW.PrintLast.i32_w]
        rfl
      refine seqX_endN ?_
      go_wp2
      go_roundw
      case rel => exact ⟨k + 1, by omega, by go_num, HQ10.out, F10.out⟩
      case measure => simp [intOf]; omega
    · obtain rfl : k = its.length := by omega
      have hQ9 := HQ.out
      rw [List.take_length] at hQ9
      obtain ⟨qA, qc, rfl, hqc, hqr⟩ := hQ9.reads
      have HQR : Aside0 (RdB wr qA (xbody a b c im its).length (xbody a b c im its)) := ⟨hqr⟩
      have HXB := Aside0.mk (xbody_bytes (a := a) (b := b) (c := c) HIB.out HNB.out)
      have HXL := Aside0.mk (xbody_len (a := a) (b := b) (c := c) hn (kf_all HX.out))
      clear hQ9 hqr hqc
      obtain ⟨Y, hY⟩ : ∃ Y, xbody a b c im its = Y := ⟨_, rfl⟩
      rw [show hdr a b c ++ im ++ le32 its.length ++ itB its = Y from hY]
      have HYE : Aside0 (xbytes a b c im its = cput Y) := ⟨by rw [← hY]; rfl⟩
      rw [hY] at HQR HXB HXL
      clear hY
      go_wp2_with (go_at_call 39; refine (put_calls qA Y.length qc Y wr HQR.out HXB.out (by have := HXL.out; omega)).mono ?_; rintro e w11 ⟨v, rfl, hO, hB⟩; have HO := Aside0.mk hO; have HB := Aside0.mk hB; clear hO hB)
      (try simp only [Exit.inBlock, Exit.then])
      exact bodyPost_ret (results_tmp2 rfl _ _ _) rfl ⟨_, rfl, by rw [HYE.out]; exact Kd.R_lower HO.out HW.out.size, below_tr HW.out HB.out HW.out.size⟩
end Go.Proofs.YtdfahblgnbdndaaDoor
namespace Go.Proofs.YtdfahblgnbdndaaDoor
open Go.RowKit Go.Shelf Go.Proofs.YtdfahblgnbdndaaDoorW.PrintWords Go.Proofs.YtdfahblgnbdndaaDoorW.PrintMore
set_option linter.unusedVariables false
set_option linter.unusedSimpArgs false
theorem itsOf_nil : itsOf [] = [] := rfl
theorem tot_itsOf : ∀ CH : List (List Int), tot (itsOf CH) = (CH.flatten.length : Int)
  | [] => rfl
  | c :: CH => by
    show tot ((shaL c, (c.length : Int)) :: itsOf CH) = _
    rw [tot_cons, tot_itsOf CH, List.flatten_cons, List.length_append]
    simp
theorem mayX_nil : mayX 1 2 3 [] = true := by decide
set_option maxRecDepth 20000 in
set_option maxHeartbeats 1600000 in
theorem xlives_calls (w : World) (hK : Roots w) : Calls Tryd.prog 13 #[] w fun e w' => e = .returned (.bool true) ∧ Below w.heap.size w w' := by
  have HK := Aside0.mk hK
  have HA : Aside0 (al 1 3 (pw 2) [] [] = []) := ⟨al_nil _ _ _⟩
  have hl32 := shaL_len []
  have hby := shaL_bytes []
  obtain ⟨D, hD⟩ : ∃ D, shaL [] = D := ⟨_, rfl⟩
  have HD := Aside0.mk hD
  rw [hD] at hl32 hby
  clear hK hD
  have HBY := Aside0.mk hby
  clear hby
  go_enter Tryd.func13, Tryd.ntmps13
  go_wp2_with (first
    | (go_at_call 11; refine (iof_ok 1 2 3 none 0 0 [] w (by decide) (Kd.C_nil _ _) Bytes.nil HK.out (by omega) (by rw [HA.out]; simp)).mono ?_; rw [HA.out, HD.out, itsOf_nil]; rintro e w1 ⟨v, rfl, hO, hB⟩; obtain ⟨vA, vc, rfl, -, hvr⟩ := Kd.R_reads hO; have HVR := Aside0.mk hvr; have HB1 := Aside0.mk hB; clear hO hB hvr)
    | ((with_reducible refine at_al 29 ?_); refine new_x rfl rfl rfl rfl (.tmp 8) rfl (of_decide_eq_true rfl) rfl hl32 rfl ?_; rintro w2 g2 HN); have HN2 := Aside0.mk HN; clear HN
    | ((with_reducible refine at_ld (w := w2) 29 (.tmp 1) ?_); refine load_arm rfl 29 (.tmp 1) rfl rfl (ld_row HN2.out.at_ 29 _ Tryd.underlying29 rfl (by rw [List.size_toArray]; exact size_X hl32)) ?_; simp only [Act.put, List.setIfInBounds_toArray, List.set_cons_zero, List.set_cons_succ])
    | (go_at_call 17; refine (iwrite_ok 1 2 3 D vA 0 vc [] _ w2 rfl hl32 (Kd.C_below HVR.out HN2.out.below) mayX_nil HBY.out (fun x hx => by cases hx)).mono ?_; rintro e w3 ⟨v, rfl, hO, hB⟩; obtain ⟨uA, uc, rfl, -, -⟩ := Kd.R_reads hO; rw [show (xbytes 1 2 3 D []).length = 56 by unfold xbytes; rw [cput_length, xbody_len hl32 (fun x hx => by cases hx)]; rfl]; have HB3 := Aside0.mk hB; obtain ⟨q0, q1, q2, q3, _⟩ := x_cells (Later.heap hB HN2.out.at_) hl32; clear hO hB)
    | fail)
  go_ret
  have h2 := below_tr HB1.out HN2.out.below HB1.out.size
  exact ⟨rfl, below_tr h2 HB3.out h2.size⟩
end Go.Proofs.YtdfahblgnbdndaaDoor
