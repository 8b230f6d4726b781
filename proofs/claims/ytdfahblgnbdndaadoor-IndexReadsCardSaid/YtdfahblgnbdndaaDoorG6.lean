/- Plain lemmas and contracts, several texts in one: Roll4, Roll5, Roll6, Roll7. Conditions: their own. -/
import Derived.Test.YtdfahblgnbdndaaDoorG5
import Derived.Test.YtdfahblgnbdndaaDoorG1
namespace Go.Proofs.YtdfahblgnbdndaaDoor
open Go.RowKit Go.Proofs.YtdfahblgnbdndaaDoorW.PrintWords Go.Proofs.YtdfahblgnbdndaaDoorW.PrintMore
set_option linter.unusedVariables false
set_option linter.unusedSimpArgs false
section
variable {ops : Array Oper} {rest : List Oper} {o : Oper} {a : Act} {Q : Exit → Act → World → Prop} {w W : World} {g : Nat} {d : Int} {ls la : List Int} {n s : Int}
theorem rr_there (h : RB w g d ls la n s) (hl : ls.length = 256) (ha : la.length = 16) (k : Nat) (hk : k < 18) : (∃ u, w.cell? ⟨g, 259 + k, none⟩ = some u) ∧ w.frozen? ⟨g, 259 + k, none⟩ = false := by
  refine ⟨?_, blk_frozen h _⟩
  rw [blk_cell h, Oc_rest hl k]
  exact ⟨_, List.getElem?_eq_getElem (by simp [RR, ha]; omega)⟩
theorem set_rn (h : RB w g d ls la n s) (hl : ls.length = 256) (ha : la.length = 16) (m : Int) : SetBlk w (w.setCell ⟨g, 275, none⟩ (.int .i64 m)) g (.cells (Oc d 0 ls (RR la m s)).toArray 169 (0, 0)) := by
  have := setBlk_cell h (.int .i64 m) (i := 275)
  rwa [show 275 = 259 + 16 by rfl, Oc_set_rest hl, RR_set_n ha] at this
theorem set_rs (h : RB w g d ls la n s) (hl : ls.length = 256) (ha : la.length = 16) (m : Int) : SetBlk w (w.setCell ⟨g, 276, none⟩ (.int .u32 m)) g (.cells (Oc d 0 ls (RR la n m)).toArray 169 (0, 0)) := by
  have := setBlk_cell h (.int .u32 m) (i := 276)
  rwa [show 276 = 259 + 17 by rfl, Oc_set_rest hl, RR_set_s ha] at this
theorem set_rl (h : RB w g d ls la n s) (hl : ls.length = 256) (ha : la.length = 16) (k : Nat) (hk : k < 16) (c : Int) : SetBlk w (w.setCell ⟨g, 259 + k, none⟩ (.int .u8 c)) g (.cells (Oc d 0 ls (RR (la.set k c) n s)).toArray 169 (0, 0)) := by
  have := setBlk_cell h (.int .u8 c) (i := 259 + k)
  rwa [Oc_set_rest hl, RR_set_l ha k hk] at this
theorem store_rn (hgd : o.guard = none) (x y : Operand) (ho : o.op = .store 3 x y) {m : Int} (hx : a.eval x = .pointer (some ⟨g, 275, none⟩)) (hy : a.eval y = .int .i64 m) (h : RB w g d ls la n s) (hl : ls.length = 256) (ha : la.length = 16)
    (hk : ∀ w1, SetBlk w w1 g (.cells (Oc d 0 ls (RR la m s)).toArray 169 (0, 0)) → wpList Tryd.prog ops Q rest (a.put o.dst undef) w1) : wpList Tryd.prog ops Q (o :: rest) a w := by
  have hst : (Instr.storeAt 3 (.pointer (some ⟨g, 275, none⟩)) (.int .i64 m)).run Tryd.prog w = .ok () (w.setCell ⟨g, 275, none⟩ (.int .i64 m)) := by
    obtain ⟨⟨u, hc⟩, hf⟩ := rr_there h hl ha 16 (by omega)
    simp only [Nat.reduceAdd] at hc hf
    clear h hk
    go_simp
  exact store_arm hgd _ x y ho hx hy hst (hk _ (set_rn h hl ha m))
theorem store_rs (hgd : o.guard = none) (x y : Operand) (ho : o.op = .store 80 x y) {m : Int} (hx : a.eval x = .pointer (some ⟨g, 276, none⟩)) (hy : a.eval y = .int .u32 m) (h : RB w g d ls la n s) (hl : ls.length = 256) (ha : la.length = 16)
    (hk : ∀ w1, SetBlk w w1 g (.cells (Oc d 0 ls (RR la n m)).toArray 169 (0, 0)) → wpList Tryd.prog ops Q rest (a.put o.dst undef) w1) : wpList Tryd.prog ops Q (o :: rest) a w := by
  have hst : (Instr.storeAt 80 (.pointer (some ⟨g, 276, none⟩)) (.int .u32 m)).run Tryd.prog w = .ok () (w.setCell ⟨g, 276, none⟩ (.int .u32 m)) := by
    obtain ⟨⟨u, hc⟩, hf⟩ := rr_there h hl ha 17 (by omega)
    simp only [Nat.reduceAdd] at hc hf
    clear h hk
    go_simp
  exact store_arm hgd _ x y ho hx hy hst (hk _ (set_rs h hl ha m))
theorem st_rs (h : RB w g d ls la n s) (hl : ls.length = 256) (ha : la.length = 16) (m : Int) : (Instr.storeAt 80 (.pointer (some ⟨g, 276, none⟩)) (.int .u32 m)).run Tryd.prog w = .ok () (w.setCell ⟨g, 276, none⟩ (.int .u32 m)) := by
  obtain ⟨⟨u, hc⟩, hf⟩ := rr_there h hl ha 17 (by omega)
  simp only [Nat.reduceAdd] at hc hf
  clear h
  go_simp
theorem store_rl (hgd : o.guard = none) (x y : Operand) (ho : o.op = .store 5 x y) {c : Int} {k : Nat} (hx : a.eval x = .pointer (some ⟨g, 259 + k, none⟩)) (hy : a.eval y = .int .u8 c) (h : RB w g d ls la n s) (hl : ls.length = 256) (ha : la.length = 16) (hk16 : k < 16)
    (hk : ∀ w1, SetBlk w w1 g (.cells (Oc d 0 ls (RR (la.set k c) n s)).toArray 169 (0, 0)) → wpList Tryd.prog ops Q rest (a.put o.dst undef) w1) : wpList Tryd.prog ops Q (o :: rest) a w := by
  have hst : (Instr.storeAt 5 (.pointer (some ⟨g, 259 + k, none⟩)) (.int .u8 c)).run Tryd.prog w = .ok () (w.setCell ⟨g, 259 + k, none⟩ (.int .u8 c)) := by
    obtain ⟨⟨u, hc⟩, hf⟩ := rr_there h hl ha k (by omega)
    clear h hk
    go_simp
  exact store_arm hgd _ x y ho hx hy hst (hk _ (set_rl h hl ha k hk16 c))
end
theorem reset_calls (g : Nat) (b : List Int) (w : World) (h : RSt w g b) : Calls Tryd.prog 101 #[.pointer (some ⟨g, 0, none⟩)] w fun e w' => e = .returned (.tuple #[]) ∧ RSt w' g [] ∧ ∃ o, SetBlk w w' g o := by
  obtain ⟨d, ls, la, hB, hl, ha, hd, hbl, _⟩ := h
  have HB := Aside0.mk hB
  clear hB
  go_enter Tryd.func101, Tryd.ntmps101
  go_wp2_with (first
    | ((with_reducible refine at_st 3 _ _ ?_); refine store_rn rfl _ _ rfl rfl rfl HB.out hl ha ?_; rintro w1 HS1)
    | ((with_reducible refine at_st 80 _ _ ?_); refine store_rs rfl _ _ rfl rfl rfl HS1.at_ hl ha ?_; rintro w2 HS2))
  (try simp only [Exit.inBlock, Exit.then])
  refine bodyPost_end (results_none rfl _ _ _) rfl ?_
  exact ⟨rfl, ⟨d, ls, la, HS2.at_, hl, ha, hd, hbl, fun j hj => by simp at hj⟩, _, HS1.next HS2⟩
end Go.Proofs.YtdfahblgnbdndaaDoor
namespace Go.Proofs.YtdfahblgnbdndaaDoor
open Go.RowKit Go.Proofs.YtdfahblgnbdndaaDoorW.PrintWords Go.Proofs.YtdfahblgnbdndaaDoorW.PrintMore
set_option linter.unusedVariables false
set_option linter.unusedSimpArgs false
theorem of_done (g T : Nat) (rest : List Value) (c : Int) (w : World) (hg : w.heap[g]? = some (.cells (Oc 1 0 (WT 256) rest).toArray T (0, 0))) (h0 : 0 ≤ c) (h1 : c < 256) :
    Calls Tryd.prog 112 #[.pointer (some ⟨g, 0, none⟩), .int .u8 c] w fun e w' => e = .returned (.int .u32 (bword c)) ∧ w = w' := by
  have hmf : ∀ (fn : Fn) (first cap : Array Value) (w : World), (Instr.makeFunc fn first cap).run Tryd.prog w = .ok (.func fn first cap) w := fun _ _ _ _ => rfl
  have hc : w.cell? ⟨g, 3 + c.toNat, none⟩ = some (.int .u32 (bword c)) := by
    rw [blk_cell hg, Oc_l c.toNat (by rw [WT_len]; omega), Int.toNat_of_nonneg h0, WT_at 256 c h0 h1]
  have hct : c.toNat < 256 := by omega
  have HG := Aside0.mk hg
  clear hg
  go_enter Tryd.func112, Tryd.ntmps112
  go_wp2_with (go_at_call 117; refine (do_done g T (WT 256) rest _ w HG.out).mono ?_; rintro e w1 ⟨rfl, rfl⟩)
  go_ret
  exact ⟨rfl, rfl⟩
section
variable {P : Program} {ops : Array Oper} {Q : Exit → Act → World → Prop} {ds : List Nat}
theorem call_runv {o : Oper} {a : Act} {f : FuncId} {fn : Func} {x : Operand} {first : Array Value} {ar : Array Operand} {ts : Array TypeId} (hop : o.op = .call { callee := .value x, args := ar, argTypes := ts }) (hx : a.eval x = .func (.func f) first #[]) (hf : P.funcs[f]? = some fn) (hname : (fn.name == "runtime.NumGoroutine") = false) (hb : fn.body.isSome = true) (args : Array Value)
    (hargs : first ++ ar.map a.eval = args) (w : World) : (execOp a.eval o).run P w = .ok (.enter f args) w := by
  have he := Go.Proofs.YtdfahblgnbdndaaDoorW.PrintLast.enters_ hf hname hb args w
  unfold execOp
  simp [hop, resolve, Deferred.ofValue, invoke, hx, hargs, he]
theorem seq_quietv {i : Nat} {r : Ord} {o : Oper} {N : Tmp} {v : Value} {a a' : Act} {w : World} {f : FuncId} {fn : Func} {x : Operand} {first : Array Value} {ar : Array Operand} {ts : Array TypeId} (hi : ops[i]? = some o) (hN : o.dst = some N) (hw : Region.wanted o (yielded ops a.tmps) = true)
    (hop : o.op = .call { callee := .value x, args := ar, argTypes := ts }) (hx : a.eval x = .func (.func f) first #[]) (hf : P.funcs[f]? = some fn) (hname : (fn.name == "runtime.NumGoroutine") = false) (hb : fn.body.isSome = true) (args : Array Value)
    (hargs : first ++ ar.map a.eval = args) (hc : ∀ w', Later w w' → Calls P f args w' (fun e w'' => e = .returned v ∧ w' = w'')) (ha : a.put (some N) v = a') (h : seqL P ops Q ds r a' w) : seqL P ops Q ds (.take i r) a w := by
  subst ha
  rw [← hN] at h
  exact ⟨o, v, hi, .inl ⟨hw, fun w' h' => .inr ⟨f, args, call_runv hop hx hf hname hb args hargs w', hc w' h'⟩⟩, h⟩
end
theorem rd_set_at (l : List Int) (k : Nat) (x : Int) (h : k < l.length) : rd (l.set k x) (k : Int) = x := by
  unfold Go.Proofs.YtdfahblgnbdndaaDoorW.PrintWords.rd
  rw [Int.toNat_natCast, List.getD_eq_getElem?_getD, List.getElem?_set_self h]
  rfl
theorem rd_set_ne (l : List Int) (k j : Nat) (x : Int) (h : k ≠ j) : rd (l.set k x) (j : Int) = rd l (j : Int) := by
  unfold Go.Proofs.YtdfahblgnbdndaaDoorW.PrintWords.rd
  rw [Int.toNat_natCast, List.getD_eq_getElem?_getD, List.getD_eq_getElem?_getD, List.getElem?_set_ne h]
theorem rd_app_at (b : List Int) (c : Int) : rd (b ++ [c]) (b.length : Int) = c := by
  unfold Go.Proofs.YtdfahblgnbdndaaDoorW.PrintWords.rd
  rw [Int.toNat_natCast, List.getD_eq_getElem?_getD, List.getElem?_append_right (Nat.le_refl _), Nat.sub_self]
  rfl
theorem rd_app_lt (b : List Int) (c : Int) (j : Nat) (h : j < b.length) : rd (b ++ [c]) (j : Int) = rd b (j : Int) := by
  unfold Go.Proofs.YtdfahblgnbdndaaDoorW.PrintWords.rd
  rw [Int.toNat_natCast, List.getD_eq_getElem?_getD, List.getD_eq_getElem?_getD, List.getElem?_append_left h]
set_option maxRecDepth 20000 in
set_option maxHeartbeats 1600000 in
theorem add_calls (g : Nat) (b : List Int) (c : Int) (w : World) (h : RSt w g b) (hN : b.length ≤ 1099511627776) (h0 : 0 ≤ c) (h1 : c < 256) :
    Calls Tryd.prog 100 #[.pointer (some ⟨g, 0, none⟩), .int .u8 c] w fun e w' => e = .returned (.int .u32 (hov (b ++ [c]))) ∧ RSt w' g (b ++ [c]) ∧ ∃ o, SetBlk w w' g o := by
  have hmf : ∀ (fn : Fn) (first cap : Array Value) (w : World), (Instr.makeFunc fn first cap).run Tryd.prog w = .ok (.func fn first cap) w := fun _ _ _ _ => rfl
  obtain ⟨d, ls, la, hB, hl, ha, hd, hbl, hlast⟩ := h
  have hs := hov_range b
  have hcn := RB.n hB hl ha
  have hcs := RB.s hB hl ha
  have HB := Aside0.mk hB
  have HD := Aside0.mk hd
  have HLA := Aside0.mk hlast
  have HBL := Aside0.mk hbl
  have hk : b.length % 16 < 16 := Nat.mod_lt _ (by omega)
  have ek : ((b.length : Int)).tmod 16 = ((b.length % 16 : Nat) : Int) := by rw [Int.tmod_eq_emod_of_nonneg (by omega)]; rfl
  have HF : Aside0 (b.length < 16 → hov (b ++ [c]) = xr (rl (hov b)) (bword c)) := ⟨hov_few b c⟩
  have HM : Aside0 (16 ≤ b.length → hov (b ++ [c]) = xr (xr (rl (hov b)) (bword c)) (rls (bword (rd la ((b.length % 16 : Nat) : Int))) 16)) := ⟨fun hge => hov_more b c _ hge (by
    rw [← HLA.out (b.length - 16) (by omega) (by omega)]
    congr 2
    omega)⟩
  have HEND : ∀ w', RB w' g 1 (WT 256) (la.set (b.length % 16) c) ((b.length : Int) + 1) (hov (b ++ [c])) → RSt w' g (b ++ [c]) := fun w' hr => by
    refine ⟨1, WT 256, la.set (b.length % 16) c, ?_, WT_len _, by rw [List.length_set, ha], .inr ⟨rfl, rfl⟩, HBL.out.set _ h0 h1, fun j hj hj2 => ?_⟩
    · rw [List.length_append, List.length_singleton]
      simpa using hr
    · rw [List.length_append, List.length_singleton] at hj hj2
      have hm := Nat.mod_lt j (show 0 < 16 by omega)
      by_cases hjn : j = b.length
      · subst hjn
        rw [rd_set_at _ _ _ (by omega), rd_app_at]
      · rw [rd_set_ne _ _ _ _ (by omega), rd_app_lt _ _ _ (by omega)]
        exact HLA.out j (by omega) (by omega)
  have HE := Aside0.mk HEND
  clear hB hd hlast hbl HEND
  have hla0 := HBL.out.at_ ((b.length % 16 : Nat) : Int)
  have hg9 := RB.l HB.out hl ha (b.length % 16) hk
  generalize hov (b ++ [c]) = s' at *
  generalize hov b = s at *
  generalize hxr : rd la ((b.length % 16 : Nat) : Int) = x at *
  generalize b.length % 16 = k at *
  have HXR := Aside0.mk hxr
  clear hxr
  generalize b.length = N at *
  clear hg9 HLA HBL
  by_cases hge : 16 ≤ N
  · have hgeI : (16 : Int) ≤ (N : Int) := by omega
    have HS' := Aside0.mk (HM.out hge)
    clear HM HF
    go_enter Tryd.func100, Tryd.ntmps100
    go_wp2_with (first
      | (go_at_call 113; refine (rolt1_calls s w hs.1 hs.2).mono ?_; rintro e u1 ⟨rfl, rfl⟩)
      | (go_at_call 112; refine (of_calls g 169 (RR la N s) c w ⟨d, ls, HB.out, hl, HD.out⟩ h0 h1).mono ?_; rintro e w1 ⟨rfl, hS1⟩; have HS1 := Aside0.mk hS1; clear hS1)
      | ((with_reducible refine at_st 80 _ _ ?_); refine store_rs rfl _ _ rfl rfl rfl HS1.out.at_ (WT_len _) ha ?_; rintro w2 hS2; have hcn2 := RB.n hS2.at_ (WT_len _) ha; have HS2 := Aside0.mk (HS1.out.next hS2); clear hS2))
    have R2 := HS2.out.at_
    have hsd : w2.drew.cell? ⟨g, 276, none⟩ = some (.int .u32 (Go.bits .xor .u32 (rl s) (bword c))) := by rw [World.cell?_drew]; exact RB.s R2 (WT_len _) ha
    have hld : w2.drew.cell? ⟨g, 259 + k, none⟩ = some (.int .u8 x) := by rw [World.cell?_drew, RB.l R2 (WT_len _) ha k hk, HXR.out]
    have R2d : RB w2.drew g 1 (WT 256) la N (Go.bits .xor .u32 (rl s) (bword c)) := R2
    have hbx := bword_range x
    have HR2d := Aside0.mk R2d
    have HCD := Aside0.mk (And.intro hsd hld)
    clear R2 R2d hsd hld
    have hkI : (k : Int) < 16 := by omega
    refine seq_start [16] (.take 0 (.take 1 (.take 2 (.take 3 (.take 4 (.take 5 (.take 6 (.take 7 (.take 8 (.take 9 (.take 10 (.take 11 (.take 12 (.take 13 (.take 14 (.take 15 (.run 16 .done))))))))))))))))) (by kernel_rfl) (by kernel_rfl) (fun _ _ d _ _ h => by cases d <;> exact h) ?_
    refine seq_take (v := ?_) (a' := ?_) rfl rfl (by rfl) (fun w' hw' => ?_) ?_ ?_
    rotate_left 2
    · go_simp
      with_reducible rfl
    · simp only [Act.put, List.setIfInBounds_toArray, List.set_cons_zero, List.set_cons_succ, Go.Proofs.YtdfahblgnbdndaaDoorW.PrintLast.i64_w, Go.Proofs.YtdfahblgnbdndaaDoorW.PrintLast.i32_w]
      rfl
    refine seq_take (v := ?_) (a' := ?_) rfl rfl (by rfl) (fun w' hw' => ?_) ?_ ?_
    rotate_left 2
    · go_simp
      with_reducible rfl
    · simp only [Act.put, List.setIfInBounds_toArray, List.set_cons_zero, List.set_cons_succ, Go.Proofs.YtdfahblgnbdndaaDoorW.PrintLast.i64_w, Go.Proofs.YtdfahblgnbdndaaDoorW.PrintLast.i32_w]
      rfl
    refine seq_take (v := ?_) (a' := ?_) rfl rfl (by rfl) (fun w' hw' => ?_) ?_ ?_
    rotate_left 2
    · go_simp
      with_reducible rfl
    · simp only [Act.put, List.setIfInBounds_toArray, List.set_cons_zero, List.set_cons_succ, Go.Proofs.YtdfahblgnbdndaaDoorW.PrintLast.i64_w, Go.Proofs.YtdfahblgnbdndaaDoorW.PrintLast.i32_w]
      rfl
    refine seq_take (v := ?_) (a' := ?_) rfl rfl (by rfl) (fun w' hw' => ?_) ?_ ?_
    rotate_left 2
    · have hq := pw_cell_below hw' HCD.out.1; go_simp
      with_reducible rfl
    · simp only [Act.put, List.setIfInBounds_toArray, List.set_cons_zero, List.set_cons_succ, Go.Proofs.YtdfahblgnbdndaaDoorW.PrintLast.i64_w, Go.Proofs.YtdfahblgnbdndaaDoorW.PrintLast.i32_w]
      rfl
    refine seq_take (v := ?_) (a' := ?_) rfl rfl (by rfl) (fun w' hw' => ?_) ?_ ?_
    rotate_left 2
    · go_simp
      with_reducible rfl
    · simp only [Act.put, List.setIfInBounds_toArray, List.set_cons_zero, List.set_cons_succ, Go.Proofs.YtdfahblgnbdndaaDoorW.PrintLast.i64_w, Go.Proofs.YtdfahblgnbdndaaDoorW.PrintLast.i32_w]
      rfl
    refine seq_take (v := ?_) (a' := ?_) rfl rfl (by rfl) (fun w' hw' => ?_) ?_ ?_
    rotate_left 2
    · go_simp
      with_reducible rfl
    · simp only [Act.put, List.setIfInBounds_toArray, List.set_cons_zero, List.set_cons_succ, Go.Proofs.YtdfahblgnbdndaaDoorW.PrintLast.i64_w, Go.Proofs.YtdfahblgnbdndaaDoorW.PrintLast.i32_w]
      rfl
    refine seq_take (v := ?_) (a' := ?_) rfl rfl (by rfl) (fun w' hw' => ?_) ?_ ?_
    rotate_left 2
    · go_simp
      with_reducible rfl
    · simp only [Act.put, List.setIfInBounds_toArray, List.set_cons_zero, List.set_cons_succ, Go.Proofs.YtdfahblgnbdndaaDoorW.PrintLast.i64_w, Go.Proofs.YtdfahblgnbdndaaDoorW.PrintLast.i32_w]
      rfl
    refine seq_take (v := ?_) (a' := ?_) rfl rfl (by rfl) (fun w' hw' => ?_) ?_ ?_
    rotate_left 2
    · go_simp
      with_reducible rfl
    · simp only [Act.put, List.setIfInBounds_toArray, List.set_cons_zero, List.set_cons_succ, Go.Proofs.YtdfahblgnbdndaaDoorW.PrintLast.i64_w, Go.Proofs.YtdfahblgnbdndaaDoorW.PrintLast.i32_w]
      rfl
    refine seq_take (v := ?_) (a' := ?_) rfl rfl (by rfl) (fun w' hw' => ?_) ?_ ?_
    rotate_left 2
    · go_simp
      with_reducible rfl
    · simp only [Act.put, List.setIfInBounds_toArray, List.set_cons_zero, List.set_cons_succ, Go.Proofs.YtdfahblgnbdndaaDoorW.PrintLast.i64_w, Go.Proofs.YtdfahblgnbdndaaDoorW.PrintLast.i32_w]
      rfl
    refine seq_take (v := ?_) (a' := ?_) rfl rfl (by rfl) (fun w' hw' => ?_) ?_ ?_
    rotate_left 2
    · go_simp
      with_reducible rfl
    · simp only [Act.put, List.setIfInBounds_toArray, List.set_cons_zero, List.set_cons_succ, Go.Proofs.YtdfahblgnbdndaaDoorW.PrintLast.i64_w, Go.Proofs.YtdfahblgnbdndaaDoorW.PrintLast.i32_w]
      rfl
    refine seq_take (v := ?_) (a' := ?_) rfl rfl (by rfl) (fun w' hw' => ?_) ?_ ?_
    rotate_left 2
    · have hq := pw_cell_below hw' HCD.out.2; go_simp
      with_reducible rfl
    · simp only [Act.put, List.setIfInBounds_toArray, List.set_cons_zero, List.set_cons_succ, Go.Proofs.YtdfahblgnbdndaaDoorW.PrintLast.i64_w, Go.Proofs.YtdfahblgnbdndaaDoorW.PrintLast.i32_w]
      rfl
    refine seq_quietv (v := ?_) (a' := ?_) rfl rfl (by rfl) rfl rfl Tryd.func112 (by kernel_rfl) rfl #[.pointer (some ⟨g, 0, none⟩), .int .u8 x] (by simp only [List.map_toArray, List.map_cons, List.map_nil]; rfl) (fun w' hw' => ?_) ?_ ?_
    rotate_left 2
    · with_reducible exact of_done g 169 (RR la N (Go.bits .xor .u32 (rl s) (bword c))) x w' (hw'.heap (w := w2.drew) HR2d.out) hla0.1 hla0.2
    · simp only [Act.put, List.setIfInBounds_toArray, List.set_cons_zero, List.set_cons_succ, Go.Proofs.YtdfahblgnbdndaaDoorW.PrintLast.i64_w, Go.Proofs.YtdfahblgnbdndaaDoorW.PrintLast.i32_w]
      rfl
    refine seq_quiet (v := ?_) (a' := ?_) rfl rfl (by rfl) rfl Tryd.func113 (by kernel_rfl) rfl #[.int .u32 (bword x), .int .i64 16] (by simp only [List.map_toArray, List.map_cons, List.map_nil]; rfl) (fun w' hw' => ?_) ?_ ?_
    rotate_left 2
    · with_reducible exact rolt16_calls (bword x) w' hbx.1 hbx.2
    · simp only [Act.put, List.setIfInBounds_toArray, List.set_cons_zero, List.set_cons_succ, Go.Proofs.YtdfahblgnbdndaaDoorW.PrintLast.i64_w, Go.Proofs.YtdfahblgnbdndaaDoorW.PrintLast.i32_w]
      rfl
    refine seq_take (v := ?_) (a' := ?_) rfl rfl (by rfl) (fun w' hw' => ?_) ?_ ?_
    rotate_left 2
    · go_simp
      with_reducible rfl
    · simp only [Act.put, List.setIfInBounds_toArray, List.set_cons_zero, List.set_cons_succ, Go.Proofs.YtdfahblgnbdndaaDoorW.PrintLast.i64_w, Go.Proofs.YtdfahblgnbdndaaDoorW.PrintLast.i32_w]
      rfl
    refine seq_take (v := ?_) (a' := ?_) rfl rfl (by rfl) (fun w' hw' => ?_) ?_ ?_
    rotate_left 2
    · go_simp
      with_reducible rfl
    · simp only [Act.put, List.setIfInBounds_toArray, List.set_cons_zero, List.set_cons_succ, Go.Proofs.YtdfahblgnbdndaaDoorW.PrintLast.i64_w, Go.Proofs.YtdfahblgnbdndaaDoorW.PrintLast.i32_w]
      rfl
    refine seq_take (v := ?_) (a' := ?_) rfl rfl (by rfl) (fun w' hw' => ?_) ?_ ?_
    rotate_left 2
    · go_simp
      with_reducible rfl
    · simp only [Act.put, List.setIfInBounds_toArray, List.set_cons_zero, List.set_cons_succ, Go.Proofs.YtdfahblgnbdndaaDoorW.PrintLast.i64_w, Go.Proofs.YtdfahblgnbdndaaDoorW.PrintLast.i32_w]
      rfl
    refine seq_run ?_
    refine do_store rfl rfl (by rfl) (store_run rfl rfl rfl (st_rs HR2d.out (WT_len _) ha _)) ?_
    have R3 := set_rs HR2d.out (WT_len _) ha (Go.bits .xor .u32 (Go.bits .xor .u32 (rl s) (bword c)) (rls (bword x) 16))
    generalize w2.drew.setCell ⟨g, 276, none⟩ (.int .u32 (Go.bits .xor .u32 (Go.bits .xor .u32 (rl s) (bword c)) (rls (bword x) 16))) = w3 at *
    refine ⟨fun h => absurd (by simp) h, ?_⟩
    refine seq_end ?_
    have HS3 : Aside0 (SetBlk w w3 g (.cells (Oc 1 0 (WT 256) (RR la N s')).toArray 169 (0, 0))) := ⟨by
      have := HS2.out.drew.next R3
      rw [HS'.out]
      exact this⟩
    clear R3 HS2 HS1
    go_wp2_with (first
      | ((with_reducible refine at_st 5 _ _ ?_); refine store_rl rfl _ _ rfl rfl rfl HS3.out.at_ (WT_len _) ha hk ?_; rintro w4 hS4; have HL4 := Aside0.mk (show (la.set k c).length = 16 by rw [List.length_set, ha]); have hcn4 := RB.n hS4.at_ (WT_len _) HL4.out; have HS4 := Aside0.mk (HS3.out.next hS4); clear hS4)
      | ((with_reducible refine at_st 3 _ _ ?_); refine store_rn rfl _ _ rfl rfl rfl HS4.out.at_ (WT_len _) HL4.out ?_; rintro w5 hS5; have hcs5 := RB.s hS5.at_ (WT_len _) HL4.out; have HS5 := Aside0.mk (HS4.out.next hS5); clear hS5))
    go_ret
    exact ⟨rfl, HE.out _ HS5.out.at_, _, HS5.out⟩
  · have hgeI : ¬ (16 : Int) ≤ (N : Int) := by omega
    have HS' := Aside0.mk (HF.out (by omega))
    clear HM HF
    go_enter Tryd.func100, Tryd.ntmps100
    go_wp2_with (first
      | (go_at_call 113; refine (rolt1_calls s w hs.1 hs.2).mono ?_; rintro e u1 ⟨rfl, rfl⟩)
      | (go_at_call 112; refine (of_calls g 169 (RR la N s) c w ⟨d, ls, HB.out, hl, HD.out⟩ h0 h1).mono ?_; rintro e w1 ⟨rfl, hS1⟩; have HS1 := Aside0.mk hS1; clear hS1)
      | ((with_reducible refine at_st 80 _ _ ?_); refine store_rs rfl _ _ rfl rfl rfl HS1.out.at_ (WT_len _) ha ?_; rintro w2 hS2; have hcn2 := RB.n hS2.at_ (WT_len _) ha; have HS2 := Aside0.mk (HS1.out.next hS2); clear hS2)
      | ((with_reducible refine at_st 5 _ _ ?_); refine store_rl rfl _ _ rfl rfl rfl HS2.out.at_ (WT_len _) ha hk ?_; rintro w4 hS4; have HL4 := Aside0.mk (show (la.set k c).length = 16 by rw [List.length_set, ha]); have hcn4 := RB.n hS4.at_ (WT_len _) HL4.out; have HS4 := Aside0.mk (HS2.out.next hS4); clear hS4)
      | ((with_reducible refine at_st 3 _ _ ?_); refine store_rn rfl _ _ rfl rfl rfl HS4.out.at_ (WT_len _) HL4.out ?_; rintro w5 hS5; have hcs5 := RB.s hS5.at_ (WT_len _) HL4.out; have HS5 := Aside0.mk (HS4.out.next hS5); clear hS5))
    go_ret
    refine ⟨by rw [HS'.out]; rfl, HE.out _ (by rw [HS'.out]; exact HS5.out.at_), _, HS5.out⟩
end Go.Proofs.YtdfahblgnbdndaaDoor
namespace Go.Proofs.YtdfahblgnbdndaaDoor
open Go.RowKit Go.Proofs.YtdfahblgnbdndaaDoorW.PrintWords Go.Proofs.YtdfahblgnbdndaaDoorW.PrintMore
set_option linter.unusedVariables false
set_option linter.unusedSimpArgs false
section
variable {P : Program} {ops : Array Oper} {rest : List Oper} {o : Oper} {a : Act} {Q : Exit → Act → World → Prop} {w : World}
end
end Go.Proofs.YtdfahblgnbdndaaDoor
namespace Go.Proofs.YtdfahblgnbdndaaDoor
open Go.RowKit Go.Proofs.YtdfahblgnbdndaaDoorW.PrintWords Go.Proofs.YtdfahblgnbdndaaDoorW.PrintMore
set_option linter.unusedVariables false
set_option linter.unusedSimpArgs false
def WordsInv (w : World) (v x i : Value) (wr : World) : Prop := ∃ k : Nat, k ≤ 256 ∧ i = .int .i64 k ∧ x = .int .u32 (wseq k) ∧ OwW wr w.heap.size v (WT k) ∧ Below w.heap.size w wr
def OvInv (xs : List Int) (f : Nat) (w : World) (a i : Value) (wr : World) : Prop := ∃ (j : Nat) (y : Int), f ≤ j ∧ j ≤ xs.length ∧ i = .int .i64 j ∧ a = .int .u32 y ∧ (0 ≤ y ∧ y < 4294967296) ∧ xr y (hx (xs.drop j)) = hov xs ∧ w = wr
end Go.Proofs.YtdfahblgnbdndaaDoor
