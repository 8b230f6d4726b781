/- Plain lemmas and contracts, several texts in one: Sha4, Sha5, Sha6. Conditions: their own. -/
import Derived.Test.YtnkkjmbpopodlaaDoorG5
import Derived.Test.YtnkkjmbpopodlaaDoorShaRef4
import Derived.Test.YtnkkjmbpopodlaaDoorG1
namespace Go.Proofs.YtnkkjmbpopodlaaDoor
open Go.RowKit Go.Proofs.YtnkkjmbpopodlaaDoorW.PrintWords Go.Proofs.YtnkkjmbpopodlaaDoorW.PrintMore
set_option linter.unusedVariables false
set_option linter.unusedSimpArgs false
/-- A state's cells. -/
def Sc (h : List Int) (n : Int) (r : Value) : List Value := Us h ++ [.int .i64 n, r]
theorem Sc_len {h : List Int} {n : Int} {r : Value} (hh : h.length = 8) : (Sc h n r).length = 10 := by simp [Sc, Us_len, hh]
theorem sc8 {h : List Int} {n : Int} {r : Value} (hh : h.length = 8) : (Sc h n r).toArray[8]? = some (.int .i64 n) := by
  simp [Sc, List.getElem?_append_right, Us_len, hh]
theorem sc9 {h : List Int} {n : Int} {r : Value} (hh : h.length = 8) : (Sc h n r).toArray[9]? = some r := by
  simp [Sc, List.getElem?_append_right, Us_len, hh]
theorem sc_set8 {h : List Int} {n m : Int} {r : Value} (hh : h.length = 8) : (Sc h n r).toArray.setIfInBounds 8 (.int .i64 m) = (Sc h m r).toArray := by
  simp [Sc, List.set_append_right, Us_len, hh]
theorem sc_set9 {h : List Int} {n : Int} {r r' : Value} (hh : h.length = 8) : (Sc h n r).toArray.setIfInBounds 9 r' = (Sc h n r').toArray := by
  simp [Sc, List.set_append_right, Us_len, hh]
end Go.Proofs.YtnkkjmbpopodlaaDoor
namespace Go.Proofs.YtnkkjmbpopodlaaDoor
open Go.Proofs.YtnkkjmbpopodlaaDoorW.PrintLast (i64_w i32_w)
open Go.RowKit Go.Proofs.YtnkkjmbpopodlaaDoorW.PrintWords Go.Proofs.YtnkkjmbpopodlaaDoorW.PrintMore
set_option linter.unusedVariables false
set_option linter.unusedSimpArgs false
theorem hs_append (xs ys : List Int) : ∀ j, 64 * j ≤ xs.length → hs (xs ++ ys) j = hs xs j
  | 0, _ => rfl
  | j + 1, h => by
    have e : ((xs ++ ys).drop (64 * j)).take 64 = (xs.drop (64 * j)).take 64 := by
      rw [List.drop_append_of_le_length (by omega), List.take_append_of_le_length (by rw [List.length_drop]; omega)]
    rw [hs, hs, hs_append xs ys j (by omega), e]
theorem QB.form {w : World} {base : Nat} {v : Value} {xs : List Int} (h : QB w base v xs) (hp : 0 < xs.length) : ∃ g o c, v = .slice (some ⟨g, o, none⟩) xs.length c ∧ xs.length ≤ c := by
  rcases h.2 with ⟨h0, _⟩ | ⟨g, off, cap, cur, rfl, hg, hh, hnc, hm, hcs, ht⟩
  · omega
  · exact ⟨g, off * 1, cap, rfl, hnc⟩
section
variable {ops : Array Oper} {rest : List Oper} {o : Oper} {a : Act} {Q : Exit → Act → World → Prop} {w W : World} {g T : Nat} {fr : Nat × Nat} {h : List Int} {n : Int} {r : Value}
theorem ld_n (hg : W.heap[g]? = some (.cells (Sc h n r).toArray T (0, 0))) (hl : h.length = 8) : (Instr.loadAt 3 (.pointer (some ⟨g, 8, none⟩))).run Tryd.prog W = .ok (.int .i64 n) W := by
  have hc : W.cell? ⟨g, 8, none⟩ = some (.int .i64 n) := by rw [blk_cell hg, sc8 hl]
  go_simp
theorem ld_r {A : Option Addr} {m c : Nat} (hg : W.heap[g]? = some (.cells (Sc h n (.slice A m c)).toArray T (0, 0))) (hl : h.length = 8) : (Instr.loadAt 37 (.pointer (some ⟨g, 9, none⟩))).run Tryd.prog W = .ok (.slice A m c) W := by
  have hc : W.cell? ⟨g, 9, none⟩ = some (.slice A m c) := by rw [blk_cell hg, sc9 hl]
  go_simp
theorem sc_range (hg : W.heap[g]? = some (.cells (Sc h n r).toArray T (0, 0))) : W.rangeAt g 0 (Us h) := by
  intro i v hv
  rw [blk_cell hg, Nat.zero_add]
  have hi := (List.getElem?_eq_some_iff.1 hv).1
  simp [Sc, List.getElem?_append_left hi]
  simpa using hv
theorem ld_h (hg : W.heap[g]? = some (.cells (Sc h n r).toArray T (0, 0))) (hl : h.length = 8) : (Instr.loadAt 145 (.pointer (some ⟨g, 0, none⟩))).run Tryd.prog W = .ok (.agg (Us h).toArray) W :=
  run_loadAt_mid W g 0 145 (Us h) _ (sc_range hg) Tryd.underlying145 rfl (size_a8 h hl)
theorem sc_there (hg : w.heap[g]? = some (.cells (Sc h n r).toArray T (0, 0))) (hl : h.length = 8) (i : Nat) (hi : i < 10) : (∃ u, w.cell? ⟨g, i, none⟩ = some u) ∧ w.frozen? ⟨g, i, none⟩ = false :=
  ⟨⟨_, by rw [blk_cell hg, Array.getElem?_eq_getElem (show i < (Sc h n r).toArray.size by rw [List.size_toArray, Sc_len hl]; exact hi)]⟩, blk_frozen hg i⟩
theorem store_n (hgd : o.guard = none) (x y : Operand) (ho : o.op = .store 3 x y) {m : Int} (hx : a.eval x = .pointer (some ⟨g, 8, none⟩)) (hy : a.eval y = .int .i64 m) (hg : w.heap[g]? = some (.cells (Sc h n r).toArray T (0, 0))) (hl : h.length = 8)
    (hk : ∀ w1, SetBlk w w1 g (.cells (Sc h m r).toArray T (0, 0)) → wpList Tryd.prog ops Q rest (a.put o.dst undef) w1) : wpList Tryd.prog ops Q (o :: rest) a w := by
  have hst : (Instr.storeAt 3 (.pointer (some ⟨g, 8, none⟩)) (.int .i64 m)).run Tryd.prog w = .ok () (w.setCell ⟨g, 8, none⟩ (.int .i64 m)) := by
    obtain ⟨⟨u, hc⟩, hf⟩ := sc_there hg hl 8 (by omega)
    clear hg hk
    go_simp
  exact store_arm hgd _ x y ho hx hy hst (hk _ (by have := setBlk_cell hg (.int .i64 m) (i := 8); rwa [sc_set8 hl] at this))
theorem store_r (hgd : o.guard = none) (x y : Operand) (ho : o.op = .store 37 x y) {A : Option Addr} {m c : Nat} (hx : a.eval x = .pointer (some ⟨g, 9, none⟩)) (hy : a.eval y = .slice A m c) (hg : w.heap[g]? = some (.cells (Sc h n r).toArray T (0, 0))) (hl : h.length = 8)
    (hk : ∀ w1, SetBlk w w1 g (.cells (Sc h n (.slice A m c)).toArray T (0, 0)) → wpList Tryd.prog ops Q rest (a.put o.dst undef) w1) : wpList Tryd.prog ops Q (o :: rest) a w := by
  have hst : (Instr.storeAt 37 (.pointer (some ⟨g, 9, none⟩)) (.slice A m c)).run Tryd.prog w = .ok () (w.setCell ⟨g, 9, none⟩ (.slice A m c)) := by
    obtain ⟨⟨u, hc⟩, hf⟩ := sc_there hg hl 9 (by omega)
    clear hg hk
    go_simp
  exact store_arm hgd _ x y ho hx hy hst (hk _ (by have := setBlk_cell hg (.slice A m c) (i := 9); rwa [sc_set9 hl] at this))
theorem setBlk_mid {cur : Array Value} {e : TypeId} (hg : w.heap[g]? = some (.cells cur e (0, 0))) (off : Nat) (vs : List Value) (hs : off + vs.length ≤ cur.size) :
    SetBlk w (w.setCells g off vs) g (.cells (cur.toList.take off ++ vs ++ cur.toList.drop (off + vs.length)).toArray e (0, 0)) := by
  obtain ⟨s1, s2, s3, s4⟩ := setCells_same g vs off w
  obtain ⟨cur', h1, h2, h3⟩ := setCells_row vs off w cur hg (by omega)
  refine ⟨s1, s2, s3, s4, ?_, fun k hk => setCells_far vs off k hk⟩
  have : cur' = (cur.toList.take off ++ vs ++ cur.toList.drop (off + vs.length)).toArray := by
    apply Array.toList_inj.1
    rw [h3]
  rw [h1, this]
theorem st_h {h' : List Int} (hg : w.heap[g]? = some (.cells (Sc h n r).toArray T (0, 0))) (hl : h.length = 8) (hl' : h'.length = 8) :
    (Instr.storeAt 145 (.pointer (some ⟨g, 0, none⟩)) (.agg (Us h').toArray)).run Tryd.prog w = .ok () (w.setCells g 0 (Us h')) ∧ SetBlk w (w.setCells g 0 (Us h')) g (.cells (Sc h' n r).toArray T (0, 0)) := by
  constructor
  · refine run_storeAt_mid w g 0 145 (Us h').toArray ?_ (by rw [List.size_toArray, Us_len, hl']; kernel_rfl) (all_oneCell_toArray (Us_one h'))
    intro j hj
    have hj' : 0 + j < 10 := by
      rw [List.size_toArray, Us_len, hl'] at hj
      omega
    obtain ⟨⟨u, hc⟩, hf⟩ := sc_there hg hl (0 + j) hj'
    exact ⟨by rw [hc]; rfl, hf⟩
  · have := setBlk_mid hg 0 (Us h') (by rw [List.size_toArray, Sc_len hl, Us_len, hl']; omega)
    have e : (Sc h n r).toArray.toList.take 0 ++ Us h' ++ (Sc h n r).toArray.toList.drop (0 + (Us h').length) = Sc h' n r := by
      rw [Us_len, hl']
      show Us h' ++ (Us h ++ [Value.int .i64 n, r]).drop 8 = _
      rw [List.drop_left' (by rw [Us_len, hl])]
      rfl
    rwa [e] at this
end
/-- A state at g: what was written is xs; its rest is v. -/
def Sta (w : World) (base g : Nat) (v : Value) (xs : List Int) : Prop :=
  w.heap[g]? = some (.cells (Sc (hs xs (xs.length / 64)) xs.length v).toArray 147 (0, 0)) ∧ QB w base v (xs.drop (64 * (xs.length / 64)))
/-- How much is left of the last block. -/
def restLen (g : Nat) (w : World) : Nat := match w.cell? ⟨g, 9, none⟩ with
  | some (.slice _ l _) => l
  | _ => 0
theorem rdSet {w w1 : World} {A : Option Addr} {g n : Nat} {xs : List Int} {ob : Obj} (h : RdB w A n xs) (hs : SetBlk w w1 g ob) (hne : ∀ ad, A = some ad → 0 < n → ad.block ≠ g) : RdB w1 A n xs := by
  have hr := Kd.reads_of_C (d := (0 : Int)) h
  refine Kd.C_of_reads (d := (0 : Int)) ⟨hr.1, hr.2.1, fun hp => ?_⟩
  obtain ⟨ad, e, hc⟩ := hr.2.2 hp
  refine ⟨ad, e, fun j hj => ?_⟩
  rw [← hc j hj]
  refine World.cell?_of_block ?_
  have hb : (ad.add j).block = ad.block := by unfold Addr.add; split <;> rfl
  rw [hb]
  exact hs.else_ _ (hne ad e hp)
theorem restLen_eq {w : World} {g T : Nat} {h : List Int} {n : Int} {A : Option Addr} {m c : Nat} (hg : w.heap[g]? = some (.cells (Sc h n (.slice A m c)).toArray T (0, 0))) (hl : h.length = 8) : restLen g w = m := by
  unfold restLen
  rw [blk_cell hg, sc9 hl]
theorem Roots.lt {w : World} (h : Roots w) : 0 < w.heap.size := by
  have := h 0 (by omega)
  unfold World.cell? at this
  rcases Nat.eq_zero_or_pos w.heap.size with h0 | h0
  · rw [Array.getElem?_eq_none (by omega)] at this
    cases this
  · exact h0
theorem Roots.fr {w w1 : World} {S : Nat → Prop} (h : Roots w) (hf : Fr w w1 S) (hS : ¬ S 0) : Roots w1 := fun i hi => by
  rw [← h i hi]
  exact World.cell?_of_block (hf.block 0 h.lt hS)
def WrPost (w : World) (base g : Nat) (v0 : Value) (T : List Int) (e : Ending) (w' : World) : Prop :=
  ∃ v1, e = .returned (.tuple #[]) ∧ Sta w' base g v1 T ∧ (v1.ownBlock = v0.ownBlock ∨ ∃ b, v1.ownBlock = some b ∧ w.heap.size ≤ b) ∧ Fr w w' (fun k => k = g ∨ some k = v0.ownBlock)
set_option maxHeartbeats 3200000 in
set_option maxRecDepth 20000 in
theorem write_calls (g : Nat) (v0 : Value) (xs ys : List Int) (A : Option Addr) (m c : Nat) (w : World) (base : Nat) (hS : Sta w base g v0 xs) (hy : RdB w A m ys) (hbx : Bytes xs) (hby : Bytes ys) (hk : Roots w) (hb : base ≤ w.heap.size) (hl : xs.length + m ≤ 1099511627776) (hb0 : 0 < base) (hbg : base ≤ g) (hsep : ∀ ad, A = some ad → 0 < m → ad.block ≠ g) :
    Calls Tryd.prog 77 #[.pointer (some ⟨g, 0, none⟩), .slice A m c] w fun e w' => WrPost w base g v0 (xs ++ ys) e w' := by
  obtain ⟨G0', HQ'⟩ := hS
  have G0 := Aside0.mk G0'
  have HQ := Aside0.mk HQ'
  have HY := Aside0.mk hy
  have HK := Aside0.mk hk
  have hH := Aside0.mk (hs_len xs (xs.length / 64))
  have HNE := Aside0.mk (HQ'.typed G0' (by decide))
  obtain rfl : ys.length = m := hy.1
  obtain ⟨A0, c0, hv, hc0, _⟩ := HQ'.reads
  have hL0 : (xs.drop (64 * (xs.length / 64))).length = xs.length - 64 * (xs.length / 64) := List.length_drop
  rw [hL0] at hv
  obtain ⟨Tl, HTL⟩ : ∃ T, Aside0 (T = xs ++ ys) := ⟨_, ⟨rfl⟩⟩
  have hTl : Tl.length = xs.length + ys.length := by rw [HTL.out, List.length_append]
  have HTB : Aside0 (Bytes Tl) := ⟨by rw [HTL.out]; exact hbx.append hby⟩
  have HE : Aside0 (hs Tl (xs.length / 64) = hs xs (xs.length / 64)) := ⟨by rw [HTL.out]; exact hs_append xs ys _ (by omega)⟩
  have HD : Aside0 (Tl.drop (64 * (xs.length / 64)) = xs.drop (64 * (xs.length / 64)) ++ ys) := ⟨by rw [HTL.out, List.drop_append_of_le_length (by omega)]⟩
  have hwr : IntKind.i64.wrap ((xs.length : Int) + (ys.length : Int)) = ((Tl.length : Nat) : Int) := by rw [IntKind.wrap_i64, hTl]; omega
  have HSEP := Aside0.mk hsep
  clear G0' HQ' hy hk hc0 hsep
  go_enter Tryd.func77, Tryd.ntmps77
  subst hv
  go_wp2_with (first
    | ((with_reducible refine at_ld 3 (.tmp 6) ?_); refine load_arm rfl 3 (.tmp 6) rfl rfl (ld_n G0.out hH.out) ?_; simp only [Act.put, List.setIfInBounds_toArray, List.set_cons_zero, List.set_cons_succ])
    | ((with_reducible refine at_st 3 (.tmp 12) (.tmp 10) ?_); refine store_n rfl (.tmp 12) (.tmp 10) rfl rfl rfl G0.out hH.out ?_; rintro w1 S1; have HS1 := Aside0.mk S1; have G1 := Aside0.mk S1.at_; clear S1)
    | ((with_reducible refine at_ld 37 (.tmp 16) ?_); refine load_arm rfl 37 (.tmp 16) rfl rfl (ld_r G1.out hH.out) ?_; simp only [Act.put, List.setIfInBounds_toArray, List.set_cons_zero, List.set_cons_succ])
    | (at_builtin; refine appQ (W := w1) base rfl (.tmp 17) (.tmp 18) rfl _ (xs.drop (64 * (xs.length / 64))) ys A ys.length c rfl rfl (HQ.out.move fun k hk2 => HS1.out.else_ k (fun e => HNE.out (by rw [hk2, e]))) (rdSet HY.out HS1.out HSEP.out) (by rw [HS1.out.size]; exact hb) (by rw [hL0]; omega) ?_; intro v2 w2 hQ2 hg2 hat2; have HQ2 := Aside0.mk hQ2; have HG2 := Aside0.mk hg2; have HA2 := Aside0.mk hat2; obtain ⟨A2, c2, hv2, hc2, _⟩ := hQ2.reads; clear hQ2 hg2 hat2; subst hv2; have G2 := Aside0.mk ((HG2.out.block g (blk_lt G1.out) (fun e => HNE.out e.symm)).trans G1.out))
    | ((with_reducible refine at_st 37 (.tmp 21) (.tmp 19) ?_); refine store_r rfl (.tmp 21) (.tmp 19) rfl rfl rfl G2.out hH.out ?_; rintro w3 S3; have HS3 := Aside0.mk S3; have G3 := Aside0.mk S3.at_; clear S3))
  have HNE2 := Aside0.mk (HQ2.out.typed G2.out (by decide))
  have HQ3 : Aside0 (QB w3 base (.slice A2 ((xs.drop (64 * (xs.length / 64))) ++ ys).length c2) (Tl.drop (64 * (xs.length / 64)))) := ⟨by
    rw [HD.out]
    exact HQ2.out.move fun k hk2 => HS3.out.else_ k (fun e => HNE2.out (by rw [hk2, e]))⟩
  have G3' : Aside0 (w3.heap[g]? = some (.cells (Sc (hs Tl (xs.length / 64)) Tl.length (.slice A2 ((xs.drop (64 * (xs.length / 64))) ++ ys).length c2)).toArray 147 (0, 0))) := ⟨by rw [HE.out]; simpa [hTl] using G3.out⟩
  obtain ⟨S0, HS0⟩ : ∃ S : Nat → Prop, Aside0 (S = fun k => k = g ∨ some k = (Value.slice A0 (xs.length - 64 * (xs.length / 64)) c0).ownBlock) := ⟨_, ⟨rfl⟩⟩
  have HF3 : Aside0 (Fr w w3 S0) := ⟨by
    rw [HS0.out]
    exact (((Fr.refl w _).set HS1.out (.inl (.inl rfl))).grown HG2.out (fun i hi => .inl (.inr hi.symm))).set HS3.out (.inl (.inl rfl))⟩
  have HO3 : Aside0 ((Value.slice A2 ((xs.drop (64 * (xs.length / 64))) ++ ys).length c2).ownBlock = (Value.slice A0 (xs.length - 64 * (xs.length / 64)) c0).ownBlock ∨ ∃ b, (Value.slice A2 ((xs.drop (64 * (xs.length / 64))) ++ ys).length c2).ownBlock = some b ∧ w.heap.size ≤ b) := ⟨by
    rcases HA2.out with h | ⟨b, h, hle⟩
    · exact .inl h
    · exact .inr ⟨b, h, by rw [HS1.out.size] at hle; exact hle⟩⟩
  have HS00 : Aside0 (¬ S0 0) := ⟨by
    rw [HS0.out]
    rintro (h | h)
    · omega
    · have := HQ.out.ge 0 h.symm
      omega⟩
  have hq0 : 64 * (xs.length / 64) ≤ Tl.length := by omega
  have HTLL := Aside0.mk hTl
  generalize ((xs.drop (64 * (xs.length / 64))) ++ ys).length = L2 at *
  generalize hv0 : Value.slice A0 (xs.length - 64 * (xs.length / 64)) c0 = v0 at *
  have HV0 := Aside0.mk hv0
  clear G0 G1 G2 G3 HQ HQ2 HNE HNE2 HS1 HS3 HG2 HA2 HE HD hwr hL0 HY HSEP hv0
  (try simp only [Act.put, List.setIfInBounds_toArray, List.set_cons_zero, List.set_cons_succ])
  go_loopw [22] (fun _ wr => ∃ (q : Nat) (v' : Value), 64 * q ≤ Tl.length ∧ wr.heap[g]? = some (.cells (Sc (hs Tl q) Tl.length v').toArray 147 (0, 0)) ∧ QB wr base v' (Tl.drop (64 * q)) ∧ (v'.ownBlock = v0.ownBlock ∨ ∃ b, v'.ownBlock = some b ∧ w.heap.size ≤ b) ∧ Fr w wr S0) (fun _ wr => restLen g wr)
  case atStart => exact ⟨xs.length / 64, _, hq0, G3'.out, HQ3.out, HO3.out, HF3.out⟩
  case round =>
    clear G3' HQ3 HO3 HF3 hq0
    obtain ⟨q, v', hq, hG, hQ, hO, hF⟩ := hrel
    have G := Aside0.mk hG
    have HQ := Aside0.mk hQ
    have HO := Aside0.mk hO
    have HF := Aside0.mk hF
    have hH := Aside0.mk (hs_len Tl q)
    have hHW := Aside0.mk (hs_ws Tl q)
    have hDL : (Tl.drop (64 * q)).length = Tl.length - 64 * q := List.length_drop
    clear hG hQ hO hF
    by_cases h64 : 64 ≤ Tl.length - 64 * q
    · obtain ⟨gq, oq, cq, hv', hcq⟩ := HQ.out.form (by omega)
      rw [hDL] at hv' hcq
      have HHS : Aside0 (hs Tl (q + 1) = comp (hs Tl q) ((Tl.drop (64 * q)).take 64)) := ⟨rfl⟩
      obtain ⟨_, _, hvr, _, hRD⟩ := HQ.out.reads
      rw [hDL, hv'] at hvr
      injection hvr with hA1 _ hc1
      subst hA1
      subst hc1
      rw [hDL] at hRD
      have HNE := Aside0.mk (HQ.out.typed G.out (by decide))
      subst hv'
      obtain ⟨hcut, hRc⟩ := cutTo hRD hcq 64 (by omega) (by omega)
      simp only [Int.reduceToNat] at hcut hRc
      have HRC := Aside0.mk hRc
      obtain ⟨B2, hdr, hQd, hod⟩ := HQ.out.drop (by rw [hDL]) 64 (by rw [hDL]; omega)
      have HQD := Aside0.mk hQd
      have HOD := Aside0.mk hod
      have hge : (64 : Int) ≤ ((Tl.length - 64 * q : Nat) : Int) := by omega
      have HRT := Aside0.mk (HK.out.fr HF.out HS00.out)
      have HBT : Aside0 (Bytes ((Tl.drop (64 * q)).take 64)) := ⟨(HTB.out.drop _).take _⟩
      have hdr2 : ∀ W : World, (Instr.slice 37 (.slice (some ⟨gq, oq, none⟩) (Tl.length - 64 * q) cq) (some (.int .i64 64)) none none).run Tryd.prog W = .ok (.slice B2 (Tl.length - 64 * q - 64) (cq - 64)) W := hdr
      have HDL := Aside0.mk hDL
      generalize hs Tl q = hh at *
      generalize hLL : Tl.length - 64 * q = LL at *
      clear hRD hRc hQd hod hdr hDL
      go_wp2_with (first | ((with_reducible refine at_ld 37 (.tmp 24) ?_); refine load_arm rfl 37 (.tmp 24) rfl rfl (ld_r G.out hH.out) ?_; simp only [Act.put, List.setIfInBounds_toArray, List.set_cons_zero, List.set_cons_succ]))
      have D1 : Aside0 (Below wr.heap.size wr wr.drew) := ⟨Below.drew (Below.refl _ _)⟩
      have GD : Aside0 (wr.drew.heap[g]? = some (.cells (Sc hh Tl.length (.slice (some ⟨gq, oq, none⟩) LL cq)).toArray 147 (0, 0))) := ⟨G.out⟩
      refine seq_start [13] (.take 0 (.take 1 (.take 2 (.take 3 (.take 4 (.take 5 (.take 6 (.take 7 (.take 8 (.take 9 (.run 10 (.take 11 (.take 12 (.run 13 .done)))))))))))))) (by kernel_rfl) (by kernel_rfl) (fun _ _ d _ _ h => by cases d <;> exact h) ?_
      refine seq_take (v := ?_) (a' := ?_) rfl rfl (by rfl) (fun w' hw' => ?_) ?_ ?_
      rotate_left 2
      · go_simp
        with_reducible rfl
      · simp only [Act.put, List.setIfInBounds_toArray, List.set_cons_zero, List.set_cons_succ, i64_w, i32_w]
        rfl
      refine seq_take (v := ?_) (a' := ?_) rfl rfl (by rfl) (fun w' hw' => ?_) ?_ ?_
      rotate_left 2
      · go_simp
        with_reducible rfl
      · simp only [Act.put, List.setIfInBounds_toArray, List.set_cons_zero, List.set_cons_succ, i64_w, i32_w]
        rfl
      refine seq_take (v := ?_) (a' := ?_) rfl rfl (by rfl) (fun w' hw' => ?_) ?_ ?_
      rotate_left 2
      · go_simp
        with_reducible rfl
      · simp only [Act.put, List.setIfInBounds_toArray, List.set_cons_zero, List.set_cons_succ, i64_w, i32_w]
        rfl
      refine seq_take (v := ?_) (a' := ?_) rfl rfl (by rfl) (fun w' hw' => ?_) ?_ ?_
      rotate_left 2
      · go_simp
        with_reducible rfl
      · simp only [Act.put, List.setIfInBounds_toArray, List.set_cons_zero, List.set_cons_succ, i64_w, i32_w]
        rfl
      refine seq_take (v := _) (a' := ?_) rfl rfl (by rfl) (fun w' hw' => load_run rfl (p := .pointer (some ⟨g, 0, none⟩)) rfl (ld_h (hw'.heap GD.out) hH.out)) ?_ ?_
      rotate_left
      · simp only [Act.put, List.setIfInBounds_toArray, List.set_cons_zero, List.set_cons_succ, i64_w, i32_w]
        rfl
      refine seq_take (v := ?_) (a' := ?_) rfl rfl (by rfl) (fun w' hw' => ?_) ?_ ?_
      rotate_left 2
      · go_simp
        with_reducible rfl
      · simp only [Act.put, List.setIfInBounds_toArray, List.set_cons_zero, List.set_cons_succ, i64_w, i32_w]
        rfl
      refine seq_take (v := ?_) (a' := ?_) rfl rfl (by rfl) (fun w' hw' => ?_) ?_ ?_
      rotate_left 2
      · go_simp
        with_reducible rfl
      · simp only [Act.put, List.setIfInBounds_toArray, List.set_cons_zero, List.set_cons_succ, i64_w, i32_w]
        rfl
      refine seq_take (v := ?_) (a' := ?_) rfl rfl (by rfl) (fun w' hw' => ?_) ?_ ?_
      rotate_left 2
      · go_simp
        with_reducible rfl
      · simp only [Act.put, List.setIfInBounds_toArray, List.set_cons_zero, List.set_cons_succ, i64_w, i32_w]
        rfl
      refine seq_take (v := _) (a' := ?_) rfl rfl (by rfl) (fun w' hw' => load_run rfl (p := .pointer (some ⟨g, 9, none⟩)) rfl (ld_r (hw'.heap GD.out) hH.out)) ?_ ?_
      rotate_left
      · simp only [Act.put, List.setIfInBounds_toArray, List.set_cons_zero, List.set_cons_succ, i64_w, i32_w]
        rfl
      refine seq_take (v := ?_) (a' := ?_) rfl rfl (by rfl) (fun w' hw' => ?_) ?_ ?_
      rotate_left 2
      · go_simp
        with_reducible rfl
      · simp only [Act.put, List.setIfInBounds_toArray, List.set_cons_zero, List.set_cons_succ, i64_w, i32_w]
        rfl
      refine seq_run ?_
      refine do_call rfl rfl (by rfl) rfl Tryd.func93 (by kernel_rfl) rfl #[.agg (Us hh).toArray, .slice (some ⟨gq, oq, none⟩) 64 cq] (by simp only [List.map_toArray, List.map_cons, List.map_nil]; rfl) ?_
      with_reducible refine (mix_calls hh _ gq oq cq ((Tl.drop (64 * q)).take 64) _ rfl hH.out hHW.out (Kd.C_drew HRC.out) (by omega) HBT.out (HRT.out.below D1.out)).mono ?_
      rintro e w4 ⟨rfl, hC4⟩
      refine ⟨_, ?_, rfl, ?_, fun _ => hC4, ?_⟩
      rotate_left
      · simp only [Act.put, List.setIfInBounds_toArray, List.set_cons_zero, List.set_cons_succ, i64_w, i32_w]
        rfl
      refine seq_take (v := ?_) (a' := ?_) rfl rfl (by rfl) (fun w' hw' => ?_) ?_ ?_
      rotate_left 2
      · go_simp
        with_reducible rfl
      · simp only [Act.put, List.setIfInBounds_toArray, List.set_cons_zero, List.set_cons_succ, i64_w, i32_w]
        rfl
      refine seq_take (v := ?_) (a' := ?_) rfl rfl (by rfl) (fun w' hw' => ?_) ?_ ?_
      rotate_left 2
      · go_simp
        with_reducible rfl
      · simp only [Act.put, List.setIfInBounds_toArray, List.set_cons_zero, List.set_cons_succ, i64_w, i32_w]
        rfl
      have G4 := blk_below hC4 GD.out
      have hcl := comp_len (b := (Tl.drop (64 * q)).take 64) hH.out
      obtain ⟨hst, hset⟩ := st_h G4 hH.out hcl
      refine seq_run ?_
      refine do_store rfl rfl (by rfl) (store_run rfl rfl rfl hst) ?_
      refine ⟨fun h => absurd (by simp) h, ?_⟩
      refine seq_end ?_
      have HSET := Aside0.mk hset
      have HC4 := Aside0.mk hC4
      have HCL := Aside0.mk hcl
      have G5 := Aside0.mk hset.at_
      rw [← HHS.out] at HSET HCL G5 ⊢
      clear hst hset hcl G4 hC4
      generalize w4.setCells g 0 (Us (hs Tl (q + 1))) = w5 at *
      go_wp2_with (first
        | ((with_reducible refine at_ld 37 (.tmp 44) ?_); refine load_arm rfl 37 (.tmp 44) rfl rfl (ld_r G5.out HCL.out) ?_; simp only [Act.put, List.setIfInBounds_toArray, List.set_cons_zero, List.set_cons_succ])
        | ((with_reducible refine at_st 37 (.tmp 48) (.tmp 46) ?_); refine store_r rfl (.tmp 48) (.tmp 46) rfl rfl rfl G5.out HCL.out ?_; rintro w6 S6; have HS6 := Aside0.mk S6; clear S6))
      (try simp only [Act.put, List.setIfInBounds_toArray, List.set_cons_zero, List.set_cons_succ])
      go_roundw
      case rel =>
        refine ⟨q + 1, .slice B2 (LL - 64) (cq - 64), by omega, HS6.out.at_, ?_, ?_, ?_⟩
        · rw [show 64 * (q + 1) = 64 * q + 64 by omega, ← List.drop_drop]
          refine HQD.out.move fun k hk => ?_
          have hlt := HQD.out.lt k hk
          have hne : k ≠ g := fun e => HNE.out (by rw [← HOD.out, hk, e])
          rw [HS6.out.else_ k hne, HSET.out.else_ k hne, HC4.out.block k hlt]
          rfl
        · rw [HOD.out]
          exact HO.out
        · exact ((HF.out.drew.call HC4.out).set HSET.out (.inl (by rw [HS0.out]; exact .inl rfl))).set HS6.out (.inl (by rw [HS0.out]; exact .inl rfl))
      case measure =>
        rw [restLen_eq HS6.out.at_ HCL.out, restLen_eq G.out hH.out]
        omega
    · have hqe : Tl.length / 64 = q := by omega
      obtain ⟨A1, c1, hv', hc1, _⟩ := HQ.out.reads
      rw [hDL] at hv'
      have hlt : ¬ (64 : Int) ≤ ((Tl.length - 64 * q : Nat) : Int) := by omega
      have hlt2 : ((Tl.length - 64 * q : Nat) : Int) < 64 := by omega
      have HSTA : Aside0 (Sta wr base g v' Tl) := ⟨by
        unfold Sta
        rw [hqe]
        exact ⟨G.out, HQ.out⟩⟩
      subst hv'
      generalize Tl.length - 64 * q = LL at *
      go_wp2_with (first | ((with_reducible refine at_ld 37 (.tmp 24) ?_); refine load_arm rfl 37 (.tmp 24) rfl rfl (ld_r G.out hH.out) ?_; simp only [Act.put, List.setIfInBounds_toArray, List.set_cons_zero, List.set_cons_succ]))
      refine bodyPost_end (results_none rfl _ _ _) rfl ?_
      rw [← HTL.out]
      have hF := HF.out
      rw [HS0.out] at hF
      rw [HV0.out]
      exact ⟨_, rfl, HSTA.out, HO.out, hF⟩
end Go.Proofs.YtnkkjmbpopodlaaDoor
namespace Go.Proofs.YtnkkjmbpopodlaaDoor
open Go.Proofs.YtnkkjmbpopodlaaDoorW.PrintLast (i64_w i32_w)
open Go.RowKit Go.Proofs.YtnkkjmbpopodlaaDoorW.PrintWords Go.Proofs.YtnkkjmbpopodlaaDoorW.PrintMore
set_option linter.unusedVariables false
set_option linter.unusedSimpArgs false
theorem built_iv : Tryd.prog.built 145 [(0, .int .u32 1779033703), (1, .int .u32 3144134277), (2, .int .u32 1013904242), (3, .int .u32 2773480762), (4, .int .u32 1359893119), (5, .int .u32 2600822924), (6, .int .u32 528734635), (7, .int .u32 1541459225)] = some (Us IV).toArray := by kernel_rfl
theorem built_s0 : Tryd.prog.built 147 [(0, .agg (Us IV).toArray)] = some (Sc IV 0 (.slice none 0 0)).toArray := by kernel_rfl
theorem built_s8 (x0 x1 x2 x3 x4 x5 x6 x7 n : Int) (A : Option Addr) (m c : Nat) : Tryd.prog.built 147 [(0, .agg (Us [x0, x1, x2, x3, x4, x5, x6, x7]).toArray), (1, .int .i64 n), (2, .slice A m c)] = some (Sc [x0, x1, x2, x3, x4, x5, x6, x7] n (.slice A m c)).toArray := by kernel_rfl
theorem built_s3 (h : List Int) (n : Int) (A : Option Addr) (m c : Nat) (hl : h.length = 8) : Tryd.prog.built 147 [(0, .agg (Us h).toArray), (1, .int .i64 n), (2, .slice A m c)] = some (Sc h n (.slice A m c)).toArray := by
  match h, hl with
  | [x0, x1, x2, x3, x4, x5, x6, x7], _ => exact built_s8 x0 x1 x2 x3 x4 x5 x6 x7 n A m c
def NwPost (w : World) (xs : List Int) (e : Ending) (w' : World) : Prop :=
  ∃ (g : Nat) (v : Value), e = .returned (.pointer (some ⟨g, 0, none⟩)) ∧ w.heap.size ≤ g ∧ g < w'.heap.size ∧ Sta w' w.heap.size g v xs ∧ Below w.heap.size w w'
theorem new_calls (w : World) : Calls Tryd.prog 76 #[] w fun e w' => NwPost w [] e w' := by
  go_enter Tryd.func76, Tryd.ntmps76
  go_wp2_with (first
    | ((with_reducible refine at_bd 145 ?_); refine build_arm rfl 145 _ rfl built_iv ?_; simp only [Act.put, List.setIfInBounds_toArray, List.set_cons_zero, List.set_cons_succ])
    | ((with_reducible refine at_bd 147 ?_); refine build_arm rfl 147 _ rfl built_s0 ?_; simp only [Act.put, List.setIfInBounds_toArray, List.set_cons_zero, List.set_cons_succ]))
  go_ret
  exact ⟨w.heap.size, .slice none 0 0, rfl, Nat.le_refl _, by simp, ⟨blk_new w _, QB.nil _ _⟩, (Below.refl _ _).alloc (Nat.le_refl _) _⟩
set_option maxRecDepth 20000 in
theorem sclone_calls (g : Nat) (v : Value) (xs : List Int) (base : Nat) (w : World) (h : Sta w base g v xs) (hl : xs.length ≤ 1099511627776) : Calls Tryd.prog 94 #[.pointer (some ⟨g, 0, none⟩)] w fun e w' => NwPost w xs e w' := by
  have hH := Aside0.mk (hs_len xs (xs.length / 64))
  have G' := h.1
  obtain ⟨A, c, hv, hc, hR⟩ := h.2.reads
  have hDL : (xs.drop (64 * (xs.length / 64))).length = xs.length - 64 * (xs.length / 64) := List.length_drop
  rw [hv] at G'
  rw [hDL] at G' hR
  have HR := Aside0.mk hR
  have GD : Aside0 (w.drew.heap[g]? = some (.cells (Sc (hs xs (xs.length / 64)) xs.length (.slice A (xs.length - 64 * (xs.length / 64)) c)).toArray 147 (0, 0))) := ⟨G'⟩
  have HDL := Aside0.mk hDL
  have HHE : Aside0 (hs xs (xs.length / 64) = hs xs (xs.length / 64)) := ⟨rfl⟩
  clear h G' hv hc hR hDL
  have hLE : xs.length - 64 * (xs.length / 64) ≤ 140737488355328 := by omega
  generalize hLL : xs.length - 64 * (xs.length / 64) = LL at *
  generalize hhh : hs xs (xs.length / 64) = hh at *
  have HHH := Aside0.mk hhh
  clear hhh hLL
  go_enter Tryd.func94, Tryd.ntmps94
  go_wp2
  refine seq_start [] (.take 0 (.take 1 (.take 2 (.take 3 (.take 4 (.take 5 (.take 6 (.take 7 (.take 8 (.take 9 (.take 10 (.take 11 (.run 12 (.take 13 (.run 14 (.take 15 .done)))))))))))))))) (by kernel_rfl) (by kernel_rfl) (fun _ _ d _ _ h => by cases d <;> exact h) ?_
  refine seq_take (v := ?_) (a' := ?_) rfl rfl (by rfl) (fun w' hw' => ?_) ?_ ?_
  rotate_left 2
  · go_simp
    with_reducible rfl
  · simp only [Act.put, List.setIfInBounds_toArray, List.set_cons_zero, List.set_cons_succ, i64_w, i32_w]
    rfl
  refine seq_take (v := ?_) (a' := ?_) rfl rfl (by rfl) (fun w' hw' => ?_) ?_ ?_
  rotate_left 2
  · go_simp
    with_reducible rfl
  · simp only [Act.put, List.setIfInBounds_toArray, List.set_cons_zero, List.set_cons_succ, i64_w, i32_w]
    rfl
  refine seq_take (v := ?_) (a' := ?_) rfl rfl (by rfl) (fun w' hw' => ?_) ?_ ?_
  rotate_left 2
  · go_simp
    with_reducible rfl
  · simp only [Act.put, List.setIfInBounds_toArray, List.set_cons_zero, List.set_cons_succ, i64_w, i32_w]
    rfl
  refine seq_take (v := _) (a' := ?_) rfl rfl (by rfl) (fun w' hw' => load_run rfl (p := .pointer (some ⟨g, 0, none⟩)) rfl (ld_h (hw'.heap GD.out) hH.out)) ?_ ?_
  rotate_left
  · simp only [Act.put, List.setIfInBounds_toArray, List.set_cons_zero, List.set_cons_succ, i64_w, i32_w]
    rfl
  refine seq_take (v := ?_) (a' := ?_) rfl rfl (by rfl) (fun w' hw' => ?_) ?_ ?_
  rotate_left 2
  · go_simp
    with_reducible rfl
  · simp only [Act.put, List.setIfInBounds_toArray, List.set_cons_zero, List.set_cons_succ, i64_w, i32_w]
    rfl
  refine seq_take (v := ?_) (a' := ?_) rfl rfl (by rfl) (fun w' hw' => ?_) ?_ ?_
  rotate_left 2
  · go_simp
    with_reducible rfl
  · simp only [Act.put, List.setIfInBounds_toArray, List.set_cons_zero, List.set_cons_succ, i64_w, i32_w]
    rfl
  refine seq_take (v := ?_) (a' := ?_) rfl rfl (by rfl) (fun w' hw' => ?_) ?_ ?_
  rotate_left 2
  · go_simp
    with_reducible rfl
  · simp only [Act.put, List.setIfInBounds_toArray, List.set_cons_zero, List.set_cons_succ, i64_w, i32_w]
    rfl
  refine seq_take (v := _) (a' := ?_) rfl rfl (by rfl) (fun w' hw' => load_run rfl (p := .pointer (some ⟨g, 8, none⟩)) rfl (ld_n (hw'.heap GD.out) hH.out)) ?_ ?_
  rotate_left
  · simp only [Act.put, List.setIfInBounds_toArray, List.set_cons_zero, List.set_cons_succ, i64_w, i32_w]
    rfl
  refine seq_take (v := ?_) (a' := ?_) rfl rfl (by rfl) (fun w' hw' => ?_) ?_ ?_
  rotate_left 2
  · go_simp
    with_reducible rfl
  · simp only [Act.put, List.setIfInBounds_toArray, List.set_cons_zero, List.set_cons_succ, i64_w, i32_w]
    rfl
  refine seq_take (v := ?_) (a' := ?_) rfl rfl (by rfl) (fun w' hw' => ?_) ?_ ?_
  rotate_left 2
  · go_simp
    with_reducible rfl
  · simp only [Act.put, List.setIfInBounds_toArray, List.set_cons_zero, List.set_cons_succ, i64_w, i32_w]
    rfl
  refine seq_take (v := ?_) (a' := ?_) rfl rfl (by rfl) (fun w' hw' => ?_) ?_ ?_
  rotate_left 2
  · go_simp
    with_reducible rfl
  · simp only [Act.put, List.setIfInBounds_toArray, List.set_cons_zero, List.set_cons_succ, i64_w, i32_w]
    rfl
  refine seq_take (v := _) (a' := ?_) rfl rfl (by rfl) (fun w' hw' => load_run rfl (p := .pointer (some ⟨g, 9, none⟩)) rfl (ld_r (hw'.heap GD.out) hH.out)) ?_ ?_
  rotate_left
  · simp only [Act.put, List.setIfInBounds_toArray, List.set_cons_zero, List.set_cons_succ, i64_w, i32_w]
    rfl
  refine seq_run ?_
  refine do_call rfl rfl (by rfl) rfl Tryd.func57 (by kernel_rfl) rfl #[.slice A LL c] (by simp only [List.map_toArray, List.map_cons, List.map_nil]; rfl) ?_
  with_reducible refine (clone_calls A LL c (xs.drop (64 * (xs.length / 64))) _ (Kd.C_drew HR.out) (by omega)).mono ?_
  rintro e w1 ⟨v1, rfl, hO1, hB1⟩
  refine ⟨_, ?_, rfl, ?_, fun _ => hB1, ?_⟩
  rotate_left
  · simp only [Act.put, List.setIfInBounds_toArray, List.set_cons_zero, List.set_cons_succ, i64_w, i32_w]
    rfl
  obtain ⟨A1, c1, hv1, hc1, _⟩ := OwB.reads hO1
  have HO1 := Aside0.mk hO1
  have HB1 := Aside0.mk hB1
  clear hO1 hB1
  subst hv1
  refine seq_take (v := _) (a' := ?_) rfl rfl (by rfl) (fun w' hw' => build_run _ _ rfl (built_s3 hh xs.length A1 _ c1 hH.out)) ?_ ?_
  rotate_left
  · simp only [Act.put, List.setIfInBounds_toArray, List.set_cons_zero, List.set_cons_succ, i64_w, i32_w]
    rfl
  refine seq_run ?_
  refine do_val (v := ?_) (a' := ?_) (w1 := ?_) rfl rfl (by rfl) ?_ ?_ ?_
  rotate_left 3
  · go_simp
    constructor <;> rfl
  · simp only [Act.put, List.setIfInBounds_toArray, List.set_cons_zero, List.set_cons_succ, i64_w, i32_w]
    rfl
  refine ⟨fun _ => below_alloc (Below.refl _ _) _, ?_⟩
  refine seq_take (v := ?_) (a' := ?_) rfl rfl (by rfl) (fun w' hw' => ?_) ?_ ?_
  rotate_left 2
  · go_simp
    with_reducible rfl
  · simp only [Act.put, List.setIfInBounds_toArray, List.set_cons_zero, List.set_cons_succ, i64_w, i32_w]
    rfl
  refine seq_end ?_
  go_wp2
  go_ret
  refine ⟨w1.heap.size, .slice A1 (xs.drop (64 * (xs.length / 64))).length c1, rfl, ?_, ?_, ⟨?_, ?_⟩, ?_⟩
  · exact HB1.out.size
  · simp
  · rw [HHH.out, show (xs.drop (64 * (xs.length / 64))).length = xs.length - 64 * (xs.length / 64) from List.length_drop]
    exact blk_new w1 _
  · exact ((QB.own HO1.out).lower (Nat.le_refl _)).below ((Below.refl _ _).alloc (Nat.le_refl _) _)
  · exact ((Below.drew (Below.refl _ _)).trans HB1.out).alloc HB1.out.size _
end Go.Proofs.YtnkkjmbpopodlaaDoor
