/- lighteragelaw21's begin, lives. Conditions: their own. -/
import Derived.Test.YtnkkjmbpopodlaaCl9
namespace Go.Proofs.Ytnkkjmbpopodlaa
open Go.RowKit Go.Proofs.YtnkkjmbpopodlaaW.PrintWords Go.Proofs.YtnkkjmbpopodlaaW.PrintMore
set_option linter.unusedVariables false
set_option linter.unusedSimpArgs false
/-- What is in memory of the law's client: the client's place, the document's, the tick, all Asks. -/
def Wc (g : Nat) (c : Cl) (v : Value) (t : Int) (as_ : Value) : List Value := .pointer (some ⟨g, 0, none⟩) :: (Rv c v ++ [.int .i64 t, as_])
theorem Wc_len {g : Nat} {c : Cl} {v : Value} {t : Int} {as_ : Value} : (Wc g c v t as_).length = 9 := rfl
structure WSt (W : World) (B gw g tb : Nat) (c : Cl) (v : Value) (RB : Option Addr) (rd : Nat) (t : Int) (as_ : Value) (asks : List (List Int)) : Prop where
  blk : W.heap[gw]? = some (.cells (Wc g c (.slice RB c.L.length rd) t as_).toArray 65 (0, 0))
  pc : PCl W B g tb c v
  rv : RdV W RB c.L.length c.L
  rc : c.L.length ≤ rd
  as_ : OwL W B as_ asks
  hg : B ≤ gw
theorem WSt.below {w w1 : World} {B gw g tb : Nat} {c : Cl} {v : Value} {RB : Option Addr} {rd : Nat} {t : Int} {as_ : Value} {asks : List (List Int)} (h : WSt w B gw g tb c v RB rd t as_ asks) (k : Below w.heap.size w w1) : WSt w1 B gw g tb c v RB rd t as_ asks :=
  ⟨Later.heap k h.blk, h.pc.below k, Kd.C_below h.rv k, h.rc, Kd.R_below h.as_ k, h.hg⟩
theorem PCl.lower {w : World} {B B' g tb : Nat} {c : Cl} {v : Value} (h : PCl w B g tb c v) (hB : B' ≤ B) : PCl w B' g tb c v :=
  ⟨h.blk, h.tim, Kd.R_lower h.own hB, Nat.le_trans hB h.hg, Nat.le_trans hB h.ht⟩
theorem built_lw (g : Nat) (c : Cl) (v : Value) : Try.prog.built 65 [(0, .pointer (some ⟨g, 0, none⟩)), (1, .agg (Rv c v).toArray)] = some (Wc g c v 0 (.slice none 0 0)).toArray := by kernel_rfl
theorem size_lw {g : Nat} {c : Cl} {v : Value} {t : Int} {as_ : Value} : (Try.prog.info? 65).map (·.size) = some (Wc g c v t as_).length := by rw [Wc_len]; kernel_rfl
theorem wc_cells {w : World} {gw T g : Nat} {c : Cl} {v as_ : Value} {t : Int} {fr : Nat × Nat} (h : w.heap[gw]? = some (.cells (Wc g c v t as_).toArray T fr)) :
    w.cell? ⟨gw, 0, none⟩ = some (.pointer (some ⟨g, 0, none⟩)) ∧ w.cell? ⟨gw, 1, none⟩ = some v ∧ w.cell? ⟨gw, 5, none⟩ = some (.int .i64 c.seq) ∧ w.cell? ⟨gw, 6, none⟩ = some (.int .i64 c.e) ∧ w.cell? ⟨gw, 7, none⟩ = some (.int .i64 t) ∧ w.cell? ⟨gw, 8, none⟩ = some as_ ∧ w.rangeAt gw 1 (Rv c v) := by
  have hc := fun j => cell_of_row w gw j _ T fr h
  refine ⟨by rw [hc]; rfl, by rw [hc]; rfl, by rw [hc]; rfl, by rw [hc]; rfl, by rw [hc]; rfl, by rw [hc]; rfl, fun j u hu => ?_⟩
  rw [hc, List.getElem?_toArray, Nat.add_comm]
  show ((Rv c v ++ [.int .i64 t, as_])[j]? : Option Value) = some u
  rw [List.getElem?_append_left (List.getElem?_eq_some_iff.1 hu).1]
  exact hu
/-- The client of digests. -/
def clOf (l : List Int) (window timeout tries : Int) : Cl := ⟨newL [] (namesL l), window, timeout, tries, 0, 0⟩
theorem newL_nm {ns : List (List Int)} {L : List Wt} (hL : ∀ x ∈ L, x.nm.length = 32 ∧ Bytes x.nm ∧ x.st = 0 ∧ x.seq = 0 ∧ x.due = 0 ∧ x.asks = 0) (hn : ∀ x ∈ ns, x.length = 32 ∧ Bytes x) : ∀ x ∈ newL L ns, x.nm.length = 32 ∧ Bytes x.nm ∧ x.st = 0 ∧ x.seq = 0 ∧ x.due = 0 ∧ x.asks = 0 :=
  newL_all (Q := fun x => x.nm.length = 32 ∧ Bytes x.nm ∧ x.st = 0 ∧ x.seq = 0 ∧ x.due = 0 ∧ x.asks = 0) L ns hL (fun n h => ⟨(hn n h).1, (hn n h).2, rfl, rfl, rfl, rfl⟩)
theorem clOf_ok {l : List Int} {window timeout tries : Int} (h : inR window timeout tries) : (clOf l window timeout tries).ok := by
  obtain ⟨r1, r2, r3, r4, r5, r6⟩ := h
  have hl := newL_len [] (namesL l)
  have h8 := namesL_len l
  refine ⟨fun x hx => ?_, r1, r2, r3, r4, r5, r6, Int.le_refl _, by show (newL [] (namesL l)).length ≤ _; simp at hl; omega⟩
  obtain ⟨a, b, c, d, e, f⟩ := newL_nm (by simp) (namesL_all l) x hx
  exact ⟨a, b, by omega, by show x.seq ≤ 0; omega, by omega, by show x.asks ≤ 0; omega, .inl ⟨c, f⟩⟩
theorem clOf_len (l : List Int) (window timeout tries : Int) : (clOf l window timeout tries).L.length ≤ 8 := by
  have hl := newL_len [] (namesL l)
  have h8 := namesL_len l
  show (newL [] (namesL l)).length ≤ 8
  simp at hl
  omega
def BgPost (c : Cl) (w : World) (e : Ending) (w' : World) : Prop := ∃ gw g tb v RB rd, e = .returned (.pointer (some ⟨gw, 0, none⟩)) ∧ WSt w' w.heap.size gw g tb c v RB rd 0 (.slice none 0 0) [] ∧ Below w.heap.size w w'
set_option maxRecDepth 20000 in
set_option maxHeartbeats 1600000 in
theorem begin_calls (A : Option Addr) (n cp : Nat) (l : List Int) (window timeout tries : Int) (w : World) (h : RdZ w A n l) (hl : I64 l) (hr : inR window timeout tries) :
    Calls Try.prog 21 #[.slice A n cp, .int .i64 window, .int .i64 timeout, .int .i64 tries] w fun e w' => BgPost (clOf l window timeout tries) w e w' := by
  have HR := Aside0.mk h
  have HN : Aside0 (∀ W, Below w.heap.size w W → Calls Try.prog 6 #[.slice A n cp] W fun e w' => NsPost (namesL l) W e w') := ⟨fun W hW => names_calls A n cp l W (Kd.C_below HR.out hW) hl⟩
  have h8 := namesL_len l
  have HW : Aside0 (∀ W B d, RdD W B (namesL l).length (namesL l) → Calls Try.prog 5 #[.slice B (namesL l).length d, .int .i64 window, .int .i64 timeout, .int .i64 tries] W fun e w' => ∃ g tb v, e = .returned (.tuple #[.pointer (some ⟨g, 0, none⟩), .int .i64 0]) ∧ PCl w' W.heap.size g tb (clOf l window timeout tries) v ∧ Below W.heap.size W w') := ⟨fun W B d hW => new_ok B _ d (namesL l) window timeout tries W hW (by omega) hr⟩
  have HV : Aside0 (∀ W B d, RdD W B (namesL l).length (namesL l) → Calls Try.prog 10 #[.slice B (namesL l).length d, .int .i64 window, .int .i64 timeout, .int .i64 tries] W fun e w' => ∃ B d, e = .returned (.agg (Rv (clOf l window timeout tries) (.slice B (clOf l window timeout tries).L.length d)).toArray) ∧ OwV w' W.heap.size (.slice B (clOf l window timeout tries).L.length d) (clOf l window timeout tries).L ∧ Below W.heap.size W w') := ⟨fun W B d hW => rnew_calls B _ d (namesL l) window timeout tries W hW (by omega)⟩
  generalize clOf l window timeout tries = c at *
  generalize namesL l = ns at *
  clear h hl hr
  go_enter Try.func21, Try.ntmps21
  go_upto_region 4 with (first
    | (go_at_call 6; (with_reducible refine at_cw w ?_); refine (HN.out w (Below.refl _ _)).mono ?_; rintro e w1 ⟨B1, d1, rfl, hR1, hB1⟩; have HR1 := Aside0.mk hR1; have HB1 := Aside0.mk hB1; clear hR1 hB1)
    | (go_at_call 5; (with_reducible refine at_cw w1 ?_); refine (HW.out w1 B1 d1 HR1.out).mono ?_; rintro e w2 ⟨g, tb, v, rfl, hP2, hB2⟩; have HP2 := Aside0.mk hP2; have HB2 : Aside0 (Below w.heap.size w w2) := ⟨below_tr' HB1.out hB2⟩; clear hP2 hB2)
    | fail)
  go_wp2_with (first
    | (go_at_call 6; (with_reducible refine at_cw w2 ?_); refine (HN.out w2 HB2.out).mono ?_; rintro e w3 ⟨B3, d3, rfl, hR3, hB3⟩; have HR3 := Aside0.mk hR3; have HB3 := Aside0.mk hB3; clear hR3 hB3)
    | (go_at_call 10; (with_reducible refine at_cw w3 ?_); refine (HV.out w3 B3 d3 HR3.out).mono ?_; rintro e w4 ⟨B4, d4, rfl, hO4, hB4⟩; have HO4 := Aside0.mk hO4; have HB4 : Aside0 (Below w2.heap.size w2 w4) := ⟨below_tr' HB3.out hB4⟩; clear hO4 hB4)
    | ((with_reducible refine at_bd 65 ?_); refine build_arm rfl 65 _ rfl (built_lw g c (.slice B4 c.L.length d4)) ?_; simp only [Act.put, List.setIfInBounds_toArray, List.set_cons_zero, List.set_cons_succ])
    | fail)
  go_ret
  have hB5 := below_alloc (Below.refl w4.heap.size w4) (.cells (Wc g c (.slice B4 c.L.length d4) 0 (.slice none 0 0)).toArray 65)
  have hBW : Below w.heap.size w w4 := below_tr' HB2.out HB4.out
  obtain ⟨A', d', e, hle, hrd⟩ := Kd.R_reads HO4.out
  injection e with e1 _ e3
  subst e1; subst e3
  exact ⟨_, g, tb, v, _, _, rfl, ⟨blk_new w4 _, ((HP2.out.below HB4.out).below hB5).lower HB1.out.size, Kd.C_below hrd hB5, hle, Kd.R_nil _ _ _ _ _, hBW.size⟩, below_tr' hBW hB5⟩
/-- The client's blocks. -/
def SetW (g : Nat) (v : Value) (k : Nat) : Prop := k = g ∨ some k = v.ownBlock
theorem PCl.setv {w : World} {B g tb : Nat} {c : Cl} {v : Value} (h : PCl w B g tb c v) (hp : 0 < c.L.length) : SetW g v (gOf v) := by
  obtain ⟨cp, hv, _⟩ := own_form h.own hp
  refine .inr ?_
  obtain ⟨gr, hgr⟩ : ∃ gr, gOf v = gr := ⟨_, rfl⟩
  rw [hgr] at hv ⊢
  rw [hv]; simp [Value.ownBlock]
theorem PCl.setB {w w1 : World} {B g tb : Nat} {c : Cl} {v : Value} (h : PCl w B g tb c v) (hF : Fr w w1 (SetW g v)) (hB : B ≤ w.heap.size) : Below B w w1 := by
  refine hF.below (fun k hk => ?_) hB
  rcases hk with rfl | hk
  · exact h.hg
  · exact Kd.R_base h.own k hk.symm
theorem PCl.out {w : World} {B g tb : Nat} {c : Cl} {v : Value} (h : PCl w B g tb c v) {k T : Nat} {cs : Array Value} (hk : w.heap[k]? = some (.cells cs T (0, 0))) (h1 : T ≠ 49) (h2 : T ≠ 55) : ¬ SetW g v k := by
  rintro (rfl | e)
  · rw [h.blk] at hk
    injection hk with hk
    injection hk with _ hk
    exact h1 hk.symm
  · exact Kd.R_ne h.own hk (fun e => h2 e.symm) e
/-- A client behind a law's client. -/
structure LS (W : World) (B gw g tb : Nat) (c : Cl) (v : Value) : Prop where
  blk : ∃ cs, W.heap[gw]? = some (.cells cs 65 (0, 0)) ∧ cs[0]? = some (.pointer (some ⟨g, 0, none⟩))
  pc : PCl W B g tb c v
theorem LS.cell {W : World} {B gw g tb : Nat} {c : Cl} {v : Value} (h : LS W B gw g tb c v) : W.cell? ⟨gw, 0, none⟩ = some (.pointer (some ⟨g, 0, none⟩)) := by
  obtain ⟨cs, h1, h2⟩ := h.blk
  rw [blk_cell h1]; exact h2
theorem LS.fr {W W1 : World} {B gw g tb : Nat} {c c' : Cl} {v : Value} (h : LS W B gw g tb c v) (hF : Fr W W1 (SetW g v)) (hP : PCl W1 B g tb c' v) : LS W1 B gw g tb c' v := by
  obtain ⟨cs, h1, h2⟩ := h.blk
  exact ⟨⟨cs, (hF.block gw (blk_lt h1) (h.pc.out h1 (by decide) (by decide))).trans h1, h2⟩, hP⟩
theorem LS.below {W W1 : World} {B gw g tb : Nat} {c : Cl} {v : Value} (h : LS W B gw g tb c v) (k : Below W.heap.size W W1) : LS W1 B gw g tb c v := by
  obtain ⟨cs, h1, h2⟩ := h.blk
  exact ⟨⟨cs, Later.heap k h1, h2⟩, h.pc.below k⟩
theorem ls_step {W : World} {B gw g tb : Nat} {c : Cl} {v : Value} (h : LS W B gw g tb c v) (hB : B ≤ W.heap.size) (hok : c.ok) (hs : c.seq + 2 * c.L.length < 4294967295) (t : Int) (ht0 : 0 ≤ t) (ht1 : t ≤ 1099511627776) {k : Nat} {c' : Cl} (hc : (stepC c t).1 = c') (hk : (stepC c t).2.length = k) :
    Calls Try.prog 22 #[.pointer (some ⟨g, 0, none⟩), .int .i64 t] W fun e w' => ∃ A cp, e = .returned (.slice A k cp) ∧ LS w' B gw g tb c' v ∧ Below B W w' := by
  refine (cstep_calls (SetW g v) B g tb c v t W h.pc (.inl rfl) h.pc.setv hok hs ht0 ht1).mono ?_
  rintro e w' ⟨u, rfl, hO, hP, hF⟩
  obtain ⟨A, cp, rfl, _⟩ := Kd.R_reads hO
  rw [hc] at hP
  rw [hk]
  exact ⟨A, cp, rfl, h.fr hF hP, h.pc.setB hF hB⟩
/-- The document's example, by definition. -/
def lv (N : List Int) (st seq due asks : Int) (e : Int) : Cl := ⟨[⟨N, st, seq, due, asks⟩], 1, 2, 2, seq, e⟩
theorem lv_ok (N : List Int) (h : N.length = 32) (hb : Bytes N) (st seq due asks e : Int) (h0 : 0 ≤ seq) (h1 : 0 ≤ asks) (h2 : asks ≤ seq) (h3 : st = 0 ∧ asks = 0 ∨ st = 1 ∧ 0 < asks ∨ st = 2) : (lv N st seq due asks e).ok := by
  refine ⟨fun x hx => ?_, by show (1 : Int) ≤ 1; omega, by show (1 : Int) ≤ 8; omega, by show (1 : Int) ≤ 2; omega, by show (2 : Int) ≤ 1000; omega, by show (1 : Int) ≤ 2; omega, by show (2 : Int) ≤ 16; omega, h0, by show 1 ≤ 1024; omega⟩
  rw [List.mem_singleton.1 hx]
  exact ⟨h, hb, h0, Int.le_refl _, h1, h2, h3⟩
theorem lv0 (n : Int) : clOf [n] 1 2 2 = lv (nmOf n) 0 0 0 0 0 := rfl
theorem lv1 (N : List Int) : stepC (lv N 0 0 0 0 0) 0 = (lv N 1 1 2 1 0, [askB 1 N]) := rfl
theorem lv2 (N : List Int) : stepC (lv N 1 1 2 1 0) 1 = (lv N 1 1 2 1 0, []) := rfl
theorem lv3 (N : List Int) : stepC (lv N 1 1 2 1 0) 2 = (lv N 1 2 4 2 0, [askB 2 N]) := rfl
theorem lv4 (N : List Int) : stepC (lv N 1 2 4 2 0) 4 = (lv N 1 2 4 2 10, []) := rfl
set_option maxRecDepth 20000 in
set_option maxHeartbeats 1600000 in
theorem clives_calls (w : World) : Calls Try.prog 14 #[] w fun e w' => e = .returned (.bool true) ∧ Below w.heap.size w w' := by
  obtain ⟨w1, hw1⟩ : ∃ w1, w1 = w.alloc (.cells #[.int .i64 1] 3) := ⟨_, rfl⟩
  have HB1 : Aside0 (Below w.heap.size w w1) := ⟨by rw [hw1]; exact below_alloc (Below.refl _ w) _⟩
  have hr : RdZ w1 (some ⟨w.heap.size, 0, none⟩) 1 [1] := by
    refine Kd.C_of_reads (d := (0 : Int)) ⟨rfl, by omega, fun _ => ⟨_, rfl, fun j hj => ?_⟩⟩
    obtain rfl : j = 0 := by omega
    rw [add_plain, hw1, World.cell?_alloc_mark]
    rfl
  have HBG : Aside0 (Calls Try.prog 21 #[.slice (some ⟨w.heap.size, 0, none⟩) 1 1, .int .i64 1, .int .i64 2, .int .i64 2] w1 fun e w' => BgPost (clOf [1] 1 2 2) w1 e w') := ⟨begin_calls _ 1 1 [1] 1 2 2 w1 hr (fun x hx => by rw [List.mem_singleton.1 hx]; omega) (by unfold inR; omega)⟩
  have h32 := nmOf_len 1
  have hby := nmOf_bytes 1
  rw [lv0] at HBG
  generalize nmOf 1 = N at *
  have K0 := Aside0.mk (lv_ok N h32 hby 0 0 0 0 0 (by omega) (by omega) (by omega) (by omega))
  have K1 := Aside0.mk (lv_ok N h32 hby 1 1 2 1 0 (by omega) (by omega) (by omega) (by omega))
  have K2 := Aside0.mk (lv_ok N h32 hby 1 2 4 2 0 (by omega) (by omega) (by omega) (by omega))
  have S0 : Aside0 (∀ W B gw g tb v, LS W B gw g tb (lv N 0 0 0 0 0) v → B ≤ W.heap.size → Calls Try.prog 22 #[.pointer (some ⟨g, 0, none⟩), .int .i64 0] W fun e w' => ∃ A cp, e = .returned (.slice A 1 cp) ∧ LS w' B gw g tb (lv N 1 1 2 1 0) v ∧ Below B W w') := ⟨fun W B gw g tb v h hB => ls_step h hB K0.out (by simp [lv]) 0 (by omega) (by omega) (by rw [lv1]) (by rw [lv1]; rfl)⟩
  have S1 : Aside0 (∀ W B gw g tb v, LS W B gw g tb (lv N 1 1 2 1 0) v → B ≤ W.heap.size → Calls Try.prog 22 #[.pointer (some ⟨g, 0, none⟩), .int .i64 1] W fun e w' => ∃ A cp, e = .returned (.slice A 0 cp) ∧ LS w' B gw g tb (lv N 1 1 2 1 0) v ∧ Below B W w') := ⟨fun W B gw g tb v h hB => ls_step h hB K1.out (by simp [lv]) 1 (by omega) (by omega) (by rw [lv2]) (by rw [lv2]; rfl)⟩
  have S2 : Aside0 (∀ W B gw g tb v, LS W B gw g tb (lv N 1 1 2 1 0) v → B ≤ W.heap.size → Calls Try.prog 22 #[.pointer (some ⟨g, 0, none⟩), .int .i64 2] W fun e w' => ∃ A cp, e = .returned (.slice A 1 cp) ∧ LS w' B gw g tb (lv N 1 2 4 2 0) v ∧ Below B W w') := ⟨fun W B gw g tb v h hB => ls_step h hB K1.out (by simp [lv]) 2 (by omega) (by omega) (by rw [lv3]) (by rw [lv3]; rfl)⟩
  have S4 : Aside0 (∀ W B gw g tb v, LS W B gw g tb (lv N 1 2 4 2 0) v → B ≤ W.heap.size → Calls Try.prog 22 #[.pointer (some ⟨g, 0, none⟩), .int .i64 4] W fun e w' => ∃ A cp, e = .returned (.slice A 0 cp) ∧ LS w' B gw g tb (lv N 1 2 4 2 10) v ∧ Below B W w') := ⟨fun W B gw g tb v h hB => ls_step h hB K2.out (by simp [lv]) 4 (by omega) (by omega) (by rw [lv4]) (by rw [lv4]; rfl)⟩
  have HER : Aside0 (∀ W B gw g tb v, LS W B gw g tb (lv N 1 2 4 2 10) v → Calls Try.prog 13 #[.pointer (some ⟨g, 0, none⟩)] W fun e w' => e = .returned (.int .i64 10) ∧ W = w') := ⟨fun W B gw g tb v h => errno_calls B g tb _ v W h.pc⟩
  clear hr h32 hby K0 K1 K2
  go_enter Try.func14, Try.ntmps14
  go_wp2_with (first
    | (go_at_call 21; rw [← hw1]; refine HBG.out.mono ?_; rintro e w2 ⟨gw, g, tb, v, RB, rd, rfl, hS, hB⟩; have HL2 : Aside0 (LS w2 w1.heap.size gw g tb (lv N 0 0 0 0 0) v) := ⟨⟨⟨_, hS.blk, rfl⟩, hS.pc⟩⟩; have HB2 := Aside0.mk hB; have c2 := HL2.out.cell; clear hS hB)
    | (go_at_call 22; (with_reducible refine at_cw w2 ?_); refine (S0.out w2 _ gw g tb v HL2.out HB2.out.size).mono ?_; rintro e w3 ⟨A3, p3, rfl, hL, hB⟩; have HL3 := Aside0.mk hL; have HB3 : Aside0 (Below w1.heap.size w1 w3) := ⟨HB2.out.trans hB⟩; have c3 := HL3.out.cell; clear hL hB c2)
    | (go_at_call 22; (with_reducible refine at_cw w3 ?_); refine (S1.out w3 _ gw g tb v HL3.out HB3.out.size).mono ?_; rintro e w4 ⟨A4, p4, rfl, hL, hB⟩; have HL4 := Aside0.mk hL; have HB4 : Aside0 (Below w1.heap.size w1 w4) := ⟨HB3.out.trans hB⟩; have c4 := HL4.out.cell; clear hL hB c3)
    | (go_at_call 22; (with_reducible refine at_cw w4 ?_); refine (S2.out w4 _ gw g tb v HL4.out HB4.out.size).mono ?_; rintro e w5 ⟨A5, p5, rfl, hL, hB⟩; have HL5 := Aside0.mk hL; have HB5 : Aside0 (Below w1.heap.size w1 w5) := ⟨HB4.out.trans hB⟩; have c5 := HL5.out.cell; clear hL hB c4)
    | (go_at_call 22; (with_reducible refine at_cw w5 ?_); refine (S4.out w5 _ gw g tb v HL5.out HB5.out.size).mono ?_; rintro e w6 ⟨A6, p6, rfl, hL, hB⟩; have HL6 := Aside0.mk hL; have HB6 : Aside0 (Below w1.heap.size w1 w6) := ⟨HB5.out.trans hB⟩; have c6 := HL6.out.cell; clear hL hB c5)
    | (go_at_call 13; refine (HER.out w6 _ gw g tb v HL6.out).mono ?_; rintro e w7 ⟨rfl, rfl⟩)
    | fail)
  go_ret
  exact ⟨rfl, HB1.out.trans (HB6.out.mono HB1.out.size)⟩
end Go.Proofs.Ytnkkjmbpopodlaa
