/- Plain lemmas and contracts, several texts in one: Cl9, ClA. Conditions: their own. -/
import Derived.Test.YtnkkjmbpopodlaaDoorG16
import Derived.Test.YtnkkjmbpopodlaaDoorG17
import Derived.Test.YtnkkjmbpopodlaaDoorShaRef4
import Derived.Test.YtnkkjmbpopodlaaDoorG2
namespace Go.Proofs.YtnkkjmbpopodlaaDoor
open Go.RowKit Go.Proofs.YtnkkjmbpopodlaaDoorW.PrintWords Go.Proofs.YtnkkjmbpopodlaaDoorW.PrintMore
set_option linter.unusedVariables false
set_option linter.unusedSimpArgs false
def chunkL (n : Int) : List Int := fillL [65 + around n 6, 1, around n 6] (3 * around n 6).toNat
def nmOf (n : Int) : List Int := shaL (chunkL n)
def namesL (l : List Int) : List (List Int) := (l.take 8).map nmOf
theorem chunk_lit (n : Int) : Bytes [65 + around n 6, 1, around n 6] := by
  have := around_range n 6 (by omega)
  intro x hx
  simp only [List.mem_cons, List.not_mem_nil, or_false] at hx
  omega
theorem chunkL_bytes (n : Int) : Bytes (chunkL n) := fillL_bytes (chunk_lit n) _
theorem chunkL_len (n : Int) : (chunkL n).length ≤ 15 := by
  have := around_range n 6 (by omega)
  unfold chunkL
  rw [fillL_len]
  omega
theorem nmOf_len (n : Int) : (nmOf n).length = 32 := shaL_len _
theorem nmOf_bytes (n : Int) : Bytes (nmOf n) := shaL_bytes _
theorem namesL_len (l : List Int) : (namesL l).length ≤ 8 := by simp [namesL]; omega
theorem chunk_calls (n : Int) (w : World) (h0 : -9223372036854775808 ≤ n) (h1 : n ≤ 9223372036854775807) :
    Calls Tryd.prog 14 #[.int .i64 n] w fun e w' => ∃ B d, e = .returned (.slice B (chunkL n).length d) ∧ Aside0 (OwB w' w.heap.size (.slice B (chunkL n).length d) (chunkL n)) ∧ Below w.heap.size w w' := by
  obtain ⟨k, hk⟩ : ∃ k, around n 6 = k := ⟨_, rfl⟩
  have hr := around_range n 6 (by omega)
  have HB := chunk_lit n
  have HE : Aside0 (chunkL n = fillL [65 + k, 1, k] (3 * k).toNat) := ⟨by unfold chunkL; rw [hk]⟩
  have HAR := Aside0.mk (around_calls n 6 w h0 h1 (by omega) (by omega))
  rw [hk] at hr HB HAR
  rw [HE.out, fillL_len]
  have e1 : IntKind.u8.wrap (65 + k) = 65 + k := by simp [IntKind.wrap, IntKind.signed, IntKind.bits]; omega
  have e2 : IntKind.u8.wrap k = k := by simp [IntKind.wrap, IntKind.signed, IntKind.bits]; omega
  have e3 : IntKind.i64.wrap (65 + k) = 65 + k := by rw [IntKind.wrap_i64]; omega
  have e4 : IntKind.i64.wrap (3 * k) = 3 * k := by rw [IntKind.wrap_i64]; omega
  have HFI : Aside0 (∀ W : World, Calls Tryd.prog 38 #[.slice (some ⟨W.heap.size, 0, none⟩) 3 3, .int .i64 (3 * k)] (W.alloc (.cells #[.int .u8 (65 + k), .int .u8 1, .int .u8 k] 5)) fun e w' => ∃ B d, e = .returned (.slice B (3 * k).toNat d) ∧ Aside0 (OwB w' W.heap.size (.slice B (3 * k).toNat d) (fillL [65 + k, 1, k] (3 * k).toNat)) ∧ Below W.heap.size W w') := ⟨fun W => by
    refine (fillN_calls (some ⟨W.heap.size, 0, none⟩) 3 3 [65 + k, 1, k] (3 * k) (W.alloc (.cells #[.int .u8 (65 + k), .int .u8 1, .int .u8 k] 5)) (rd_lit W [65 + k, 1, k] _ _ 3 rfl rfl (by simp)) HB (by omega) (by omega)).mono ?_
    rintro e w' ⟨B, d, rfl, hO, _, _, hB⟩
    exact ⟨B, d, rfl, ⟨Kd.R_lower hO.out (by simp)⟩, ((Below.refl _ W).alloc (Nat.le_refl _) _).trans (hB.mono (by simp))⟩⟩
  clear hk HE HB
  go_enter Tryd.func14, Tryd.ntmps14
  go_wp2_with (first
    | (go_at_call 12; refine HAR.out.mono ?_; rintro e w1 ⟨rfl, rfl⟩)
    | (go_at_call 38; refine (HFI.out _).mono ?_; rintro e w2 ⟨B, d, rfl, hO, hB⟩)
    | fail)
  go_ret
  exact ⟨B, d, rfl, hO, hB⟩
theorem nameof_calls (n : Int) (w : World) (h0 : -9223372036854775808 ≤ n) (h1 : n ≤ 9223372036854775807) :
    Calls Tryd.prog 21 #[.int .i64 n] w fun e w' => e = .returned (.agg (Nm (nmOf n)).toArray) ∧ Below w.heap.size w w' := by
  obtain ⟨w1, hw1⟩ : ∃ w1, w1 = w.alloc (.cells (Nm Z32).toArray 40) := ⟨_, rfl⟩
  have F1 : Aside0 (w1.heap[w.heap.size]? = some (.cells (Nm Z32).toArray 40 (0, 0))) := ⟨by rw [hw1]; exact blk_new w _⟩
  have L1 : Aside0 (Below w.heap.size w w1) := ⟨by rw [hw1]; exact below_alloc (Below.refl _ w) _⟩
  have hlen := chunkL_len n
  have hD := nmOf_len n
  have HS : Aside0 (∀ W B d, OwB W w1.heap.size (.slice B (chunkL n).length d) (chunkL n) → Calls Tryd.prog 18 #[.slice B (chunkL n).length d] W fun e w' => e = .returned (.agg (Nm (nmOf n)).toArray) ∧ Below W.heap.size W w') := ⟨fun W B d hO => rsum_calls B _ d (chunkL n) W (OwB.parts hO).2 (chunkL_bytes n) (by omega)⟩
  have HC := Aside0.mk (chunk_calls n w1 h0 h1)
  generalize chunkL n = cl at *
  generalize nmOf n = nm at *
  go_enter Tryd.func21, Tryd.ntmps21
  go_upto_region 1 with fail
  refine at_w1 (w := w1) hw1 ?_
  clear hw1
  go_wp2_with (first
    | (go_at_call 14; refine HC.out.mono ?_; rintro e w2 ⟨B, d, rfl, hO, hB⟩; have HB2 := Aside0.mk hB; clear hB)
    | (go_at_call 18; refine (HS.out w2 B d hO.out).mono ?_; rintro e w3 ⟨rfl, hB⟩; have HB3 := Aside0.mk (Later.trans HB2.out hB); have F3 := Aside0.mk (Later.heap HB3.out F1.out); clear hB)
    | ((with_reducible refine at_st 40 (.tmp 2) (.tmp 5) ?_); refine store_blk rfl 40 (.tmp 2) (.tmp 5) rfl rfl rfl F3.out (by rw [Nm_len, hD]; rfl) (size_d _ hD) (Nm_one _) ?_; rintro w4 HS4)
    | fail)
  (try simp only [Exit.inBlock, Exit.then])
  refine bodyPost_ret (v := .agg (Nm nm).toArray) (results_cell_row rfl _ _ w.heap.size _ _ _ _ rfl HS4.at_ Tryd.underlying40 rfl ?_) rfl ⟨rfl, (L1.out.trans (HB3.out.mono L1.out.size)).trans (HS4.below (Nat.le_refl _))⟩
  rw [size_d _ hD, List.size_toArray]
/-- Numbers that are read. -/
abbrev RdZ (w : World) (A : Option Addr) (n : Nat) (xs : List Int) : Prop := (Kd.int .i64).C w A n xs
def I64 (xs : List Int) : Prop := ∀ x ∈ xs, -9223372036854775808 ≤ x ∧ x ≤ 9223372036854775807
theorem namesL_take {l : List Int} {k : Nat} (h : k < l.length) (h8 : k < 8) : namesL (l.take (k + 1)) = namesL (l.take k) ++ [nmOf (rd l k)] := by
  unfold namesL
  rw [List.take_take, List.take_take, Nat.min_eq_right (by omega), Nat.min_eq_right (by omega), List.take_add_one, List.getElem?_eq_getElem h, List.map_append]
  have : rd l (k : Int) = l[k] := by simp [rd, List.getD_eq_getElem?_getD, List.getElem?_eq_getElem h]
  rw [this]; rfl
theorem namesL_min {l : List Int} {k : Nat} (h : ¬ (k < l.length ∧ k < 8)) (hk : k ≤ l.length) : namesL (l.take k) = namesL l := by
  unfold namesL
  rw [List.take_take]
  by_cases h8 : k < 8
  · obtain rfl : k = l.length := by omega
    rw [Nat.min_eq_right (by omega), List.take_length, List.take_of_length_le (by omega)]
  · rw [Nat.min_eq_left (by omega)]
theorem rd_i64 {l : List Int} (h : I64 l) {k : Nat} (hk : k < l.length) : -9223372036854775808 ≤ rd l k ∧ rd l k ≤ 9223372036854775807 := by
  have : rd l (k : Int) = l[k] := by simp [rd, List.getD_eq_getElem?_getD, List.getElem?_eq_getElem hk]
  rw [this]
  exact h _ (List.getElem_mem _)
def NsPost (L : List (List Int)) (w : World) (e : Ending) (w' : World) : Prop := ∃ B d, e = .returned (.slice B L.length d) ∧ RdD w' B L.length L ∧ Below w.heap.size w w'
set_option maxRecDepth 20000 in
theorem names_calls (A : Option Addr) (n cp : Nat) (l : List Int) (w : World) (h : RdZ w A n l) (hl : I64 l) :
    Calls Tryd.prog 32 #[.slice A n cp] w fun e w' => NsPost (namesL l) w e w' := by
  have HR := Aside0.mk h
  have HL := Aside0.mk hl
  obtain rfl : l.length = n := h.1
  have hmx := h.2.1
  clear h hl
  go_enter Tryd.func32, Tryd.ntmps32
  go_wp2
  go_loopw [3, 4] (fun u i wr => ∃ k : Nat, k ≤ l.length ∧ i = .int .i64 k ∧ OwD wr w.heap.size u (namesL (l.take k)) ∧ Below w.heap.size w wr) (fun _ i _ => l.length - (intOf i).toNat)
  case atStart => exact ⟨0, Nat.zero_le _, rfl, Kd.R_nil _ _ _ _ _, Below.refl _ _⟩
  case round =>
    obtain ⟨k, hk, rfl, hO, hB⟩ := hrel
    have HB := Aside0.mk hB
    have HO := Aside0.mk hO
    clear hB hO
    by_cases hlt : k < l.length ∧ k < 8
    · obtain ⟨hlt, h8⟩ := hlt
      have hltI : (k : Int) < (l.length : Int) := by omega
      have h8I : (k : Int) < 8 := by omega
      obtain ⟨ad, rfl, hc⟩ := Kd.at_int (Kd.C_below HR.out HB.out) (k : Int) (by omega) (by omega)
      rw [Int.toNat_natCast] at hc
      have HT := Aside0.mk (namesL_take hlt h8)
      have hx := rd_i64 HL.out hlt
      have HN : Aside0 (∀ W, Calls Tryd.prog 21 #[.int .i64 (rd l k)] W fun e w' => e = .returned (.agg (Nm (nmOf (rd l k))).toArray) ∧ Below W.heap.size W w') := ⟨fun W => nameof_calls _ W hx.1 hx.2⟩
      have H32 := Aside0.mk (nmOf_len (rd l k))
      have hll := namesL_len (l.take k)
      generalize nmOf (rd l k) = X at *
      generalize rd l k = x at *
      generalize namesL (l.take k) = R at *
      obtain ⟨VA, vc, rfl, -, -⟩ := Kd.R_reads HO.out
      clear hx
      go_wp2_with (first
        | (go_at_call 21; refine (HN.out wr).mono ?_; rintro e w2 ⟨rfl, hB2⟩; have HO2 : Aside0 (OwD w2 w.heap.size (.slice VA R.length vc) R) := ⟨Kd.R_below HO.out hB2⟩; have HB2 : Aside0 (Below w.heap.size w w2) := ⟨below_tr HB.out hB2 HB.out.size⟩; clear hB2)
        | ((with_reducible refine at_bs 28 ?_); refine rows_arm rfl _ _ rfl Tryd.underlying28 (info_parts infoDg).choose_spec.1 (info_parts infoDg).choose_spec.2.1 (info_parts infoDg).choose_spec.2.2.1 [Nm X] (by intro v hv; rw [List.mem_singleton.1 hv]; exact Nm_len32 H32.out) (show 1 * 32 ≤ 2 ^ 24 by decide) (show 1 * 32 ≠ 0 by decide) rfl rfl ?_; rintro w3 g3 N3; have HO3 : Aside0 (OwD w3 w.heap.size (.slice VA R.length vc) R) := ⟨Kd.R_below HO2.out N3.below⟩; have HR3 : Aside0 (RdD w3 (some ⟨g3, 0, none⟩) 1 [X]) := ⟨rd_one (by have := N3.at_; simpa using this) H32.out⟩; have HB3 : Aside0 (Below w.heap.size w w3) := ⟨HB2.out.trans (N3.below.mono HB2.out.size)⟩; clear N3)
        | (at_builtin; (with_reducible refine at_w w3 ?_); refine appD (w0 := w) w.heap.size rfl (.tmp 15) (.tmp 21) rfl (.slice VA R.length vc) R [X] (some ⟨g3, 0, none⟩) 1 1 rfl rfl HO3.out HR3.out HB3.out HB3.out.size (by omega) ?_; intro v4 w4 hO4 hB4 _ _; have HO4 := Aside0.mk hO4; have HB4 := Aside0.mk hB4; clear hO4 hB4)
        | fail)
      go_roundw
      case rel => exact ⟨k + 1, by omega, by go_num, by rw [HT.out]; exact HO4.out, HB4.out⟩
      case measure => simp [intOf]; omega
    · have HM := Aside0.mk (namesL_min hlt hk)
      rw [HM.out] at HO
      obtain ⟨VA, vc, rfl, -, hrd⟩ := Kd.R_reads HO.out
      have HRD := Aside0.mk hrd
      clear hrd
      by_cases hlt2 : k < l.length
      · have hltI : (k : Int) < (l.length : Int) := by omega
        have h8I : ¬ (k : Int) < 8 := by omega
        clear hlt
        go_wp2
        go_ret
        exact ⟨_, _, rfl, HRD.out, HB.out⟩
      · have hltI : ¬ (k : Int) < (l.length : Int) := by omega
        clear hlt
        go_wp2
        go_ret
        exact ⟨_, _, rfl, HRD.out, HB.out⟩
end Go.Proofs.YtnkkjmbpopodlaaDoor
namespace Go.Proofs.YtnkkjmbpopodlaaDoor
open Go.RowKit Go.Proofs.YtnkkjmbpopodlaaDoorW.PrintWords Go.Proofs.YtnkkjmbpopodlaaDoorW.PrintMore
set_option linter.unusedVariables false
set_option linter.unusedSimpArgs false
/-- What is in memory of the law's client: the client's place, the document's, the tick, all Asks. -/
def Wc (g : Nat) (c : Cl) (v : Value) (t : Int) (as_ : Value) : List Value := .pointer (some ⟨g, 0, none⟩) :: (Rv c v ++ [.int .i64 t, as_])
structure WSt (W : World) (B gw g tb : Nat) (c : Cl) (v : Value) (RB : Option Addr) (rd : Nat) (t : Int) (as_ : Value) (asks : List (List Int)) : Prop where
  blk : W.heap[gw]? = some (.cells (Wc g c (.slice RB c.L.length rd) t as_).toArray 35 (0, 0))
  pc : PCl W B g tb c v
  rv : RdV W RB c.L.length c.L
  rc : c.L.length ≤ rd
  as_ : OwL W B as_ asks
  hg : B ≤ gw
theorem PCl.lower {w : World} {B B' g tb : Nat} {c : Cl} {v : Value} (h : PCl w B g tb c v) (hB : B' ≤ B) : PCl w B' g tb c v :=
  ⟨h.blk, h.tim, Kd.R_lower h.own hB, Nat.le_trans hB h.hg, Nat.le_trans hB h.ht⟩
theorem built_lw (g : Nat) (c : Cl) (v : Value) : Tryd.prog.built 35 [(0, .pointer (some ⟨g, 0, none⟩)), (1, .agg (Rv c v).toArray)] = some (Wc g c v 0 (.slice none 0 0)).toArray := by kernel_rfl
/-- The client of digests. -/
def clOf (l : List Int) (window timeout tries : Int) : Cl := ⟨newL [] (namesL l), window, timeout, tries, 0, 0⟩
def BgPost (c : Cl) (w : World) (e : Ending) (w' : World) : Prop := ∃ gw g tb v RB rd, e = .returned (.pointer (some ⟨gw, 0, none⟩)) ∧ WSt w' w.heap.size gw g tb c v RB rd 0 (.slice none 0 0) [] ∧ Below w.heap.size w w'
set_option maxRecDepth 20000 in
set_option maxHeartbeats 1600000 in
theorem begin_calls (A : Option Addr) (n cp : Nat) (l : List Int) (window timeout tries : Int) (w : World) (h : RdZ w A n l) (hl : I64 l) (hr : inR window timeout tries) :
    Calls Tryd.prog 8 #[.slice A n cp, .int .i64 window, .int .i64 timeout, .int .i64 tries] w fun e w' => BgPost (clOf l window timeout tries) w e w' := by
  have HR := Aside0.mk h
  have HN : Aside0 (∀ W, Below w.heap.size w W → Calls Tryd.prog 32 #[.slice A n cp] W fun e w' => NsPost (namesL l) W e w') := ⟨fun W hW => names_calls A n cp l W (Kd.C_below HR.out hW) hl⟩
  have h8 := namesL_len l
  have HW : Aside0 (∀ W B d, RdD W B (namesL l).length (namesL l) → Calls Tryd.prog 31 #[.slice B (namesL l).length d, .int .i64 window, .int .i64 timeout, .int .i64 tries] W fun e w' => ∃ g tb v, e = .returned (.tuple #[.pointer (some ⟨g, 0, none⟩), .int .i64 0]) ∧ PCl w' W.heap.size g tb (clOf l window timeout tries) v ∧ Below W.heap.size W w') := ⟨fun W B d hW => new_ok B _ d (namesL l) window timeout tries W hW (by omega) hr⟩
  have HV : Aside0 (∀ W B d, RdD W B (namesL l).length (namesL l) → Calls Tryd.prog 33 #[.slice B (namesL l).length d, .int .i64 window, .int .i64 timeout, .int .i64 tries] W fun e w' => ∃ B d, e = .returned (.agg (Rv (clOf l window timeout tries) (.slice B (clOf l window timeout tries).L.length d)).toArray) ∧ OwV w' W.heap.size (.slice B (clOf l window timeout tries).L.length d) (clOf l window timeout tries).L ∧ Below W.heap.size W w') := ⟨fun W B d hW => rnew_calls B _ d (namesL l) window timeout tries W hW (by omega)⟩
  generalize clOf l window timeout tries = c at *
  generalize namesL l = ns at *
  clear h hl hr
  go_enter Tryd.func8, Tryd.ntmps8
  go_upto_region 4 with (first
    | (go_at_call 32; (with_reducible refine at_cw w ?_); refine (HN.out w (Below.refl _ _)).mono ?_; rintro e w1 ⟨B1, d1, rfl, hR1, hB1⟩; have HR1 := Aside0.mk hR1; have HB1 := Aside0.mk hB1; clear hR1 hB1)
    | (go_at_call 31; (with_reducible refine at_cw w1 ?_); refine (HW.out w1 B1 d1 HR1.out).mono ?_; rintro e w2 ⟨g, tb, v, rfl, hP2, hB2⟩; have HP2 := Aside0.mk hP2; have HB2 : Aside0 (Below w.heap.size w w2) := ⟨below_tr' HB1.out hB2⟩; clear hP2 hB2)
    | fail)
  go_wp2_with (first
    | (go_at_call 32; (with_reducible refine at_cw w2 ?_); refine (HN.out w2 HB2.out).mono ?_; rintro e w3 ⟨B3, d3, rfl, hR3, hB3⟩; have HR3 := Aside0.mk hR3; have HB3 := Aside0.mk hB3; clear hR3 hB3)
    | (go_at_call 33; (with_reducible refine at_cw w3 ?_); refine (HV.out w3 B3 d3 HR3.out).mono ?_; rintro e w4 ⟨B4, d4, rfl, hO4, hB4⟩; have HO4 := Aside0.mk hO4; have HB4 : Aside0 (Below w2.heap.size w2 w4) := ⟨below_tr' HB3.out hB4⟩; clear hO4 hB4)
    | ((with_reducible refine at_bd 35 ?_); refine build_arm rfl 35 _ rfl (built_lw g c (.slice B4 c.L.length d4)) ?_; simp only [Act.put, List.setIfInBounds_toArray, List.set_cons_zero, List.set_cons_succ])
    | fail)
  go_ret
  have hB5 := below_alloc (Below.refl w4.heap.size w4) (.cells (Wc g c (.slice B4 c.L.length d4) 0 (.slice none 0 0)).toArray 35)
  have hBW : Below w.heap.size w w4 := below_tr' HB2.out HB4.out
  obtain ⟨A', d', e, hle, hrd⟩ := Kd.R_reads HO4.out
  injection e with e1 _ e3
  subst e1; subst e3
  exact ⟨_, g, tb, v, _, _, rfl, ⟨blk_new w4 _, ((HP2.out.below HB4.out).below hB5).lower HB1.out.size, Kd.C_below hrd hB5, hle, Kd.R_nil _ _ _ _ _, hBW.size⟩, below_tr' hBW hB5⟩
/-- The client's blocks. -/
def SetW (g : Nat) (v : Value) (k : Nat) : Prop := k = g ∨ some k = v.ownBlock
theorem PCl.setv {w : World} {B g tb : Nat} {c : Cl} {v : Value} (h : PCl w B g tb c v) (hp : 0 < c.L.length) : SetW g v (gOf v) := by
  obtain ⟨cp, hv, _⟩ := own_form h.own hp
  refine .inr ?_
  obtain ⟨gr, hgr⟩ : ∃ gr, gOf v = gr := ⟨_, rfl⟩
  rw [hgr] at hv ⊢
  rw [hv]; simp [Value.ownBlock]
theorem PCl.setB {w w1 : World} {B g tb : Nat} {c : Cl} {v : Value} (h : PCl w B g tb c v) (hF : Fr w w1 (SetW g v)) (hB : B ≤ w.heap.size) : Below B w w1 := by
  refine hF.below (fun k hk => ?_) hB
  rcases hk with rfl | hk
  · exact h.hg
  · exact Kd.R_base h.own k hk.symm
theorem PCl.out {w : World} {B g tb : Nat} {c : Cl} {v : Value} (h : PCl w B g tb c v) {k T : Nat} {cs : Array Value} (hk : w.heap[k]? = some (.cells cs T (0, 0))) (h1 : T ≠ 85) (h2 : T ≠ 87) : ¬ SetW g v k := by
  rintro (rfl | e)
  · rw [h.blk] at hk
    injection hk with hk
    injection hk with _ hk
    exact h1 hk.symm
  · exact Kd.R_ne h.own hk (fun e => h2 e.symm) e
/-- A client behind a law's client. -/
structure LS (W : World) (B gw g tb : Nat) (c : Cl) (v : Value) : Prop where
  blk : ∃ cs, W.heap[gw]? = some (.cells cs 35 (0, 0)) ∧ cs[0]? = some (.pointer (some ⟨g, 0, none⟩))
  pc : PCl W B g tb c v
theorem LS.cell {W : World} {B gw g tb : Nat} {c : Cl} {v : Value} (h : LS W B gw g tb c v) : W.cell? ⟨gw, 0, none⟩ = some (.pointer (some ⟨g, 0, none⟩)) := by
  obtain ⟨cs, h1, h2⟩ := h.blk
  rw [blk_cell h1]; exact h2
theorem LS.fr {W W1 : World} {B gw g tb : Nat} {c c' : Cl} {v : Value} (h : LS W B gw g tb c v) (hF : Fr W W1 (SetW g v)) (hP : PCl W1 B g tb c' v) : LS W1 B gw g tb c' v := by
  obtain ⟨cs, h1, h2⟩ := h.blk
  exact ⟨⟨cs, (hF.block gw (blk_lt h1) (h.pc.out h1 (by decide) (by decide))).trans h1, h2⟩, hP⟩
theorem LS.below {W W1 : World} {B gw g tb : Nat} {c : Cl} {v : Value} (h : LS W B gw g tb c v) (k : Below W.heap.size W W1) : LS W1 B gw g tb c v := by
  obtain ⟨cs, h1, h2⟩ := h.blk
  exact ⟨⟨cs, Later.heap k h1, h2⟩, h.pc.below k⟩
theorem ls_step {W : World} {B gw g tb : Nat} {c : Cl} {v : Value} (h : LS W B gw g tb c v) (hB : B ≤ W.heap.size) (hok : c.ok) (hs : c.seq + 2 * c.L.length < 4294967295) (t : Int) (ht0 : 0 ≤ t) (ht1 : t ≤ 1099511627776) {k : Nat} {c' : Cl} (hc : (stepC c t).1 = c') (hk : (stepC c t).2.length = k) :
    Calls Tryd.prog 20 #[.pointer (some ⟨g, 0, none⟩), .int .i64 t] W fun e w' => ∃ A cp, e = .returned (.slice A k cp) ∧ LS w' B gw g tb c' v ∧ Below B W w' := by
  refine (cstep_calls (SetW g v) B g tb c v t W h.pc (.inl rfl) h.pc.setv hok hs ht0 ht1).mono ?_
  rintro e w' ⟨u, rfl, hO, hP, hF⟩
  obtain ⟨A, cp, rfl, _⟩ := Kd.R_reads hO
  rw [hc] at hP
  rw [hk]
  exact ⟨A, cp, rfl, h.fr hF hP, h.pc.setB hF hB⟩
/-- The document's example, by definition. -/
def lv (N : List Int) (st seq due asks : Int) (e : Int) : Cl := ⟨[⟨N, st, seq, due, asks⟩], 1, 2, 2, seq, e⟩
theorem lv_ok (N : List Int) (h : N.length = 32) (hb : Bytes N) (st seq due asks e : Int) (h0 : 0 ≤ seq) (h1 : 0 ≤ asks) (h2 : asks ≤ seq) (h3 : st = 0 ∧ asks = 0 ∨ st = 1 ∧ 0 < asks ∨ st = 2) : (lv N st seq due asks e).ok := by
  refine ⟨fun x hx => ?_, by show (1 : Int) ≤ 1; omega, by show (1 : Int) ≤ 8; omega, by show (1 : Int) ≤ 2; omega, by show (2 : Int) ≤ 1000; omega, by show (1 : Int) ≤ 2; omega, by show (2 : Int) ≤ 16; omega, h0, by show 1 ≤ 1024; omega⟩
  rw [List.mem_singleton.1 hx]
  exact ⟨h, hb, h0, Int.le_refl _, h1, h2, h3⟩
theorem lv0 (n : Int) : clOf [n] 1 2 2 = lv (nmOf n) 0 0 0 0 0 := rfl
theorem lv1 (N : List Int) : stepC (lv N 0 0 0 0 0) 0 = (lv N 1 1 2 1 0, [askB 1 N]) := rfl
theorem lv2 (N : List Int) : stepC (lv N 1 1 2 1 0) 1 = (lv N 1 1 2 1 0, []) := rfl
theorem lv3 (N : List Int) : stepC (lv N 1 1 2 1 0) 2 = (lv N 1 2 4 2 0, [askB 2 N]) := rfl
theorem lv4 (N : List Int) : stepC (lv N 1 2 4 2 0) 4 = (lv N 1 2 4 2 10, []) := rfl
set_option maxRecDepth 20000 in
set_option maxHeartbeats 1600000 in
theorem clives_calls (w : World) : Calls Tryd.prog 19 #[] w fun e w' => e = .returned (.bool true) ∧ Below w.heap.size w w' := by
  obtain ⟨w1, hw1⟩ : ∃ w1, w1 = w.alloc (.cells #[.int .i64 1] 3) := ⟨_, rfl⟩
  have HB1 : Aside0 (Below w.heap.size w w1) := ⟨by rw [hw1]; exact below_alloc (Below.refl _ w) _⟩
  have hr : RdZ w1 (some ⟨w.heap.size, 0, none⟩) 1 [1] := by
    refine Kd.C_of_reads (d := (0 : Int)) ⟨rfl, by omega, fun _ => ⟨_, rfl, fun j hj => ?_⟩⟩
    obtain rfl : j = 0 := by omega
    rw [add_plain, hw1, World.cell?_alloc_mark]
    rfl
  have HBG : Aside0 (Calls Tryd.prog 8 #[.slice (some ⟨w.heap.size, 0, none⟩) 1 1, .int .i64 1, .int .i64 2, .int .i64 2] w1 fun e w' => BgPost (clOf [1] 1 2 2) w1 e w') := ⟨begin_calls _ 1 1 [1] 1 2 2 w1 hr (fun x hx => by rw [List.mem_singleton.1 hx]; omega) (by unfold inR; omega)⟩
  have h32 := nmOf_len 1
  have hby := nmOf_bytes 1
  rw [lv0] at HBG
  generalize nmOf 1 = N at *
  have K0 := Aside0.mk (lv_ok N h32 hby 0 0 0 0 0 (by omega) (by omega) (by omega) (by omega))
  have K1 := Aside0.mk (lv_ok N h32 hby 1 1 2 1 0 (by omega) (by omega) (by omega) (by omega))
  have K2 := Aside0.mk (lv_ok N h32 hby 1 2 4 2 0 (by omega) (by omega) (by omega) (by omega))
  have S0 : Aside0 (∀ W B gw g tb v, LS W B gw g tb (lv N 0 0 0 0 0) v → B ≤ W.heap.size → Calls Tryd.prog 20 #[.pointer (some ⟨g, 0, none⟩), .int .i64 0] W fun e w' => ∃ A cp, e = .returned (.slice A 1 cp) ∧ LS w' B gw g tb (lv N 1 1 2 1 0) v ∧ Below B W w') := ⟨fun W B gw g tb v h hB => ls_step h hB K0.out (by simp [lv]) 0 (by omega) (by omega) (by rw [lv1]) (by rw [lv1]; rfl)⟩
  have S1 : Aside0 (∀ W B gw g tb v, LS W B gw g tb (lv N 1 1 2 1 0) v → B ≤ W.heap.size → Calls Tryd.prog 20 #[.pointer (some ⟨g, 0, none⟩), .int .i64 1] W fun e w' => ∃ A cp, e = .returned (.slice A 0 cp) ∧ LS w' B gw g tb (lv N 1 1 2 1 0) v ∧ Below B W w') := ⟨fun W B gw g tb v h hB => ls_step h hB K1.out (by simp [lv]) 1 (by omega) (by omega) (by rw [lv2]) (by rw [lv2]; rfl)⟩
  have S2 : Aside0 (∀ W B gw g tb v, LS W B gw g tb (lv N 1 1 2 1 0) v → B ≤ W.heap.size → Calls Tryd.prog 20 #[.pointer (some ⟨g, 0, none⟩), .int .i64 2] W fun e w' => ∃ A cp, e = .returned (.slice A 1 cp) ∧ LS w' B gw g tb (lv N 1 2 4 2 0) v ∧ Below B W w') := ⟨fun W B gw g tb v h hB => ls_step h hB K1.out (by simp [lv]) 2 (by omega) (by omega) (by rw [lv3]) (by rw [lv3]; rfl)⟩
  have S4 : Aside0 (∀ W B gw g tb v, LS W B gw g tb (lv N 1 2 4 2 0) v → B ≤ W.heap.size → Calls Tryd.prog 20 #[.pointer (some ⟨g, 0, none⟩), .int .i64 4] W fun e w' => ∃ A cp, e = .returned (.slice A 0 cp) ∧ LS w' B gw g tb (lv N 1 2 4 2 10) v ∧ Below B W w') := ⟨fun W B gw g tb v h hB => ls_step h hB K2.out (by simp [lv]) 4 (by omega) (by omega) (by rw [lv4]) (by rw [lv4]; rfl)⟩
  have HER : Aside0 (∀ W B gw g tb v, LS W B gw g tb (lv N 1 2 4 2 10) v → Calls Tryd.prog 22 #[.pointer (some ⟨g, 0, none⟩)] W fun e w' => e = .returned (.int .i64 10) ∧ W = w') := ⟨fun W B gw g tb v h => errno_calls B g tb _ v W h.pc⟩
  clear hr h32 hby K0 K1 K2
  go_enter Tryd.func19, Tryd.ntmps19
  go_wp2_with (first
    | (go_at_call 8; rw [← hw1]; refine HBG.out.mono ?_; rintro e w2 ⟨gw, g, tb, v, RB, rd, rfl, hS, hB⟩; have HL2 : Aside0 (LS w2 w1.heap.size gw g tb (lv N 0 0 0 0 0) v) := ⟨⟨⟨_, hS.blk, rfl⟩, hS.pc⟩⟩; have HB2 := Aside0.mk hB; have c2 := HL2.out.cell; clear hS hB)
    | (go_at_call 20; (with_reducible refine at_cw w2 ?_); refine (S0.out w2 _ gw g tb v HL2.out HB2.out.size).mono ?_; rintro e w3 ⟨A3, p3, rfl, hL, hB⟩; have HL3 := Aside0.mk hL; have HB3 : Aside0 (Below w1.heap.size w1 w3) := ⟨HB2.out.trans hB⟩; have c3 := HL3.out.cell; clear hL hB c2)
    | (go_at_call 20; (with_reducible refine at_cw w3 ?_); refine (S1.out w3 _ gw g tb v HL3.out HB3.out.size).mono ?_; rintro e w4 ⟨A4, p4, rfl, hL, hB⟩; have HL4 := Aside0.mk hL; have HB4 : Aside0 (Below w1.heap.size w1 w4) := ⟨HB3.out.trans hB⟩; have c4 := HL4.out.cell; clear hL hB c3)
    | (go_at_call 20; (with_reducible refine at_cw w4 ?_); refine (S2.out w4 _ gw g tb v HL4.out HB4.out.size).mono ?_; rintro e w5 ⟨A5, p5, rfl, hL, hB⟩; have HL5 := Aside0.mk hL; have HB5 : Aside0 (Below w1.heap.size w1 w5) := ⟨HB4.out.trans hB⟩; have c5 := HL5.out.cell; clear hL hB c4)
    | (go_at_call 20; (with_reducible refine at_cw w5 ?_); refine (S4.out w5 _ gw g tb v HL5.out HB5.out.size).mono ?_; rintro e w6 ⟨A6, p6, rfl, hL, hB⟩; have HL6 := Aside0.mk hL; have HB6 : Aside0 (Below w1.heap.size w1 w6) := ⟨HB5.out.trans hB⟩; have c6 := HL6.out.cell; clear hL hB c5)
    | (go_at_call 22; refine (HER.out w6 _ gw g tb v HL6.out).mono ?_; rintro e w7 ⟨rfl, rfl⟩)
    | fail)
  go_ret
  exact ⟨rfl, HB1.out.trans (HB6.out.mono HB1.out.size)⟩
end Go.Proofs.YtnkkjmbpopodlaaDoor
