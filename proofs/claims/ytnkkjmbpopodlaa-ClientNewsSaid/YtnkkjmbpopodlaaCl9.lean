/- lighterageref13's Chunk, NameOf; lighteragelaw21's names, begin. Conditions: their own. -/
import Derived.Test.YtnkkjmbpopodlaaCl8
import Derived.Test.YtnkkjmbpopodlaaClV2
import Derived.Test.YtnkkjmbpopodlaaShaRef4
import Derived.Test.YtnkkjmbpopodlaaG2
namespace Go.Proofs.Ytnkkjmbpopodlaa
open Go.RowKit Go.Proofs.YtnkkjmbpopodlaaW.PrintWords Go.Proofs.YtnkkjmbpopodlaaW.PrintMore
set_option linter.unusedVariables false
set_option linter.unusedSimpArgs false
def chunkL (n : Int) : List Int := fillL [65 + around n 6, 1, around n 6] (3 * around n 6).toNat
def nmOf (n : Int) : List Int := shaL (chunkL n)
def namesL (l : List Int) : List (List Int) := (l.take 8).map nmOf
theorem chunk_lit (n : Int) : Bytes [65 + around n 6, 1, around n 6] := by
  have := around_range n 6 (by omega)
  intro x hx
  simp only [List.mem_cons, List.not_mem_nil, or_false] at hx
  omega
theorem chunkL_bytes (n : Int) : Bytes (chunkL n) := fillL_bytes (chunk_lit n) _
theorem chunkL_len (n : Int) : (chunkL n).length ≤ 15 := by
  have := around_range n 6 (by omega)
  unfold chunkL
  rw [fillL_len]
  omega
theorem nmOf_len (n : Int) : (nmOf n).length = 32 := shaL_len _
theorem nmOf_bytes (n : Int) : Bytes (nmOf n) := shaL_bytes _
theorem namesL_len (l : List Int) : (namesL l).length ≤ 8 := by simp [namesL]; omega
theorem namesL_all (l : List Int) : ∀ x ∈ namesL l, x.length = 32 ∧ Bytes x := by
  intro x hx
  obtain ⟨n, _, rfl⟩ := List.mem_map.1 hx
  exact ⟨nmOf_len n, nmOf_bytes n⟩
theorem chunk_calls (n : Int) (w : World) (h0 : -9223372036854775808 ≤ n) (h1 : n ≤ 9223372036854775807) :
    Calls Try.prog 26 #[.int .i64 n] w fun e w' => ∃ B d, e = .returned (.slice B (chunkL n).length d) ∧ Aside0 (OwB w' w.heap.size (.slice B (chunkL n).length d) (chunkL n)) ∧ Below w.heap.size w w' := by
  obtain ⟨k, hk⟩ : ∃ k, around n 6 = k := ⟨_, rfl⟩
  have hr := around_range n 6 (by omega)
  have HB := chunk_lit n
  have HE : Aside0 (chunkL n = fillL [65 + k, 1, k] (3 * k).toNat) := ⟨by unfold chunkL; rw [hk]⟩
  have HAR := Aside0.mk (around_calls n 6 w h0 h1 (by omega) (by omega))
  rw [hk] at hr HB HAR
  rw [HE.out, fillL_len]
  have e1 : IntKind.u8.wrap (65 + k) = 65 + k := by simp [IntKind.wrap, IntKind.signed, IntKind.bits]; omega
  have e2 : IntKind.u8.wrap k = k := by simp [IntKind.wrap, IntKind.signed, IntKind.bits]; omega
  have e3 : IntKind.i64.wrap (65 + k) = 65 + k := by rw [IntKind.wrap_i64]; omega
  have e4 : IntKind.i64.wrap (3 * k) = 3 * k := by rw [IntKind.wrap_i64]; omega
  have HFI : Aside0 (∀ W : World, Calls Try.prog 34 #[.slice (some ⟨W.heap.size, 0, none⟩) 3 3, .int .i64 (3 * k)] (W.alloc (.cells #[.int .u8 (65 + k), .int .u8 1, .int .u8 k] 5)) fun e w' => ∃ B d, e = .returned (.slice B (3 * k).toNat d) ∧ Aside0 (OwB w' W.heap.size (.slice B (3 * k).toNat d) (fillL [65 + k, 1, k] (3 * k).toNat)) ∧ Below W.heap.size W w') := ⟨fun W => by
    refine (fillN_calls (some ⟨W.heap.size, 0, none⟩) 3 3 [65 + k, 1, k] (3 * k) (W.alloc (.cells #[.int .u8 (65 + k), .int .u8 1, .int .u8 k] 5)) (rd_lit W [65 + k, 1, k] _ _ 3 rfl rfl (by simp)) HB (by omega) (by omega)).mono ?_
    rintro e w' ⟨B, d, rfl, hO, _, _, hB⟩
    exact ⟨B, d, rfl, ⟨Kd.R_lower hO.out (by simp)⟩, ((Below.refl _ W).alloc (Nat.le_refl _) _).trans (hB.mono (by simp))⟩⟩
  clear hk HE HB
  go_enter Try.func26, Try.ntmps26
  go_wp2_with (first
    | (go_at_call 4; refine HAR.out.mono ?_; rintro e w1 ⟨rfl, rfl⟩)
    | (go_at_call 34; refine (HFI.out _).mono ?_; rintro e w2 ⟨B, d, rfl, hO, hB⟩)
    | fail)
  go_ret
  exact ⟨B, d, rfl, hO, hB⟩
theorem nameof_calls (n : Int) (w : World) (h0 : -9223372036854775808 ≤ n) (h1 : n ≤ 9223372036854775807) :
    Calls Try.prog 17 #[.int .i64 n] w fun e w' => e = .returned (.agg (Nm (nmOf n)).toArray) ∧ Below w.heap.size w w' := by
  obtain ⟨w1, hw1⟩ : ∃ w1, w1 = w.alloc (.cells (Nm Z32).toArray 51) := ⟨_, rfl⟩
  have F1 : Aside0 (w1.heap[w.heap.size]? = some (.cells (Nm Z32).toArray 51 (0, 0))) := ⟨by rw [hw1]; exact blk_new w _⟩
  have L1 : Aside0 (Below w.heap.size w w1) := ⟨by rw [hw1]; exact below_alloc (Below.refl _ w) _⟩
  have hlen := chunkL_len n
  have hD := nmOf_len n
  have HS : Aside0 (∀ W B d, OwB W w1.heap.size (.slice B (chunkL n).length d) (chunkL n) → Calls Try.prog 25 #[.slice B (chunkL n).length d] W fun e w' => e = .returned (.agg (Nm (nmOf n)).toArray) ∧ Below W.heap.size W w') := ⟨fun W B d hO => rsum_calls B _ d (chunkL n) W (OwB.parts hO).2 (chunkL_bytes n) (by omega)⟩
  have HC := Aside0.mk (chunk_calls n w1 h0 h1)
  generalize chunkL n = cl at *
  generalize nmOf n = nm at *
  go_enter Try.func17, Try.ntmps17
  go_upto_region 1 with fail
  refine at_w1 (w := w1) hw1 ?_
  clear hw1
  go_wp2_with (first
    | (go_at_call 26; refine HC.out.mono ?_; rintro e w2 ⟨B, d, rfl, hO, hB⟩; have HB2 := Aside0.mk hB; clear hB)
    | (go_at_call 25; refine (HS.out w2 B d hO.out).mono ?_; rintro e w3 ⟨rfl, hB⟩; have HB3 := Aside0.mk (Later.trans HB2.out hB); have F3 := Aside0.mk (Later.heap HB3.out F1.out); clear hB)
    | ((with_reducible refine at_st 51 (.tmp 2) (.tmp 5) ?_); refine store_blk rfl 51 (.tmp 2) (.tmp 5) rfl rfl rfl F3.out (by rw [Nm_len, hD]; rfl) (size_d _ hD) (Nm_one _) ?_; rintro w4 HS4)
    | fail)
  (try simp only [Exit.inBlock, Exit.then])
  refine bodyPost_ret (v := .agg (Nm nm).toArray) (results_cell_row rfl _ _ w.heap.size _ _ _ _ rfl HS4.at_ Try.underlying51 rfl ?_) rfl ⟨rfl, (L1.out.trans (HB3.out.mono L1.out.size)).trans (HS4.below (Nat.le_refl _))⟩
  rw [size_d _ hD, List.size_toArray]
/-- Numbers that are read. -/
abbrev RdZ (w : World) (A : Option Addr) (n : Nat) (xs : List Int) : Prop := (Kd.int .i64).C w A n xs
def I64 (xs : List Int) : Prop := ∀ x ∈ xs, -9223372036854775808 ≤ x ∧ x ≤ 9223372036854775807
theorem namesL_take {l : List Int} {k : Nat} (h : k < l.length) (h8 : k < 8) : namesL (l.take (k + 1)) = namesL (l.take k) ++ [nmOf (rd l k)] := by
  unfold namesL
  rw [List.take_take, List.take_take, Nat.min_eq_right (by omega), Nat.min_eq_right (by omega), List.take_add_one, List.getElem?_eq_getElem h, List.map_append]
  have : rd l (k : Int) = l[k] := by simp [rd, List.getD_eq_getElem?_getD, List.getElem?_eq_getElem h]
  rw [this]; rfl
theorem namesL_min {l : List Int} {k : Nat} (h : ¬ (k < l.length ∧ k < 8)) (hk : k ≤ l.length) : namesL (l.take k) = namesL l := by
  unfold namesL
  rw [List.take_take]
  by_cases h8 : k < 8
  · obtain rfl : k = l.length := by omega
    rw [Nat.min_eq_right (by omega), List.take_length, List.take_of_length_le (by omega)]
  · rw [Nat.min_eq_left (by omega)]
theorem rd_i64 {l : List Int} (h : I64 l) {k : Nat} (hk : k < l.length) : -9223372036854775808 ≤ rd l k ∧ rd l k ≤ 9223372036854775807 := by
  have : rd l (k : Int) = l[k] := by simp [rd, List.getD_eq_getElem?_getD, List.getElem?_eq_getElem hk]
  rw [this]
  exact h _ (List.getElem_mem _)
def NsPost (L : List (List Int)) (w : World) (e : Ending) (w' : World) : Prop := ∃ B d, e = .returned (.slice B L.length d) ∧ RdD w' B L.length L ∧ Below w.heap.size w w'
set_option maxRecDepth 20000 in
theorem names_calls (A : Option Addr) (n cp : Nat) (l : List Int) (w : World) (h : RdZ w A n l) (hl : I64 l) :
    Calls Try.prog 6 #[.slice A n cp] w fun e w' => NsPost (namesL l) w e w' := by
  have HR := Aside0.mk h
  have HL := Aside0.mk hl
  obtain rfl : l.length = n := h.1
  have hmx := h.2.1
  clear h hl
  go_enter Try.func6, Try.ntmps6
  go_wp2
  go_loopw [3, 4] (fun u i wr => ∃ k : Nat, k ≤ l.length ∧ i = .int .i64 k ∧ OwD wr w.heap.size u (namesL (l.take k)) ∧ Below w.heap.size w wr) (fun _ i _ => l.length - (intOf i).toNat)
  case atStart => exact ⟨0, Nat.zero_le _, rfl, Kd.R_nil _ _ _ _ _, Below.refl _ _⟩
  case round =>
    obtain ⟨k, hk, rfl, hO, hB⟩ := hrel
    have HB := Aside0.mk hB
    have HO := Aside0.mk hO
    clear hB hO
    by_cases hlt : k < l.length ∧ k < 8
    · obtain ⟨hlt, h8⟩ := hlt
      have hltI : (k : Int) < (l.length : Int) := by omega
      have h8I : (k : Int) < 8 := by omega
      obtain ⟨ad, rfl, hc⟩ := Kd.at_int (Kd.C_below HR.out HB.out) (k : Int) (by omega) (by omega)
      rw [Int.toNat_natCast] at hc
      have HT := Aside0.mk (namesL_take hlt h8)
      have hx := rd_i64 HL.out hlt
      have HN : Aside0 (∀ W, Calls Try.prog 17 #[.int .i64 (rd l k)] W fun e w' => e = .returned (.agg (Nm (nmOf (rd l k))).toArray) ∧ Below W.heap.size W w') := ⟨fun W => nameof_calls _ W hx.1 hx.2⟩
      have H32 := Aside0.mk (nmOf_len (rd l k))
      have hll := namesL_len (l.take k)
      generalize nmOf (rd l k) = X at *
      generalize rd l k = x at *
      generalize namesL (l.take k) = R at *
      obtain ⟨VA, vc, rfl, -, -⟩ := Kd.R_reads HO.out
      clear hx
      go_wp2_with (first
        | (go_at_call 17; refine (HN.out wr).mono ?_; rintro e w2 ⟨rfl, hB2⟩; have HO2 : Aside0 (OwD w2 w.heap.size (.slice VA R.length vc) R) := ⟨Kd.R_below HO.out hB2⟩; have HB2 : Aside0 (Below w.heap.size w w2) := ⟨below_tr HB.out hB2 HB.out.size⟩; clear hB2)
        | ((with_reducible refine at_bs 28 ?_); refine rows_arm rfl _ _ rfl Try.underlying28 (info_parts infoDg).choose_spec.1 (info_parts infoDg).choose_spec.2.1 (info_parts infoDg).choose_spec.2.2.1 [Nm X] (by intro v hv; rw [List.mem_singleton.1 hv]; exact Nm_len32 H32.out) (show 1 * 32 ≤ 2 ^ 24 by decide) (show 1 * 32 ≠ 0 by decide) rfl rfl ?_; rintro w3 g3 N3; have HO3 : Aside0 (OwD w3 w.heap.size (.slice VA R.length vc) R) := ⟨Kd.R_below HO2.out N3.below⟩; have HR3 : Aside0 (RdD w3 (some ⟨g3, 0, none⟩) 1 [X]) := ⟨rd_one (by have := N3.at_; simpa using this) H32.out⟩; have HB3 : Aside0 (Below w.heap.size w w3) := ⟨HB2.out.trans (N3.below.mono HB2.out.size)⟩; clear N3)
        | (at_builtin; (with_reducible refine at_w w3 ?_); refine appD (w0 := w) w.heap.size rfl (.tmp 15) (.tmp 21) rfl (.slice VA R.length vc) R [X] (some ⟨g3, 0, none⟩) 1 1 rfl rfl HO3.out HR3.out HB3.out HB3.out.size (by omega) ?_; intro v4 w4 hO4 hB4 _ _; have HO4 := Aside0.mk hO4; have HB4 := Aside0.mk hB4; clear hO4 hB4)
        | fail)
      go_roundw
      case rel => exact ⟨k + 1, by omega, by go_num, by rw [HT.out]; exact HO4.out, HB4.out⟩
      case measure => simp [intOf]; omega
    · have HM := Aside0.mk (namesL_min hlt hk)
      rw [HM.out] at HO
      obtain ⟨VA, vc, rfl, -, hrd⟩ := Kd.R_reads HO.out
      have HRD := Aside0.mk hrd
      clear hrd
      by_cases hlt2 : k < l.length
      · have hltI : (k : Int) < (l.length : Int) := by omega
        have h8I : ¬ (k : Int) < 8 := by omega
        clear hlt
        go_wp2
        go_ret
        exact ⟨_, _, rfl, HRD.out, HB.out⟩
      · have hltI : ¬ (k : Int) < (l.length : Int) := by omega
        clear hlt
        go_wp2
        go_ret
        exact ⟨_, _, rfl, HRD.out, HB.out⟩
end Go.Proofs.Ytnkkjmbpopodlaa
