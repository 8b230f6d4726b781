/- Plain lemmas and contracts, several texts in one: CutP, Cut1, Cut2, Cut3. Conditions: their own. -/
import Derived.Test.YtdfahblgnbdndaaDoorG5
import Derived.Test.YtdfahblgnbdndaaDoorShelf
import Derived.Test.YtdfahblgnbdndaaDoorG6
import Derived.Test.YtdfahblgnbdndaaDoorG1
import Derived.Laws.MathBits
namespace Go.Proofs.YtdfahblgnbdndaaDoor
open Go.RowKit Go.Proofs.YtdfahblgnbdndaaDoorW.PrintWords Go.Proofs.YtdfahblgnbdndaaDoorW.PrintMore
set_option linter.unusedVariables false
set_option linter.unusedSimpArgs false
section
variable (mn mx p : Nat)
/-- Is there a cut behind these? -/
def cutAt (c : List Int) : Bool := decide (c.length = mx) || (decide (mn ≤ c.length) && decide (hov c % (p : Int) = 0))
/-- Bytes gone along: the chunks, what is left. -/
def wrL : List Int → List Int → List (List Int) × List Int
  | cur, [] => ([], cur)
  | cur, x :: b => if cutAt mn mx p (cur ++ [x]) then ((cur ++ [x]) :: (wrL [] b).1, (wrL [] b).2) else wrL (cur ++ [x]) b
def al (cur b : List Int) : List (List Int) := (wrL mn mx p cur b).1 ++ (if (wrL mn mx p cur b).2 = [] then [] else [(wrL mn mx p cur b).2])
/-- The first chunk's size, from k bytes on. -/
def fi (b : List Int) (k : Nat) : Nat := if k < b.length then (if k = mx ∨ hov (b.take k) % (p : Int) = 0 then k else fi b (k + 1)) else b.length
termination_by b.length - k
def chF : Nat → List Int → List (List Int)
  | 0, _ => []
  | f + 1, b => if b = [] then [] else b.take (fi mx p b mn) :: chF f (b.drop (fi mx p b mn))
def chunks (b : List Int) : List (List Int) := chF mn mx p b.length b
end
section
variable {mn mx p : Nat}
theorem fi_end {b : List Int} {k : Nat} (h : ¬ k < b.length) : fi mx p b k = b.length := by rw [fi, if_neg h]
theorem fi_here {b : List Int} {k : Nat} (h : k < b.length) (h2 : k = mx ∨ hov (b.take k) % (p : Int) = 0) : fi mx p b k = k := by rw [fi, if_pos h, if_pos h2]
theorem fi_next {b : List Int} {k : Nat} (h : k < b.length) (h2 : ¬ (k = mx ∨ hov (b.take k) % (p : Int) = 0)) : fi mx p b k = fi mx p b (k + 1) := by rw [fi, if_pos h, if_neg h2]
theorem fi_range (b : List Int) (m : Nat) : ∀ k, b.length - k ≤ m → fi mx p b k ≤ b.length ∧ (k ≤ b.length → k ≤ fi mx p b k) := by
  induction m with
  | zero =>
    intro k hk
    rw [fi_end (by omega)]
    exact ⟨Nat.le_refl _, fun h => h⟩
  | succ m ih =>
    intro k hk
    by_cases h : k < b.length
    · by_cases h2 : k = mx ∨ hov (b.take k) % (p : Int) = 0
      · rw [fi_here h h2]
        exact ⟨by omega, fun _ => Nat.le_refl _⟩
      · rw [fi_next h h2]
        have := ih (k + 1) (by omega)
        exact ⟨this.1, fun _ => by have := this.2 (by omega); omega⟩
    · rw [fi_end h]
      exact ⟨Nat.le_refl _, fun h => h⟩
theorem fi_pos {b : List Int} (hb : b ≠ []) (hm : 1 ≤ mn) : 1 ≤ fi mx p b mn ∧ fi mx p b mn ≤ b.length := by
  have h := fi_range (mx := mx) (p := p) b (b.length - mn) mn (Nat.le_refl _)
  refine ⟨?_, h.1⟩
  by_cases h1 : mn ≤ b.length
  · have := h.2 h1; omega
  · rw [fi_end (by omega)]
    exact List.length_pos_iff.2 hb
theorem cutAt_iff {c : List Int} : cutAt mn mx p c = true ↔ c.length = mx ∨ (mn ≤ c.length ∧ hov c % (p : Int) = 0) := by simp [cutAt]
theorem al_first (h1 : 1 ≤ mn) (h2 : mn ≤ mx) : ∀ (b cur : List Int), cur ++ b ≠ [] → al mn mx p cur b = (cur ++ b).take (fi mx p (cur ++ b) (max mn (cur.length + 1))) :: al mn mx p [] ((cur ++ b).drop (fi mx p (cur ++ b) (max mn (cur.length + 1))))
  | [], cur, hne => by
    rw [List.append_nil] at hne ⊢
    rw [fi_end (by omega), List.take_length, List.drop_length]
    have e1 : al mn mx p cur [] = [cur] := by unfold al wrL; simp [hne]
    have e2 : al mn mx p [] [] = [] := by unfold al wrL; simp
    rw [e1, e2]
  | x :: t, cur, hne => by
    have hB : cur ++ x :: t = (cur ++ [x]) ++ t := by simp
    rw [hB]
    have hl : (cur ++ [x]).length = cur.length + 1 := by simp
    by_cases hc : cutAt mn mx p (cur ++ [x]) = true
    · have e : al mn mx p cur (x :: t) = (cur ++ [x]) :: al mn mx p [] t := by
        unfold al
        rw [show wrL mn mx p cur (x :: t) = ((cur ++ [x]) :: (wrL mn mx p [] t).1, (wrL mn mx p [] t).2) by rw [wrL, if_pos hc]]
        rfl
      have h3 := cutAt_iff.1 hc
      have hmn : mn ≤ cur.length + 1 := by omega
      have hf : fi mx p ((cur ++ [x]) ++ t) (max mn (cur.length + 1)) = cur.length + 1 := by
        rw [Nat.max_eq_right hmn]
        by_cases hk : cur.length + 1 < ((cur ++ [x]) ++ t).length
        · refine fi_here hk ?_
          rw [← hl, List.take_left]
          rcases h3 with h3 | ⟨_, h3⟩
          · exact .inl h3
          · exact .inr h3
        · rw [fi_end hk]
          simp at hk ⊢
          omega
      rw [e, hf, ← hl, List.take_left, List.drop_left]
    · have e : al mn mx p cur (x :: t) = al mn mx p (cur ++ [x]) t := by
        unfold al
        rw [show wrL mn mx p cur (x :: t) = wrL mn mx p (cur ++ [x]) t by rw [wrL, if_neg hc]]
      rw [e, al_first h1 h2 t (cur ++ [x]) (by simp)]
      have h3 : ¬ (cur.length + 1 = mx ∨ (mn ≤ cur.length + 1 ∧ hov (cur ++ [x]) % (p : Int) = 0)) := by
        rw [← hl]
        exact fun h => hc (cutAt_iff.2 h)
      have hf : fi mx p ((cur ++ [x]) ++ t) (max mn (cur.length + 1)) = fi mx p ((cur ++ [x]) ++ t) (max mn ((cur ++ [x]).length + 1)) := by
        rw [hl]
        by_cases hmn : mn ≤ cur.length + 1
        · rw [Nat.max_eq_right hmn, Nat.max_eq_right (by omega)]
          by_cases hk : cur.length + 1 < ((cur ++ [x]) ++ t).length
          · refine fi_next hk ?_
            rw [← hl, List.take_left, hl]
            rintro (h | h)
            · exact h3 (.inl h)
            · exact h3 (.inr ⟨hmn, h⟩)
          · rw [fi_end hk, fi_end (by omega)]
        · rw [Nat.max_eq_left (by omega), Nat.max_eq_left (by omega)]
      rw [hf]
theorem al_chF (h1 : 1 ≤ mn) (h2 : mn ≤ mx) : ∀ (n : Nat) (b : List Int), b.length ≤ n → al mn mx p [] b = chF mn mx p n b
  | 0, b, h => by
    obtain rfl : b = [] := List.eq_nil_of_length_eq_zero (by omega)
    unfold al wrL chF
    simp
  | n + 1, b, h => by
    by_cases hb : b = []
    · subst hb
      unfold al wrL chF
      simp
    · have hr := fi_pos (mx := mx) (p := p) hb h1
      have := al_first (p := p) h1 h2 b [] (by simpa using hb)
      simp only [List.nil_append, List.length_nil, Nat.zero_add] at this
      rw [Nat.max_eq_left h1] at this
      rw [this, chF, if_neg hb, al_chF h1 h2 n _ (by rw [List.length_drop]; omega)]
/-- Both say the same. -/
theorem al_chunks (h1 : 1 ≤ mn) (h2 : mn ≤ mx) (b : List Int) : al mn mx p [] b = chunks mn mx p b := al_chF h1 h2 b.length b (Nat.le_refl _)
theorem wrL_append : ∀ (a b cur : List Int), wrL mn mx p cur (a ++ b) = ((wrL mn mx p cur a).1 ++ (wrL mn mx p (wrL mn mx p cur a).2 b).1, (wrL mn mx p (wrL mn mx p cur a).2 b).2)
  | [], b, cur => by simp [wrL]
  | x :: a, b, cur => by
    rw [List.cons_append]
    by_cases hc : cutAt mn mx p (cur ++ [x]) = true
    · rw [wrL, if_pos hc, wrL_append a b [], show wrL mn mx p cur (x :: a) = ((cur ++ [x]) :: (wrL mn mx p [] a).1, (wrL mn mx p [] a).2) by rw [wrL, if_pos hc]]
      rfl
    · rw [wrL, if_neg hc, wrL_append a b, show wrL mn mx p cur (x :: a) = wrL mn mx p (cur ++ [x]) a by rw [wrL, if_neg hc]]
/-- A chunk that was cut, gone along alone. -/
theorem wrL_whole : ∀ (b cur : List Int) (c : List Int) (l : List (List Int)), (wrL mn mx p cur b).1 = c :: l → ∃ t, c = cur ++ t ∧ t ≠ [] ∧ cutAt mn mx p c = true ∧ wrL mn mx p cur t = ([c], []) ∧ ∃ b2, b = t ++ b2 ∧ (wrL mn mx p [] b2).1 = l ∧ (wrL mn mx p [] b2).2 = (wrL mn mx p cur b).2
  | [], cur, c, l, h => by simp [wrL] at h
  | x :: b, cur, c, l, h => by
    by_cases hc : cutAt mn mx p (cur ++ [x]) = true
    · have e : wrL mn mx p cur (x :: b) = ((cur ++ [x]) :: (wrL mn mx p [] b).1, (wrL mn mx p [] b).2) := by rw [wrL, if_pos hc]
      rw [e] at h ⊢
      simp only [List.cons.injEq] at h
      obtain ⟨rfl, rfl⟩ := h
      refine ⟨[x], rfl, by simp, hc, by rw [wrL, if_pos hc]; simp [wrL], b, rfl, rfl, rfl⟩
    · have e : wrL mn mx p cur (x :: b) = wrL mn mx p (cur ++ [x]) b := by rw [wrL, if_neg hc]
      rw [e] at h ⊢
      obtain ⟨t, h1, h2, h3, h4, b2, h5, h6⟩ := wrL_whole b (cur ++ [x]) c l h
      refine ⟨x :: t, by rw [h1]; simp, by simp, h3, by rw [wrL, if_neg hc]; exact h4, b2, by rw [h5]; rfl, h6⟩
/-- The chunks together, and what is left, are the bytes. -/
theorem wrL_flat : ∀ (b cur : List Int), (wrL mn mx p cur b).1.flatten ++ (wrL mn mx p cur b).2 = cur ++ b
  | [], cur => by simp [wrL]
  | x :: b, cur => by
    by_cases hc : cutAt mn mx p (cur ++ [x]) = true
    · rw [show wrL mn mx p cur (x :: b) = ((cur ++ [x]) :: (wrL mn mx p [] b).1, (wrL mn mx p [] b).2) by rw [wrL, if_pos hc]]
      have := wrL_flat b []
      rw [List.flatten_cons, List.append_assoc, this]
      simp
    · rw [show wrL mn mx p cur (x :: b) = wrL mn mx p (cur ++ [x]) b by rw [wrL, if_neg hc], wrL_flat b (cur ++ [x])]
      simp
theorem al_flat (b : List Int) : (al mn mx p [] b).flatten = b := by
  have := wrL_flat (mn := mn) (mx := mx) (p := p) b []
  unfold al
  rw [List.flatten_append]
  split
  · rename_i h
    rw [h] at this
    simpa using this
  · simpa using this
/-- Each chunk's size; what is left is shorter than the greatest. -/
theorem wrL_sizes (h2 : mn ≤ mx) : ∀ (b cur : List Int), cur.length < mx → (∀ c ∈ (wrL mn mx p cur b).1, mn ≤ c.length ∧ 1 ≤ c.length ∧ c.length ≤ mx) ∧ (wrL mn mx p cur b).2.length < mx
  | [], cur, h => by simp [wrL, h]
  | x :: b, cur, h => by
    have hl : (cur ++ [x]).length = cur.length + 1 := by simp
    by_cases hc : cutAt mn mx p (cur ++ [x]) = true
    · rw [show wrL mn mx p cur (x :: b) = ((cur ++ [x]) :: (wrL mn mx p [] b).1, (wrL mn mx p [] b).2) by rw [wrL, if_pos hc]]
      have hr := wrL_sizes h2 b [] (by simp; omega)
      refine ⟨fun c hm => ?_, hr.2⟩
      rcases List.mem_cons.1 hm with rfl | hm
      · have := cutAt_iff.1 hc
        omega
      · exact hr.1 c hm
    · rw [show wrL mn mx p cur (x :: b) = wrL mn mx p (cur ++ [x]) b by rw [wrL, if_neg hc]]
      refine wrL_sizes h2 b (cur ++ [x]) ?_
      have h3 : ¬ (cur ++ [x]).length = mx := fun h => hc (cutAt_iff.2 (.inl h))
      omega
end
end Go.Proofs.YtdfahblgnbdndaaDoor
namespace Go.Proofs.YtdfahblgnbdndaaDoor
open Go.RowKit Go.Proofs.YtdfahblgnbdndaaDoorW.PrintWords Go.Proofs.YtdfahblgnbdndaaDoorW.PrintMore
set_option linter.unusedVariables false
set_option linter.unusedSimpArgs false
/-- The greatest power of two up to a number. -/
def pw (n : Nat) : Nat := 2 ^ n.log2
theorem pw_le {n : Nat} (h : 1 ≤ n) : pw n ≤ n := Nat.log2_self_le (by omega)
theorem pw_lt (n : Nat) : n < 2 * pw n := by
  unfold pw
  have := Nat.lt_log2_self (n := n)
  rw [Nat.pow_succ] at this
  omega
theorem pw_pos (n : Nat) : 0 < pw n := Nat.two_pow_pos _
theorem bitLen_all : ((List.range 4097).all fun n => decide (n = 0 ∨ Lib.bitLen n = n.log2 + 1)) = true := by decide +kernel
theorem bitLen_log2 {n : Nat} (h : 1 ≤ n) (h2 : n ≤ 4096) : Lib.bitLen n = n.log2 + 1 := by
  have := of_decide_eq_true (List.all_eq_true.1 bitLen_all n (List.mem_range.2 (by omega)))
  omega
def mayB (a b c : Int) : Bool := decide (1 ≤ a) && decide (a ≤ b) && decide (b ≤ c) && decide (c ≤ 4096)
theorem may_calls (a b c : Int) (w : World) : Calls Tryd.prog 40 #[.agg #[.int .i64 a, .int .i64 b, .int .i64 c]] w fun e w' => e = .returned (.bool (mayB a b c)) ∧ Below w.heap.size w w' := by
  go_enter Tryd.func40, Tryd.ntmps40
  go_wp2
  all_goals (try simp only [Exit.inBlock, Exit.then])
  all_goals refine bodyPost_ret (results_tmp rfl _ _ _) rfl ⟨?_, below_alloc (Below.refl _ w) _⟩
  all_goals (congr 2; unfold mayB; simp; first | done | omega)
def Pv (a b c : Int) : Value := .agg #[.int .i64 a, .int .i64 b, .int .i64 c]
theorem log2_le {b : Nat} (h : b ≤ 4096) : b.log2 ≤ 12 := by
  rcases Nat.eq_zero_or_pos b with rfl | h0
  · decide
  · have := Nat.log2_self_le (n := b) (by omega)
    have h2 : 2 ^ b.log2 < 2 ^ 13 := by omega
    have := (Nat.pow_lt_pow_iff_right (by omega)).1 h2
    omega
theorem mask_calls (a b c : Nat) (w : World) (h : mayB a b c = true) : Calls Tryd.prog 98 #[.agg #[.int .i64 a, .int .i64 b, .int .i64 c]] w fun e w' => e = .returned (.int .u32 ((pw b - 1 : Nat) : Int)) ∧ Below w.heap.size w w' := by
  have h2 : 1 ≤ b ∧ b ≤ 4096 := by unfold mayB at h; simp at h; omega
  have hlen : Lib.bitLen b = b.log2 + 1 := bitLen_log2 h2.1 h2.2
  have HM := Aside0.mk h
  have hl12 := log2_le h2.2
  have hw : wrap64 (b.log2 : Int) = (b.log2 : Int) := by unfold wrap64; omega
  have HP : Aside0 (pw b = 2 ^ b.log2) := ⟨rfl⟩
  have hp1 := pw_le h2.1
  have hp2 := pw_pos b
  rw [HP.out] at hp1 hp2
  rw [HP.out]
  have HP2 : Aside0 (((2 : Int) ^ b.log2) = ((2 ^ b.log2 : Nat) : Int)) := ⟨by simp⟩
  clear HP
  generalize 2 ^ b.log2 = P at *
  clear h
  go_enter Tryd.func98, Tryd.ntmps98
  go_wp2_with (first
    | (go_at_call 40; refine (may_calls a b c _).mono ?_; rw [HM.out]; rintro e w1 ⟨rfl, hB⟩; have HB1 := Aside0.mk hB; have hc1 : w1.cell? ⟨w.heap.size, 1, none⟩ = some (.int .i64 (b : Int)) := (by rw [blk_cell (Later.heap hB (blk_new w _)) 1]; rfl); clear hB)
    | (go_at_call 71; refine (Tryd.bits_Len b _ (by omega) (by omega)).mono ?_; rw [Int.toNat_natCast, hlen]; rintro e w2 ⟨rfl, rfl⟩))
  (try simp only [Exit.inBlock, Exit.then])
  refine bodyPost_ret (results_tmp rfl _ _ _) rfl ⟨?_, (Below.trans (below_alloc (Below.refl _ w) _) (HB1.out.mono (by simp)))⟩
  show Ending.returned (.int .u32 ((2 ^ b.log2 % 4294967296 - 1) % 4294967296)) = _
  rw [HP2.out]
  congr 2
  omega
/-- lighterageref10.May. -/
theorem pmay_calls (a b c : Int) (w : World) : Calls Tryd.prog 28 #[.agg #[.int .i64 a, .int .i64 b, .int .i64 c]] w fun e w' => e = .returned (.bool (mayB a b c)) ∧ Below w.heap.size w w' := by
  go_enter Tryd.func28, Tryd.ntmps28
  go_wp2
  all_goals (try simp only [Exit.inBlock, Exit.then])
  all_goals refine bodyPost_ret (results_tmp rfl _ _ _) rfl ⟨?_, below_alloc (Below.refl _ w) _⟩
  all_goals (refine congrArg (fun b => Ending.returned (Value.bool b)) ?_; unfold mayB; rw [Bool.eq_iff_iff]; simp only [Bool.and_eq_true, decide_eq_true_eq, Bool.false_eq_true, false_iff]; first | omega | trace_state)
/-- lighterageref10.Power. -/
theorem power_calls (n : Nat) (w : World) (h0 : 1 ≤ n) (h1 : n ≤ 1000000000) : Calls Tryd.prog 105 #[.int .i64 (n : Int)] w fun e w' => e = .returned (.int .i64 ((pw n : Nat) : Int)) ∧ w = w' := by
  go_enter Tryd.func105, Tryd.ntmps105
  go_wp2
  go_loopw [3] (fun v wr => ∃ k : Nat, v = .int .i64 ((2 ^ k : Nat) : Int) ∧ 2 ^ k ≤ n ∧ w = wr) (fun v _ => n - (intOf v).toNat)
  case atStart => exact ⟨0, rfl, h0, rfl⟩
  case round =>
    obtain ⟨k, rfl, hk, rfl⟩ := hrel
    have hs : 2 ^ (k + 1) = 2 * 2 ^ k := by rw [Nat.pow_succ]; omega
    have hp : 0 < 2 ^ k := Nat.two_pow_pos k
    have HE : Aside0 (¬ 2 * 2 ^ k ≤ n → pw n = 2 ^ k) := ⟨fun h => by
      unfold pw
      have h4 := Nat.log2_self_le (n := n) (by omega)
      have h5 := Nat.lt_log2_self (n := n)
      have a1 : n.log2 < k + 1 := (Nat.pow_lt_pow_iff_right (a := 2) (by omega)).1 (by omega)
      have a2 : k < n.log2 + 1 := (Nat.pow_lt_pow_iff_right (a := 2) (by omega)).1 (by omega)
      rw [show n.log2 = k by omega]⟩
    have HS := Aside0.mk hs
    clear hs
    by_cases hlt : 2 * 2 ^ k ≤ n
    · clear HE
      generalize 2 ^ k = P at *
      have hltI : 2 * (P : Int) ≤ (n : Int) := by omega
      go_wp2
      go_roundw
      case rel => exact ⟨k + 1, by rw [HS.out]; rfl, by rw [HS.out]; omega, trivial⟩
      case measure => simp [intOf]; omega
    · clear HS
      generalize 2 ^ k = P at *
      have hltI : ¬ 2 * (P : Int) ≤ (n : Int) := by omega
      go_wp2
      go_ret
      exact ⟨by rw [HE.out hlt]; rfl, rfl⟩
def gA (a : Int) : Int := 1 + around a 12
def gB (a b : Int) : Int := gA a + around b 20
def gC (a b c : Int) : Int := gB a b + around c 40
theorem good_range (a b c : Int) : 1 ≤ gA a ∧ gA a ≤ 12 ∧ gA a ≤ gB a b ∧ gB a b ≤ 31 ∧ gB a b ≤ gC a b c ∧ gC a b c ≤ 70 := by
  have h1 := around_range a 12 (by omega)
  have h2 := around_range b 20 (by omega)
  have h3 := around_range c 40 (by omega)
  unfold gC gB gA
  omega
theorem results_cell1 {P : Program} {fn : Func} {p : Tmp} {ty : TypeId} (h : fn.results = #[.cell p ty]) (tmps : Array Value) (w : World) (g : Nat) (t : TypeId) (cs : Array Value) (fr : Nat × Nat) (d : TypeDesc)
    (hp : tmps.getD p undef = .pointer (some ⟨g, 0, none⟩)) (hg : w.heap[g]? = some (.cells cs t fr))
    (hu : P.underlying ty = some d) (hd : (match d with | .struct _ | .array _ _ => true | _ => false) = true) (hi : (P.info? ty).map (·.size) = some cs.size) :
    (results fn tmps).run P w = .ok (.agg cs) w := by
  have hp' : tmps[p]?.getD undef = .pointer (some ⟨g, 0, none⟩) := by simpa using hp
  simp [results, h, hp', asAddr, run_loadVar_row w g t ty cs fr d hg hu hd hi]
theorem at_ar (m : Int) {f : FuncId} {b : Value} {w : World} {R : Ending → World → Prop} (h : Calls Tryd.prog f #[b, .int .i64 m] w R) : Calls Tryd.prog f #[b, .int .i64 m] w R := h
/-- lighterageref10.Good. -/
theorem good_calls (a b c : Int) (w : World) (ha0 : -9223372036854775808 ≤ a) (ha1 : a ≤ 9223372036854775807) (hb0 : -9223372036854775808 ≤ b) (hb1 : b ≤ 9223372036854775807) (hc0 : -9223372036854775808 ≤ c) (hc1 : c ≤ 9223372036854775807) :
    Calls Tryd.prog 23 #[.agg #[.int .i64 a, .int .i64 b, .int .i64 c]] w fun e w' => e = .returned (.agg #[.int .i64 (gA a), .int .i64 (gB a b), .int .i64 (gC a b c)]) ∧ Below w.heap.size w w' := by
  have h1 := around_range a 12 (by omega)
  have h2 := around_range b 20 (by omega)
  have h3 := around_range c 40 (by omega)
  have HG : Aside0 (gA a = 1 + around a 12 ∧ gB a b = 1 + around a 12 + around b 20 ∧ gC a b c = 1 + around a 12 + around b 20 + around c 40) := ⟨rfl, rfl, rfl⟩
  go_enter Tryd.func23, Tryd.ntmps23
  go_wp2_with (first
    | (go_at_call 10; (with_reducible refine at_ar 12 ?_); refine (around_calls a 12 _ ha0 ha1 (by omega) (by omega)).mono ?_; rintro e u0 ⟨rfl, rfl⟩; generalize around a 12 = x at *)
    | (go_at_call 10; (with_reducible refine at_ar 20 ?_); refine (around_calls b 20 _ hb0 hb1 (by omega) (by omega)).mono ?_; rintro e u0 ⟨rfl, rfl⟩; generalize around b 20 = y at *)
    | (go_at_call 10; (with_reducible refine at_ar 40 ?_); refine (around_calls c 40 _ hc0 hc1 (by omega) (by omega)).mono ?_; rintro e u0 ⟨rfl, rfl⟩; generalize around c 40 = z at *))
  obtain ⟨e1, e2, e3⟩ := HG.out
  rw [e1, e2, e3]
  have hb : ((w.alloc (.cells #[.int .i64 a, .int .i64 b, .int .i64 c] 24)).alloc (.cells #[.int .i64 (1 + x), .int .i64 (1 + x + y), .int .i64 (1 + x + y + z)] 24)).heap[w.heap.size + 1]? = some (.cells #[.int .i64 (1 + x), .int .i64 (1 + x + y), .int .i64 (1 + x + y + z)] 24 (0, 0)) := by
    rw [show w.heap.size + 1 = (w.alloc (.cells #[.int .i64 a, .int .i64 b, .int .i64 c] 24)).heap.size by simp]
    exact blk_new _ _
  exact bodyPost_ret (results_cell1 rfl _ _ (w.heap.size + 1) _ _ _ _ rfl hb Tryd.underlying24 rfl (by kernel_rfl)) rfl ⟨rfl, below_alloc (below_alloc (Below.refl _ w) _) _⟩
end Go.Proofs.YtdfahblgnbdndaaDoor
namespace Go.Proofs.YtdfahblgnbdndaaDoor
open Go.RowKit Go.Proofs.YtdfahblgnbdndaaDoorW.PrintWords Go.Proofs.YtdfahblgnbdndaaDoorW.PrintMore
set_option linter.unusedVariables false
set_option linter.unusedSimpArgs false
/-- A row of slices of one's own, from base on. -/
abbrev OwT (w : World) (base : Nat) (v : Value) (xs : List S3) : Prop := KS.R 33 w base (fun _ => True) v xs
section
variable {ops : Array Oper} {rest : List Oper} {o : Oper} {a : Act} {Q : Exit → Act → World → Prop}
theorem appT {w0 W : World} (base : Nat) (hgd : o.guard = none) (s x : Operand)
    (ho : o.op = .call { callee := .builtin .append, args := #[s, x], argTypes := #[61, 61] })
    (v : Value) (xs ys : List S3) (A : Option Addr) (m c : Nat) (hs : a.eval s = v) (hx : a.eval x = .slice A m c)
    (HO : OwT W base v xs) (HR : RdS W A m ys) (HB : Below base w0 W) (hbase : base ≤ W.heap.size) (hl : (xs.length + m) * 24 ≤ 140737488355328)
    (h : ∀ v1 w1, OwT w1 base v1 (xs ++ ys) → Below base w0 w1 → W.grownBy w1 v.ownBlock → (v1.ownBlock = v.ownBlock ∨ ∃ b, v1.ownBlock = some b ∧ W.heap.size ≤ b) → wpList Tryd.prog ops Q rest (a.put o.dst v1) w1) :
    wpList Tryd.prog ops Q (o :: rest) a W :=
  Kd.R_append_rows KS base hgd s x 61 33 (.slice none 0 0) 24 ho Tryd.underlying61 infoS rfl (by decide) (by decide) v xs ys A m c (fun _ => True) (fun _ => False) hs hx HO HR (fun _ _ h => h) (fun _ h => h.elim) (fun _ _ => trivial) HB hbase hl h
end
/-- Chunks that are read. -/
def ChR (w : World) (L : List (S3 × List Int)) : Prop := ∀ p ∈ L, RdB w p.1.1 p.2.length p.2 ∧ p.1.2.1 = p.2.length ∧ p.2.length ≤ p.1.2.2 ∧ Bytes p.2
theorem ChR.nil (w : World) : ChR w [] := fun _ h => absurd h List.not_mem_nil
theorem ChR.below {w w1 : World} {L : List (S3 × List Int)} (h : ChR w L) (k : Below w.heap.size w w1) : ChR w1 L := fun p hp => ⟨Kd.C_below (h p hp).1 k, (h p hp).2⟩
theorem ChR.snoc {w : World} {L : List (S3 × List Int)} (h : ChR w L) {A : Option Addr} {c : Nat} {X : List Int} (hr : RdB w A X.length X) (hc : X.length ≤ c) (hb : Bytes X) : ChR w (L ++ [((A, X.length, c), X)]) := fun p hp => by
  rcases List.mem_append.1 hp with hp | hp
  · exact h p hp
  · rw [List.mem_singleton.1 hp]
    exact ⟨hr, rfl, hc, hb⟩
set_option maxRecDepth 20000 in
set_option maxHeartbeats 1600000 in
theorem first_calls (A B : Option Addr) (cw n c a0 b0 c0 : Nat) (xs : List Int) (w : World) (hw : RdW w A 256 (WT 256)) (h : RdB w B n xs) (hc : n ≤ c) (hb : Bytes xs) (hn : n ≤ 1099511627776) (hm : mayB a0 b0 c0 = true) :
    Calls Tryd.prog 85 #[.slice A 256 cw, .slice B n c, .agg #[.int .i64 a0, .int .i64 b0, .int .i64 c0]] w fun e w' => e = .returned (.int .i64 ((fi c0 (pw b0) xs a0 : Nat) : Int)) ∧ Below w.heap.size w w' := by
  obtain rfl : xs.length = n := h.1
  have HX := Aside0.mk h
  have HW := Aside0.mk hw
  obtain ⟨m1, m2, m3, m4⟩ : 1 ≤ a0 ∧ a0 ≤ b0 ∧ b0 ≤ c0 ∧ c0 ≤ 4096 := by unfold mayB at hm; simp at hm; omega
  have hp := pw_pos b0
  have hp2 := pw_le (n := b0) (by omega)
  obtain ⟨P, hP⟩ : ∃ P, pw b0 = P := ⟨_, rfl⟩
  rw [hP] at hp hp2 ⊢
  have HP := Aside0.mk hP
  clear h hw hm hP
  go_enter Tryd.func85, Tryd.ntmps85
  go_wp2_with (first
    | (go_at_call 105; refine (power_calls b0 _ (by omega) (by omega)).mono ?_; rw [HP.out]; rintro e u0 ⟨rfl, rfl⟩))
  obtain ⟨w1, hw1⟩ : ∃ w1, w1 = w.alloc (.cells #[.int .i64 (a0 : Int), .int .i64 (b0 : Int), .int .i64 (c0 : Int)] 24) := ⟨_, rfl⟩
  have L1 : Aside0 (Later w w1) := ⟨by rw [hw1]; exact below_alloc (Below.refl _ _) _⟩
  have hc2 : w1.cell? ⟨w.heap.size, 2, none⟩ = some (.int .i64 (c0 : Int)) := by rw [hw1, blk_cell (blk_new w _) 2]; rfl
  rw [← hw1]
  clear hw1
  go_loopw [8] (fun v wr => ∃ k : Nat, v = .int .i64 k ∧ a0 ≤ k ∧ fi c0 P xs k = fi c0 P xs a0 ∧ w1 = wr) (fun v _ => xs.length - (intOf v).toNat)
  case atStart => exact ⟨a0, rfl, Nat.le_refl _, rfl, rfl⟩
  case round =>
    obtain ⟨k, rfl, hk, hfi, rfl⟩ := hrel
    have HF := Aside0.mk hfi
    clear hfi
    by_cases hlt : k < xs.length
    · by_cases hmx : k = c0
      · have hmxB : ((k : Int) == (c0 : Int)) = true := by simp [hmx]
        have HE : Aside0 (fi c0 P xs a0 = k) := ⟨by rw [← HF.out, fi_here hlt (.inl hmx)]⟩
        clear hmx
        go_wp2
        (try simp only [Exit.inBlock, Exit.then])
        exact bodyPost_ret (results_tmp rfl _ _ _) rfl ⟨by rw [HE.out]; rfl, L1.out⟩
      · have hmxB : ((k : Int) == (c0 : Int)) = false := by simp; omega
        obtain ⟨hcut, hrT⟩ := cutTo (Kd.C_below HX.out L1.out) hc (k : Int) (by omega) (by omega)
        rw [Int.toNat_natCast] at hcut hrT
        have HT := Aside0.mk hrT
        have hov0 := hov_range (xs.take k)
        have hpI : (0 : Int) < (P : Int) := by omega
        have hpz : ((P : Int) == 0) = false := by simp; omega
        have hmod : (hov (xs.take k)).tmod (P : Int) = hov (xs.take k) % (P : Int) := Int.tmod_eq_emod_of_nonneg hov0.1
        have hml := Int.emod_lt_of_pos (hov (xs.take k)) hpI
        have hm0 := Int.emod_nonneg (hov (xs.take k)) (Int.ne_of_gt hpI)
        clear hrT
        by_cases hz : hov (xs.take k) % (P : Int) = 0
        · have HE : Aside0 (fi c0 P xs a0 = k) := ⟨by rw [← HF.out, fi_here hlt (.inr hz)]⟩
          rw [hz] at hmod hml hm0
          obtain ⟨V, hV⟩ : ∃ V, hov (xs.take k) = V := ⟨_, rfl⟩
          rw [hV] at hmod hov0
          have HV := Aside0.mk hV
          clear hz hmx hV
          go_wp2_with (go_at_call 106; refine (over_calls A B cw k c (xs.take k) w1 (Kd.C_below HW.out L1.out) HT.out (hb.take k) (by omega)).mono ?_; rw [HV.out]; rintro e u0 ⟨rfl, rfl⟩)
          (try simp only [Exit.inBlock, Exit.then])
          exact bodyPost_ret (results_tmp rfl _ _ _) rfl ⟨by rw [HE.out]; rfl, L1.out⟩
        · have HE : Aside0 (fi c0 P xs (k + 1) = fi c0 P xs a0) := ⟨by rw [← HF.out, fi_next hlt (by rintro (h | h) <;> contradiction)]⟩
          obtain ⟨V, hV⟩ : ∃ V, hov (xs.take k) = V := ⟨_, rfl⟩
          rw [hV] at hmod hov0 hz hml hm0
          obtain ⟨Z, hZ⟩ : ∃ Z, V % (P : Int) = Z := ⟨_, rfl⟩
          rw [hZ] at hmod hz hml hm0
          have HV := Aside0.mk hV
          clear hmx hV hZ
          go_wp2_with (go_at_call 106; refine (over_calls A B cw k c (xs.take k) w1 (Kd.C_below HW.out L1.out) HT.out (hb.take k) (by omega)).mono ?_; rw [HV.out]; rintro e u0 ⟨rfl, rfl⟩)
          go_roundw
          case rel => exact ⟨k + 1, by go_num, by omega, HE.out, trivial⟩
          case measure => simp [intOf]; omega
    · have HE : Aside0 (fi c0 P xs a0 = xs.length) := ⟨by rw [← HF.out, fi_end hlt]⟩
      go_wp2
      (try simp only [Exit.inBlock, Exit.then])
      exact bodyPost_ret (results_tmp rfl _ _ _) rfl ⟨by rw [HE.out]; rfl, L1.out⟩
def sN (v : Value) : Nat := match v with
  | .slice _ n _ => n
  | _ => 0
theorem al_step {mn mx p : Nat} (h1 : 1 ≤ mn) (h2 : mn ≤ mx) {b : List Int} (hb : b ≠ []) : al mn mx p [] b = b.take (fi mx p b mn) :: al mn mx p [] (b.drop (fi mx p b mn)) := by
  have := al_first (p := p) h1 h2 b [] (by simpa using hb)
  simp only [List.nil_append, List.length_nil, Nat.zero_add] at this
  rwa [Nat.max_eq_left h1] at this
theorem al_nil (mn mx p : Nat) : al mn mx p [] [] = [] := by unfold al wrL; simp
def Pc (a b c : Nat) : Array Value := #[.int .i64 (a : Int), .int .i64 (b : Int), .int .i64 (c : Int)]
theorem pm_cells {w : World} {g : Nat} {a b c : Int} {t : TypeId} {fr : Nat × Nat} (h : w.heap[g]? = some (.cells #[.int .i64 a, .int .i64 b, .int .i64 c] t fr)) :
    w.cell? ⟨g, 0, none⟩ = some (.int .i64 a) ∧ w.cell? ⟨g, 1, none⟩ = some (.int .i64 b) ∧ w.cell? ⟨g, 2, none⟩ = some (.int .i64 c) := by
  refine ⟨?_, ?_, ?_⟩ <;> (unfold World.cell?; rw [show (⟨g, _, none⟩ : Addr).block = g from rfl, h]; rfl)
/-- What goes along in lighterageref10.Chunks. -/
structure PcI (w1 : World) (mn mx p : Nat) (xs rest : List Int) (A : Option Addr) (c : Nat) (L : List (S3 × List Int)) (vo : Value) (wr : World) : Prop where
  rd : RdB w1 A rest.length rest
  le : rest.length ≤ c
  by_ : Bytes rest
  ln : L.length + rest.length ≤ xs.length
  out : OwT wr w1.heap.size vo (L.map (·.1))
  ch : ChR w1 L
  eq : L.map (·.2) ++ al mn mx p [] rest = al mn mx p [] xs
  below : Later w1 wr
set_option maxRecDepth 20000 in
set_option maxHeartbeats 1600000 in
theorem pchunks_calls (B : Option Addr) (n c a0 b0 c0 : Nat) (xs : List Int) (w : World) (h : RdB w B n xs) (hc : n ≤ c) (hb : Bytes xs) (hn : n ≤ 1073741824) (hm : mayB a0 b0 c0 = true) :
    Calls Tryd.prog 67 #[.slice B n c, .agg #[.int .i64 a0, .int .i64 b0, .int .i64 c0]] w fun e w' => ∃ vo L, e = .returned vo ∧ OwT w' w.heap.size vo (L.map (·.1)) ∧ ChR w' L ∧ L.map (·.2) = al a0 c0 (pw b0) [] xs ∧ Below w.heap.size w w' := by
  obtain rfl : xs.length = n := h.1
  have HX := Aside0.mk h
  have HM := Aside0.mk hm
  obtain ⟨m1, m2, m3, m4⟩ : 1 ≤ a0 ∧ a0 ≤ b0 ∧ b0 ≤ c0 ∧ c0 ≤ 4096 := by unfold mayB at hm; simp at hm; omega
  have HL := Aside0.mk (WT_len 256)
  clear h hm
  go_enter Tryd.func67, Tryd.ntmps67
  go_wp2_with (go_at_call 84; refine (rwords_calls _).mono ?_; rintro e w1 ⟨v1, rfl, hO, hB⟩; obtain ⟨B1, c1, rfl, hc1, hr1⟩ := OwW.reads hO; rw [HL.out] at hr1 hc1; rw [HL.out]; have HR1 := Aside0.mk hr1; have HB1 := Aside0.mk hB; clear hO hB hr1 hc1)
  have HBX := Aside0.mk (Later.heap HB1.out (blk_new w (.cells #[.int .i64 (a0 : Int), .int .i64 (b0 : Int), .int .i64 (c0 : Int)] 24)))
  have LB : Aside0 (Below w.heap.size w w1) := ⟨Below.trans (below_alloc (Below.refl _ w) _) (HB1.out.mono (by simp))⟩
  clear HB1
  go_loopw [0, 6, 7] (fun v0 vo _ wr => ∃ rest A c L, v0 = .slice A rest.length c ∧ PcI w1 a0 c0 (pw b0) xs rest A c L vo wr) (fun v0 _ _ _ => sN v0)
  case atStart => exact ⟨xs, B, c, [], rfl, ⟨Kd.C_below HX.out LB.out, hc, hb, by simp, Kd.R_nil _ _ _ _ _, ChR.nil _, rfl, Later.refl _⟩⟩
  case round =>
    obtain ⟨rest, A, c9, L, rfl, hI⟩ := hrel
    have HI := Aside0.mk hI
    have hrl := hI.ln
    clear hI
    by_cases hne : rest = []
    · subst hne
      go_wp2
      (try simp only [Exit.inBlock, Exit.then])
      refine bodyPost_ret (results_tmp rfl _ _ _) rfl ⟨u6, L, rfl, Kd.R_lower HI.out.out LB.out.size, HI.out.ch.below HI.out.below, ?_, below_tr LB.out HI.out.below LB.out.size⟩
      have := HI.out.eq
      rwa [al_nil, List.append_nil] at this
    · have hlt : 0 < rest.length := List.length_pos_iff.2 hne
      have hltI : (0 : Int) < (rest.length : Int) := by omega
      have hfp := fi_pos (mx := c0) (p := pw b0) hne m1
      have HST := Aside0.mk (al_step (p := pw b0) m1 (Nat.le_trans m2 m3) hne)
      obtain ⟨hq0, hq1, hq2⟩ := pm_cells (Later.heap HI.out.below HBX.out)
      obtain ⟨f, hf⟩ : ∃ f, fi c0 (pw b0) rest a0 = f := ⟨_, rfl⟩
      rw [hf] at hfp HST
      have HF := Aside0.mk hf
      obtain ⟨hf1, hf2⟩ := hfp
      obtain ⟨hcut, hrT⟩ := cutTo HI.out.rd HI.out.le (f : Int) (by omega) (by omega)
      obtain ⟨D, dD, hcutF, hrF⟩ : ∃ D dD, (∀ W : World, (Instr.slice 33 (.slice A rest.length c9) (some (.int .i64 (f : Int))) none none).run Tryd.prog W = .ok (.slice D (rest.length - f) dD) W) ∧ (RdB w1 D (rest.length - f) (rest.drop f) ∧ rest.length - f ≤ dD) := by
        have h := cutFrom HI.out.rd HI.out.le (f : Int) (by omega) (by omega)
        rw [Int.toNat_natCast] at h
        have hle := HI.out.le
        exact ⟨_, _, h.1, h.2, by omega⟩
      rw [Int.toNat_natCast] at hcut hrT
      have HT := Aside0.mk hrT
      have HD := Aside0.mk hrF
      clear hf hrT hrF
      go_wp2_with (first
        | (go_at_call 85; (with_reducible refine at_cw wr ?_); refine (first_calls B1 A c1 rest.length c9 a0 b0 c0 rest wr (Kd.C_below HR1.out HI.out.below) (Kd.C_below HI.out.rd HI.out.below) HI.out.le HI.out.by_ (by omega) HM.out).mono ?_; rw [HF.out]; rintro e w2 ⟨rfl, hB⟩; have L2 : Aside0 (Later wr w2) := ⟨hB⟩; clear hB)
        | (at_builtin; refine appT (w0 := w1) w1.heap.size rfl (.tmp 16) (.tmp 20) rfl u6 (L.map (·.1)) [(A, f, c9)] (some ⟨w2.heap.size, 0, none⟩) 1 1 rfl rfl (Kd.R_below HI.out.out (Later.trans L2.out (below_alloc (Later.refl _) _))) (rdS_lit w2 [(A, f, c9)] _ 1 rfl rfl (by simp)) (below_alloc (below_tr HI.out.below L2.out HI.out.below.size) _) (by have := HI.out.below.size; have := Later.size L2.out; simp; omega) (by rw [List.length_map]; omega) ?_; intro v3 w3 hO hB hG _; have HO3 := Aside0.mk hO; have HB3 := Aside0.mk hB; have HG3 := Aside0.mk hG; clear hO hB hG))
      have hld : (rest.drop f).length = rest.length - f := List.length_drop
      have hlt2 : (rest.take f).length = f := by rw [List.length_take]; omega
      have HLD := Aside0.mk hld
      have HLT := Aside0.mk hlt2
      clear hld hlt2
      go_roundw
      case rel =>
        refine ⟨rest.drop f, D, dD, L ++ [((A, (rest.take f).length, c9), rest.take f)], by rw [HLD.out], ⟨by rw [HLD.out]; exact HD.out.1, by rw [HLD.out]; exact HD.out.2, HI.out.by_.drop f, by rw [HLD.out]; simp; omega, ?_, HI.out.ch.snoc (by rw [HLT.out]; exact HT.out) (by have := HI.out.le; rw [HLT.out]; omega) (HI.out.by_.take f), ?_, HB3.out⟩⟩
        · rw [List.map_append, HLT.out]
          exact HO3.out
        · rw [List.map_append, List.append_assoc, ← HI.out.eq, HST.out]
          rfl
      case measure =>
        show rest.length - f < rest.length
        omega
end Go.Proofs.YtdfahblgnbdndaaDoor
namespace Go.Proofs.YtdfahblgnbdndaaDoor
open Go.RowKit Go.Proofs.YtdfahblgnbdndaaDoorW.PrintWords Go.Proofs.YtdfahblgnbdndaaDoorW.PrintMore
set_option linter.unusedVariables false
set_option linter.unusedSimpArgs false
/-- Rows of rows of bytes. -/
abbrev KL : Kd (List Int) := Kd.slice 5 (Kd.int .u8)
def Cc (a b c m : Int) (gr : Nat) (v : Value) : Array Value := #[.int .i64 a, .int .i64 b, .int .i64 c, .int .u32 m, .pointer (some ⟨gr, 0, none⟩), v]
/-- A cutter: its block, its roll, what was not told yet. -/
structure CSt (B0 g gr a b c : Nat) (cur : List Int) (v : Value) (w : World) : Prop where
  blk : w.heap[g]? = some (.cells #[.int .i64 (a : Int), .int .i64 (b : Int), .int .i64 (c : Int), .int .u32 ((pw b - 1 : Nat) : Int), .pointer (some ⟨gr, 0, none⟩), v] 140 (0, 0))
  roll : RSt w gr cur
  own : OwB w B0 v cur
  by_ : Bytes cur
  hg : B0 ≤ g
  hr : B0 ≤ gr
theorem CSt.typed {B0 g gr a b c : Nat} {cur : List Int} {v : Value} {w : World} (h : CSt B0 g gr a b c cur v w) : ∃ cs, w.heap[gr]? = some (.cells cs 169 (0, 0)) := by
  obtain ⟨d, ls, la, hB, _⟩ := h.roll
  exact ⟨_, hB⟩
theorem CSt.ne {B0 g gr a b c : Nat} {cur : List Int} {v : Value} {w : World} (h : CSt B0 g gr a b c cur v w) : g ≠ gr := by
  obtain ⟨cs, hr⟩ := h.typed
  exact blk_ne h.blk hr (by decide)
theorem CSt.cells {B0 g gr a b c : Nat} {cur : List Int} {v : Value} {w : World} (h : CSt B0 g gr a b c cur v w) :
    w.cell? ⟨g, 0, none⟩ = some (.int .i64 (a : Int)) ∧ w.cell? ⟨g, 2, none⟩ = some (.int .i64 (c : Int)) ∧ w.cell? ⟨g, 3, none⟩ = some (.int .u32 ((pw b - 1 : Nat) : Int)) ∧ w.cell? ⟨g, 4, none⟩ = some (.pointer (some ⟨gr, 0, none⟩)) ∧ w.cell? ⟨g, 5, none⟩ = some v ∧ w.frozen? ⟨g, 5, none⟩ = false := by
  refine ⟨?_, ?_, ?_, ?_, ?_, blk_frozen h.blk 5⟩ <;> (rw [blk_cell h.blk]; rfl)
theorem CSt.setB {B0 g gr a b c : Nat} {cur : List Int} {v : Value} {w : World} (h : CSt B0 g gr a b c cur v w) {v1 : Value} {w1 : World} {cur1 : List Int} (hb : w1.heap[g]? = w.heap[g]?) (hr : RSt w1 gr cur1) (ho : OwB w1 B0 v1 cur1) (hby : Bytes cur1) : CSt B0 g gr a b c cur1 v1 (w1.setCell ⟨g, 5, none⟩ v1) := by
  have h1 := hb.trans h.blk
  have hne := h.ne
  refine ⟨blk_set h1 5 v1, hr.move (Below.heap_setCell w1 ⟨g, 5, none⟩ v1 gr (Ne.symm hne)), ?_, hby, h.hg, h.hr⟩
  exact Kd.R_set ho h1 (by decide) 5 v1
theorem CSt.below {B0 g gr a b c : Nat} {cur : List Int} {v : Value} {w w1 : World} (h : CSt B0 g gr a b c cur v w) (k : Below w.heap.size w w1) : CSt B0 g gr a b c cur v w1 :=
  ⟨Later.heap k h.blk, h.roll.below k, OwB.below h.own k, h.by_, h.hg, h.hr⟩
theorem OwB.setTyped {w w1 : World} {B0 g t : Nat} {v : Value} {xs : List Int} {cs : Array Value} {o : Obj} (h : OwB w B0 v xs) (hb : w.heap[g]? = some (.cells cs t (0, 0))) (ht : 5 ≠ t) (hS : SetBlk w w1 g o) : OwB w1 B0 v xs :=
  Kd.R_mono (Kd.R_step (Kd.R_types h hb (fun q hq => by rcases List.mem_cons.1 hq with rfl | hq; exact ht; cases hq)) (fun k hk _ => hS.else_ k hk.2)) (fun _ hk => hk.1)
theorem end_calls (B0 g gr a b c : Nat) (cur : List Int) (v : Value) (w : World) (h : CSt B0 g gr a b c cur v w) :
    Calls Tryd.prog 77 #[.pointer (some ⟨g, 0, none⟩)] w fun e w' => e = .returned v ∧ CSt B0 g gr a b c [] (.slice none 0 0) w' ∧ OwB w' B0 v cur ∧ Fr w w' (fun k => k = g ∨ k = gr) := by
  obtain ⟨c0, c2, c3, c4, c5, f5⟩ := h.cells
  obtain ⟨A, d, rfl, _, _⟩ := h.own.reads
  have HS := Aside0.mk h
  have hne := h.ne
  have HR5 : Aside0 (RSt (w.setCell ⟨g, 5, none⟩ (.slice none 0 0)) gr cur) := ⟨h.roll.move (Below.heap_setCell w ⟨g, 5, none⟩ _ gr (Ne.symm hne))⟩
  clear h hne
  go_enter Tryd.func77, Tryd.ntmps77
  go_wp2_with (go_at_call 101; refine (reset_calls gr cur _ HR5.out).mono ?_; rintro e w1 ⟨rfl, hR, o, hS⟩; have HR := Aside0.mk hR; have HSB := Aside0.mk hS; clear hR hS)
  (try simp only [Exit.inBlock, Exit.then])
  have hne := HS.out.ne
  obtain ⟨cs, hrt⟩ := HS.out.typed
  have hb5 := blk_set HS.out.blk 5 (.slice none 0 0)
  have hr5 := blk_far (p := ⟨g, 5, none⟩) hrt (Ne.symm hne) (.slice none 0 0)
  refine bodyPost_ret (results_tmp rfl _ _ _) rfl ⟨rfl, ⟨(HSB.out.else_ g hne).trans hb5, HR.out, Kd.R_nil _ _ _ _ _, Bytes.nil, HS.out.hg, HS.out.hr⟩, ?_, ?_⟩
  · exact OwB.setTyped (Kd.R_set HS.out.own HS.out.blk (by decide) 5 _) hr5 (by decide) HSB.out
  · exact ((Fr.refl w _).set (setBlk_cell HS.out.blk _) (.inl (.inl rfl))).set HSB.out (.inl (.inr rfl))
theorem built_c (a b c m : Int) (gr : Nat) : Tryd.prog.built 140 [(0, .agg #[.int .i64 a, .int .i64 b, .int .i64 c]), (1, .int .u32 m), (2, .pointer (some ⟨gr, 0, none⟩))] = some #[.int .i64 a, .int .i64 b, .int .i64 c, .int .u32 m, .pointer (some ⟨gr, 0, none⟩), .slice none 0 0] := by kernel_rfl
theorem cnew_bad (a b c : Int) (w : World) (h : mayB a b c = false) :
    Calls Tryd.prog 75 #[.agg #[.int .i64 a, .int .i64 b, .int .i64 c]] w fun e w' => e = .returned (.tuple #[.pointer none, .int .i64 1]) ∧ Below w.heap.size w w' := by
  have HM := Aside0.mk h
  clear h
  go_enter Tryd.func75, Tryd.ntmps75
  go_wp2_with (go_at_call 40; refine (may_calls a b c _).mono ?_; rw [HM.out]; rintro e w1 ⟨rfl, hB⟩; have HB1 := Aside0.mk hB; clear hB)
  (try simp only [Exit.inBlock, Exit.then])
  exact bodyPost_ret (results_tmp2 rfl _ _ _) rfl ⟨rfl, Below.trans (below_alloc (Below.refl _ w) _) (HB1.out.mono (by simp))⟩
set_option maxRecDepth 20000 in
theorem cnew_ok (a b c : Nat) (w : World) (h : mayB a b c = true) :
    Calls Tryd.prog 75 #[.agg #[.int .i64 a, .int .i64 b, .int .i64 c]] w fun e w' => ∃ g gr, e = .returned (.tuple #[.pointer (some ⟨g, 0, none⟩), .int .i64 0]) ∧ CSt w.heap.size g gr a b c [] (.slice none 0 0) w' ∧ Below w.heap.size w w' := by
  have HM := Aside0.mk h
  clear h
  go_enter Tryd.func75, Tryd.ntmps75
  go_wp2_with (go_at_call 40; refine (may_calls a b c _).mono ?_; rw [HM.out]; rintro e w1 ⟨rfl, hB⟩; have HB1 : Aside0 (Below w.heap.size w w1) := ⟨Below.trans (below_alloc (Below.refl _ w) _) (hB.mono (by simp))⟩; have HBX := Aside0.mk (Later.heap hB (blk_new w (.cells #[.int .i64 (a : Int), .int .i64 (b : Int), .int .i64 (c : Int)] 24))); clear hB)
  have HBD : Aside0 (w1.drew.heap[w.heap.size]? = some (.cells #[.int .i64 (a : Int), .int .i64 (b : Int), .int .i64 (c : Int)] 24 (0, 0))) := ⟨HBX.out⟩
  refine seq_start [] (.take 0 (.take 1 (.run 2 (.run 3 (.take 4 (.run 5 (.take 6 (.take 7 .done)))))))) (by kernel_rfl) (by kernel_rfl) (fun _ _ d _ _ h => by cases d <;> exact h) ?_
  refine seq_take (v := ?_) (a' := ?_) rfl rfl (by rfl) (fun w' hw' => ?_) ?_ ?_
  rotate_left 2
  · obtain ⟨q0, q1, q2⟩ := pm_cells (Later.heap hw' HBD.out); go_simp
    with_reducible rfl
  · simp only [Act.put, List.setIfInBounds_toArray, List.set_cons_zero, List.set_cons_succ, Go.Proofs.YtdfahblgnbdndaaDoorW.PrintLast.i64_w, Go.Proofs.YtdfahblgnbdndaaDoorW.PrintLast.i32_w]
    rfl
  refine seq_take (v := ?_) (a' := ?_) rfl rfl (by rfl) (fun w' hw' => ?_) ?_ ?_
  rotate_left 2
  · obtain ⟨q0, q1, q2⟩ := pm_cells (Later.heap hw' HBD.out); go_simp
    with_reducible rfl
  · simp only [Act.put, List.setIfInBounds_toArray, List.set_cons_zero, List.set_cons_succ, Go.Proofs.YtdfahblgnbdndaaDoorW.PrintLast.i64_w, Go.Proofs.YtdfahblgnbdndaaDoorW.PrintLast.i32_w]
    rfl
  refine seq_run ?_
  refine do_call rfl rfl (by rfl) rfl Tryd.func98 (by kernel_rfl) rfl #[.agg #[.int .i64 (a : Int), .int .i64 (b : Int), .int .i64 (c : Int)]] (by simp only [List.map_toArray, List.map_cons, List.map_nil]; rfl) ?_
  with_reducible refine (mask_calls a b c _ HM.out).mono ?_
  rintro e w2 ⟨rfl, hB2⟩
  refine ⟨_, ?_, rfl, ?_, fun _ => hB2, ?_⟩
  rotate_left
  · simp only [Act.put, List.setIfInBounds_toArray, List.set_cons_zero, List.set_cons_succ, Go.Proofs.YtdfahblgnbdndaaDoorW.PrintLast.i64_w, Go.Proofs.YtdfahblgnbdndaaDoorW.PrintLast.i32_w]
    rfl
  have HB2 : Aside0 (Later w1.drew w2) := ⟨hB2⟩
  clear hB2
  refine seq_run ?_
  refine do_call rfl rfl (by rfl) rfl Tryd.func99 (by kernel_rfl) rfl #[] (by simp only [List.map_toArray, List.map_nil]) ?_
  with_reducible refine (rnew_calls _).mono ?_
  rintro e w3 ⟨rfl, hR3, hB3, hs3⟩
  refine ⟨_, ?_, rfl, ?_, fun _ => hB3, ?_⟩
  rotate_left
  · simp only [Act.put, List.setIfInBounds_toArray, List.set_cons_zero, List.set_cons_succ, Go.Proofs.YtdfahblgnbdndaaDoorW.PrintLast.i64_w, Go.Proofs.YtdfahblgnbdndaaDoorW.PrintLast.i32_w]
    rfl
  have HR3 := Aside0.mk hR3
  have HB3 : Aside0 (Later w2 w3) := ⟨hB3⟩
  clear hR3 hB3
  have hbuilt := built_c a b c ((pw b - 1 : Nat) : Int) w2.heap.size
  refine seq_take (v := _) (a' := ?_) rfl rfl (by rfl) (fun w' hw' => build_run 140 #[(0, .tmp 7), (1, .tmp 9), (2, .tmp 10)] rfl hbuilt) ?_ ?_
  rotate_left
  · simp only [Act.put, List.setIfInBounds_toArray, List.set_cons_zero, List.set_cons_succ, Go.Proofs.YtdfahblgnbdndaaDoorW.PrintLast.i64_w, Go.Proofs.YtdfahblgnbdndaaDoorW.PrintLast.i32_w]
    rfl
  refine seq_run ?_
  refine do_val (v := ?_) (a' := ?_) (w1 := ?_) rfl rfl (by rfl) ?_ ?_ ?_
  rotate_left 3
  · go_simp
    constructor <;> rfl
  · simp only [Act.put, List.setIfInBounds_toArray, List.set_cons_zero, List.set_cons_succ, Go.Proofs.YtdfahblgnbdndaaDoorW.PrintLast.i64_w, Go.Proofs.YtdfahblgnbdndaaDoorW.PrintLast.i32_w]
    rfl
  refine ⟨fun _ => below_alloc (Below.refl _ _) _, ?_⟩
  refine seq_take (v := ?_) (a' := ?_) rfl rfl (by rfl) (fun w' hw' => ?_) ?_ ?_
  rotate_left 2
  · go_simp
    with_reducible rfl
  · simp only [Act.put, List.setIfInBounds_toArray, List.set_cons_zero, List.set_cons_succ, Go.Proofs.YtdfahblgnbdndaaDoorW.PrintLast.i64_w, Go.Proofs.YtdfahblgnbdndaaDoorW.PrintLast.i32_w]
    rfl
  refine seq_take (v := ?_) (a' := ?_) rfl rfl (by rfl) (fun w' hw' => ?_) ?_ ?_
  rotate_left 2
  · go_simp
    with_reducible rfl
  · simp only [Act.put, List.setIfInBounds_toArray, List.set_cons_zero, List.set_cons_succ, Go.Proofs.YtdfahblgnbdndaaDoorW.PrintLast.i64_w, Go.Proofs.YtdfahblgnbdndaaDoorW.PrintLast.i32_w]
    rfl
  refine seq_end ?_
  go_wp2
  (try simp only [Exit.inBlock, Exit.then])
  have HN := blk_new w3 (.cells #[.int .i64 (a : Int), .int .i64 (b : Int), .int .i64 (c : Int), .int .u32 ((pw b - 1 : Nat) : Int), .pointer (some ⟨w2.heap.size, 0, none⟩), .slice none 0 0] 140)
  have B2 : Below w.heap.size w w2 := below_tr HB1.out (Later.trans (Below.drew (Later.refl w1)) HB2.out) HB1.out.size
  have B3 := below_tr B2 HB3.out B2.size
  have B3s := B3.size
  rw [hs3] at HN B3s
  exact bodyPost_ret (results_tmp2 rfl _ _ _) rfl ⟨w2.heap.size + 1, w2.heap.size, rfl, ⟨HN, HR3.out.below (below_alloc (Below.refl _ _) _), Kd.R_nil _ _ _ _ _, Bytes.nil, B3s, B2.size⟩, below_alloc B3 _⟩
end Go.Proofs.YtdfahblgnbdndaaDoor
