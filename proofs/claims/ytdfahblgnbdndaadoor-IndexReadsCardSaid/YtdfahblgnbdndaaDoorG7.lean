/- Plain lemmas and contracts, several texts in one: CutP, Cut1, Cut2, Cut3. Conditions: their own. -/
import Derived.Test.YtdfahblgnbdndaaDoorG5
import Derived.Test.YtdfahblgnbdndaaDoorShelf
import Derived.Test.YtdfahblgnbdndaaDoorG6
import Derived.Test.YtdfahblgnbdndaaDoorG1
import Derived.Laws.MathBits
namespace Go.Proofs.YtdfahblgnbdndaaDoor
open Go.RowKit Go.Proofs.YtdfahblgnbdndaaDoorW.PrintWords Go.Proofs.YtdfahblgnbdndaaDoorW.PrintMore
set_option linter.unusedVariables false
set_option linter.unusedSimpArgs false
section
variable (mn mx p : Nat)
/-- Is there a cut behind these? -/
def cutAt (c : List Int) : Bool := decide (c.length = mx) || (decide (mn ≤ c.length) && decide (hov c % (p : Int) = 0))
/-- Bytes gone along: the chunks, what is left. -/
def wrL : List Int → List Int → List (List Int) × List Int
  | cur, [] => ([], cur)
  | cur, x :: b => if cutAt mn mx p (cur ++ [x]) then ((cur ++ [x]) :: (wrL [] b).1, (wrL [] b).2) else wrL (cur ++ [x]) b
def al (cur b : List Int) : List (List Int) := (wrL mn mx p cur b).1 ++ (if (wrL mn mx p cur b).2 = [] then [] else [(wrL mn mx p cur b).2])
/-- The first chunk's size, from k bytes on. -/
def fi (b : List Int) (k : Nat) : Nat := if k < b.length then (if k = mx ∨ hov (b.take k) % (p : Int) = 0 then k else fi b (k + 1)) else b.length
termination_by b.length - k
def chF : Nat → List Int → List (List Int)
  | 0, _ => []
  | f + 1, b => if b = [] then [] else b.take (fi mx p b mn) :: chF f (b.drop (fi mx p b mn))
def chunks (b : List Int) : List (List Int) := chF mn mx p b.length b
end
section
variable {mn mx p : Nat}
theorem cutAt_iff {c : List Int} : cutAt mn mx p c = true ↔ c.length = mx ∨ (mn ≤ c.length ∧ hov c % (p : Int) = 0) := by simp [cutAt]
/-- The chunks together, and what is left, are the bytes. -/
theorem wrL_flat : ∀ (b cur : List Int), (wrL mn mx p cur b).1.flatten ++ (wrL mn mx p cur b).2 = cur ++ b
  | [], cur => by simp [wrL]
  | x :: b, cur => by
    by_cases hc : cutAt mn mx p (cur ++ [x]) = true
    · rw [show wrL mn mx p cur (x :: b) = ((cur ++ [x]) :: (wrL mn mx p [] b).1, (wrL mn mx p [] b).2) by rw [wrL, if_pos hc]]
      have := wrL_flat b []
      rw [List.flatten_cons, List.append_assoc, this]
      simp
    · rw [show wrL mn mx p cur (x :: b) = wrL mn mx p (cur ++ [x]) b by rw [wrL, if_neg hc], wrL_flat b (cur ++ [x])]
      simp
theorem al_flat (b : List Int) : (al mn mx p [] b).flatten = b := by
  have := wrL_flat (mn := mn) (mx := mx) (p := p) b []
  unfold al
  rw [List.flatten_append]
  split
  · rename_i h
    rw [h] at this
    simpa using this
  · simpa using this
/-- Each chunk's size; what is left is shorter than the greatest. -/
theorem wrL_sizes (h2 : mn ≤ mx) : ∀ (b cur : List Int), cur.length < mx → (∀ c ∈ (wrL mn mx p cur b).1, mn ≤ c.length ∧ 1 ≤ c.length ∧ c.length ≤ mx) ∧ (wrL mn mx p cur b).2.length < mx
  | [], cur, h => by simp [wrL, h]
  | x :: b, cur, h => by
    have hl : (cur ++ [x]).length = cur.length + 1 := by simp
    by_cases hc : cutAt mn mx p (cur ++ [x]) = true
    · rw [show wrL mn mx p cur (x :: b) = ((cur ++ [x]) :: (wrL mn mx p [] b).1, (wrL mn mx p [] b).2) by rw [wrL, if_pos hc]]
      have hr := wrL_sizes h2 b [] (by simp; omega)
      refine ⟨fun c hm => ?_, hr.2⟩
      rcases List.mem_cons.1 hm with rfl | hm
      · have := cutAt_iff.1 hc
        omega
      · exact hr.1 c hm
    · rw [show wrL mn mx p cur (x :: b) = wrL mn mx p (cur ++ [x]) b by rw [wrL, if_neg hc]]
      refine wrL_sizes h2 b (cur ++ [x]) ?_
      have h3 : ¬ (cur ++ [x]).length = mx := fun h => hc (cutAt_iff.2 (.inl h))
      omega
end
end Go.Proofs.YtdfahblgnbdndaaDoor
namespace Go.Proofs.YtdfahblgnbdndaaDoor
open Go.RowKit Go.Proofs.YtdfahblgnbdndaaDoorW.PrintWords Go.Proofs.YtdfahblgnbdndaaDoorW.PrintMore
set_option linter.unusedVariables false
set_option linter.unusedSimpArgs false
/-- The greatest power of two up to a number. -/
def pw (n : Nat) : Nat := 2 ^ n.log2
theorem pw_le {n : Nat} (h : 1 ≤ n) : pw n ≤ n := Nat.log2_self_le (by omega)
theorem pw_pos (n : Nat) : 0 < pw n := Nat.two_pow_pos _
theorem bitLen_all : ((List.range 4097).all fun n => decide (n = 0 ∨ Lib.bitLen n = n.log2 + 1)) = true := by decide +kernel
theorem bitLen_log2 {n : Nat} (h : 1 ≤ n) (h2 : n ≤ 4096) : Lib.bitLen n = n.log2 + 1 := by
  have := of_decide_eq_true (List.all_eq_true.1 bitLen_all n (List.mem_range.2 (by omega)))
  omega
def mayB (a b c : Int) : Bool := decide (1 ≤ a) && decide (a ≤ b) && decide (b ≤ c) && decide (c ≤ 4096)
theorem may_calls (a b c : Int) (w : World) : Calls Tryd.prog 40 #[.agg #[.int .i64 a, .int .i64 b, .int .i64 c]] w fun e w' => e = .returned (.bool (mayB a b c)) ∧ Below w.heap.size w w' := by
  go_enter Tryd.func40, Tryd.ntmps40
  go_wp2
  all_goals (try simp only [Exit.inBlock, Exit.then])
  all_goals refine bodyPost_ret (results_tmp rfl _ _ _) rfl ⟨?_, below_alloc (Below.refl _ w) _⟩
  all_goals (congr 2; unfold mayB; simp; first | done | omega)
def Pv (a b c : Int) : Value := .agg #[.int .i64 a, .int .i64 b, .int .i64 c]
theorem log2_le {b : Nat} (h : b ≤ 4096) : b.log2 ≤ 12 := by
  rcases Nat.eq_zero_or_pos b with rfl | h0
  · decide
  · have := Nat.log2_self_le (n := b) (by omega)
    have h2 : 2 ^ b.log2 < 2 ^ 13 := by omega
    have := (Nat.pow_lt_pow_iff_right (by omega)).1 h2
    omega
theorem mask_calls (a b c : Nat) (w : World) (h : mayB a b c = true) : Calls Tryd.prog 98 #[.agg #[.int .i64 a, .int .i64 b, .int .i64 c]] w fun e w' => e = .returned (.int .u32 ((pw b - 1 : Nat) : Int)) ∧ Below w.heap.size w w' := by
  have h2 : 1 ≤ b ∧ b ≤ 4096 := by unfold mayB at h; simp at h; omega
  have hlen : Lib.bitLen b = b.log2 + 1 := bitLen_log2 h2.1 h2.2
  have HM := Aside0.mk h
  have hl12 := log2_le h2.2
  have hw : wrap64 (b.log2 : Int) = (b.log2 : Int) := by unfold wrap64; omega
  have HP : Aside0 (pw b = 2 ^ b.log2) := ⟨rfl⟩
  have hp1 := pw_le h2.1
  have hp2 := pw_pos b
  rw [HP.out] at hp1 hp2
  rw [HP.out]
  have HP2 : Aside0 (((2 : Int) ^ b.log2) = ((2 ^ b.log2 : Nat) : Int)) := ⟨by simp⟩
  clear HP
  generalize 2 ^ b.log2 = P at *
  clear h
  go_enter Tryd.func98, Tryd.ntmps98
  go_wp2_with (first
    | (go_at_call 40; refine (may_calls a b c _).mono ?_; rw [HM.out]; rintro e w1 ⟨rfl, hB⟩; have HB1 := Aside0.mk hB; have hc1 : w1.cell? ⟨w.heap.size, 1, none⟩ = some (.int .i64 (b : Int)) := (by rw [blk_cell (Later.heap hB (blk_new w _)) 1]; rfl); clear hB)
    | (go_at_call 71; refine (Tryd.bits_Len b _ (by omega) (by omega)).mono ?_; rw [Int.toNat_natCast, hlen]; rintro e w2 ⟨rfl, rfl⟩))
  (try simp only [Exit.inBlock, Exit.then])
  refine bodyPost_ret (results_tmp rfl _ _ _) rfl ⟨?_, (Below.trans (below_alloc (Below.refl _ w) _) (HB1.out.mono (by simp)))⟩
  show Ending.returned (.int .u32 ((2 ^ b.log2 % 4294967296 - 1) % 4294967296)) = _
  rw [HP2.out]
  congr 2
  omega
/-- lighterageref10.May. -/
theorem pmay_calls (a b c : Int) (w : World) : Calls Tryd.prog 28 #[.agg #[.int .i64 a, .int .i64 b, .int .i64 c]] w fun e w' => e = .returned (.bool (mayB a b c)) ∧ Below w.heap.size w w' := by
  go_enter Tryd.func28, Tryd.ntmps28
  go_wp2
  all_goals (try simp only [Exit.inBlock, Exit.then])
  all_goals refine bodyPost_ret (results_tmp rfl _ _ _) rfl ⟨?_, below_alloc (Below.refl _ w) _⟩
  all_goals (refine congrArg (fun b => Ending.returned (Value.bool b)) ?_; unfold mayB; rw [Bool.eq_iff_iff]; simp only [Bool.and_eq_true, decide_eq_true_eq, Bool.false_eq_true, false_iff]; first | omega | trace_state)
def gA (a : Int) : Int := 1 + around a 12
def gB (a b : Int) : Int := gA a + around b 20
def gC (a b c : Int) : Int := gB a b + around c 40
theorem good_range (a b c : Int) : 1 ≤ gA a ∧ gA a ≤ 12 ∧ gA a ≤ gB a b ∧ gB a b ≤ 31 ∧ gB a b ≤ gC a b c ∧ gC a b c ≤ 70 := by
  have h1 := around_range a 12 (by omega)
  have h2 := around_range b 20 (by omega)
  have h3 := around_range c 40 (by omega)
  unfold gC gB gA
  omega
theorem results_cell1 {P : Program} {fn : Func} {p : Tmp} {ty : TypeId} (h : fn.results = #[.cell p ty]) (tmps : Array Value) (w : World) (g : Nat) (t : TypeId) (cs : Array Value) (fr : Nat × Nat) (d : TypeDesc)
    (hp : tmps.getD p undef = .pointer (some ⟨g, 0, none⟩)) (hg : w.heap[g]? = some (.cells cs t fr))
    (hu : P.underlying ty = some d) (hd : (match d with | .struct _ | .array _ _ => true | _ => false) = true) (hi : (P.info? ty).map (·.size) = some cs.size) :
    (results fn tmps).run P w = .ok (.agg cs) w := by
  have hp' : tmps[p]?.getD undef = .pointer (some ⟨g, 0, none⟩) := by simpa using hp
  simp [results, h, hp', asAddr, run_loadVar_row w g t ty cs fr d hg hu hd hi]
theorem at_ar (m : Int) {f : FuncId} {b : Value} {w : World} {R : Ending → World → Prop} (h : Calls Tryd.prog f #[b, .int .i64 m] w R) : Calls Tryd.prog f #[b, .int .i64 m] w R := h
/-- lighterageref10.Good. -/
theorem good_calls (a b c : Int) (w : World) (ha0 : -9223372036854775808 ≤ a) (ha1 : a ≤ 9223372036854775807) (hb0 : -9223372036854775808 ≤ b) (hb1 : b ≤ 9223372036854775807) (hc0 : -9223372036854775808 ≤ c) (hc1 : c ≤ 9223372036854775807) :
    Calls Tryd.prog 23 #[.agg #[.int .i64 a, .int .i64 b, .int .i64 c]] w fun e w' => e = .returned (.agg #[.int .i64 (gA a), .int .i64 (gB a b), .int .i64 (gC a b c)]) ∧ Below w.heap.size w w' := by
  have h1 := around_range a 12 (by omega)
  have h2 := around_range b 20 (by omega)
  have h3 := around_range c 40 (by omega)
  have HG : Aside0 (gA a = 1 + around a 12 ∧ gB a b = 1 + around a 12 + around b 20 ∧ gC a b c = 1 + around a 12 + around b 20 + around c 40) := ⟨rfl, rfl, rfl⟩
  go_enter Tryd.func23, Tryd.ntmps23
  go_wp2_with (first
    | (go_at_call 10; (with_reducible refine at_ar 12 ?_); refine (around_calls a 12 _ ha0 ha1 (by omega) (by omega)).mono ?_; rintro e u0 ⟨rfl, rfl⟩; generalize around a 12 = x at *)
    | (go_at_call 10; (with_reducible refine at_ar 20 ?_); refine (around_calls b 20 _ hb0 hb1 (by omega) (by omega)).mono ?_; rintro e u0 ⟨rfl, rfl⟩; generalize around b 20 = y at *)
    | (go_at_call 10; (with_reducible refine at_ar 40 ?_); refine (around_calls c 40 _ hc0 hc1 (by omega) (by omega)).mono ?_; rintro e u0 ⟨rfl, rfl⟩; generalize around c 40 = z at *))
  obtain ⟨e1, e2, e3⟩ := HG.out
  rw [e1, e2, e3]
  have hb : ((w.alloc (.cells #[.int .i64 a, .int .i64 b, .int .i64 c] 24)).alloc (.cells #[.int .i64 (1 + x), .int .i64 (1 + x + y), .int .i64 (1 + x + y + z)] 24)).heap[w.heap.size + 1]? = some (.cells #[.int .i64 (1 + x), .int .i64 (1 + x + y), .int .i64 (1 + x + y + z)] 24 (0, 0)) := by
    rw [show w.heap.size + 1 = (w.alloc (.cells #[.int .i64 a, .int .i64 b, .int .i64 c] 24)).heap.size by simp]
    exact blk_new _ _
  exact bodyPost_ret (results_cell1 rfl _ _ (w.heap.size + 1) _ _ _ _ rfl hb Tryd.underlying24 rfl (by kernel_rfl)) rfl ⟨rfl, below_alloc (below_alloc (Below.refl _ w) _) _⟩
end Go.Proofs.YtdfahblgnbdndaaDoor
namespace Go.Proofs.YtdfahblgnbdndaaDoor
open Go.RowKit Go.Proofs.YtdfahblgnbdndaaDoorW.PrintWords Go.Proofs.YtdfahblgnbdndaaDoorW.PrintMore
set_option linter.unusedVariables false
set_option linter.unusedSimpArgs false
/-- A row of slices of one's own, from base on. -/
abbrev OwT (w : World) (base : Nat) (v : Value) (xs : List S3) : Prop := KS.R 33 w base (fun _ => True) v xs
section
variable {ops : Array Oper} {rest : List Oper} {o : Oper} {a : Act} {Q : Exit → Act → World → Prop}
end
/-- Chunks that are read. -/
def ChR (w : World) (L : List (S3 × List Int)) : Prop := ∀ p ∈ L, RdB w p.1.1 p.2.length p.2 ∧ p.1.2.1 = p.2.length ∧ p.2.length ≤ p.1.2.2 ∧ Bytes p.2
theorem ChR.nil (w : World) : ChR w [] := fun _ h => absurd h List.not_mem_nil
theorem ChR.below {w w1 : World} {L : List (S3 × List Int)} (h : ChR w L) (k : Below w.heap.size w w1) : ChR w1 L := fun p hp => ⟨Kd.C_below (h p hp).1 k, (h p hp).2⟩
theorem ChR.snoc {w : World} {L : List (S3 × List Int)} (h : ChR w L) {A : Option Addr} {c : Nat} {X : List Int} (hr : RdB w A X.length X) (hc : X.length ≤ c) (hb : Bytes X) : ChR w (L ++ [((A, X.length, c), X)]) := fun p hp => by
  rcases List.mem_append.1 hp with hp | hp
  · exact h p hp
  · rw [List.mem_singleton.1 hp]
    exact ⟨hr, rfl, hc, hb⟩
def sN (v : Value) : Nat := match v with
  | .slice _ n _ => n
  | _ => 0
theorem al_nil (mn mx p : Nat) : al mn mx p [] [] = [] := by unfold al wrL; simp
def Pc (a b c : Nat) : Array Value := #[.int .i64 (a : Int), .int .i64 (b : Int), .int .i64 (c : Int)]
theorem pm_cells {w : World} {g : Nat} {a b c : Int} {t : TypeId} {fr : Nat × Nat} (h : w.heap[g]? = some (.cells #[.int .i64 a, .int .i64 b, .int .i64 c] t fr)) :
    w.cell? ⟨g, 0, none⟩ = some (.int .i64 a) ∧ w.cell? ⟨g, 1, none⟩ = some (.int .i64 b) ∧ w.cell? ⟨g, 2, none⟩ = some (.int .i64 c) := by
  refine ⟨?_, ?_, ?_⟩ <;> (unfold World.cell?; rw [show (⟨g, _, none⟩ : Addr).block = g from rfl, h]; rfl)
/-- What goes along in lighterageref10.Chunks. -/
structure PcI (w1 : World) (mn mx p : Nat) (xs rest : List Int) (A : Option Addr) (c : Nat) (L : List (S3 × List Int)) (vo : Value) (wr : World) : Prop where
  rd : RdB w1 A rest.length rest
  le : rest.length ≤ c
  by_ : Bytes rest
  ln : L.length + rest.length ≤ xs.length
  out : OwT wr w1.heap.size vo (L.map (·.1))
  ch : ChR w1 L
  eq : L.map (·.2) ++ al mn mx p [] rest = al mn mx p [] xs
  below : Later w1 wr
end Go.Proofs.YtdfahblgnbdndaaDoor
namespace Go.Proofs.YtdfahblgnbdndaaDoor
open Go.RowKit Go.Proofs.YtdfahblgnbdndaaDoorW.PrintWords Go.Proofs.YtdfahblgnbdndaaDoorW.PrintMore
set_option linter.unusedVariables false
set_option linter.unusedSimpArgs false
/-- Rows of rows of bytes. -/
abbrev KL : Kd (List Int) := Kd.slice 5 (Kd.int .u8)
def Cc (a b c m : Int) (gr : Nat) (v : Value) : Array Value := #[.int .i64 a, .int .i64 b, .int .i64 c, .int .u32 m, .pointer (some ⟨gr, 0, none⟩), v]
/-- A cutter: its block, its roll, what was not told yet. -/
structure CSt (B0 g gr a b c : Nat) (cur : List Int) (v : Value) (w : World) : Prop where
  blk : w.heap[g]? = some (.cells #[.int .i64 (a : Int), .int .i64 (b : Int), .int .i64 (c : Int), .int .u32 ((pw b - 1 : Nat) : Int), .pointer (some ⟨gr, 0, none⟩), v] 140 (0, 0))
  roll : RSt w gr cur
  own : OwB w B0 v cur
  by_ : Bytes cur
  hg : B0 ≤ g
  hr : B0 ≤ gr
theorem CSt.typed {B0 g gr a b c : Nat} {cur : List Int} {v : Value} {w : World} (h : CSt B0 g gr a b c cur v w) : ∃ cs, w.heap[gr]? = some (.cells cs 169 (0, 0)) := by
  obtain ⟨d, ls, la, hB, _⟩ := h.roll
  exact ⟨_, hB⟩
theorem CSt.ne {B0 g gr a b c : Nat} {cur : List Int} {v : Value} {w : World} (h : CSt B0 g gr a b c cur v w) : g ≠ gr := by
  obtain ⟨cs, hr⟩ := h.typed
  exact blk_ne h.blk hr (by decide)
theorem CSt.cells {B0 g gr a b c : Nat} {cur : List Int} {v : Value} {w : World} (h : CSt B0 g gr a b c cur v w) :
    w.cell? ⟨g, 0, none⟩ = some (.int .i64 (a : Int)) ∧ w.cell? ⟨g, 2, none⟩ = some (.int .i64 (c : Int)) ∧ w.cell? ⟨g, 3, none⟩ = some (.int .u32 ((pw b - 1 : Nat) : Int)) ∧ w.cell? ⟨g, 4, none⟩ = some (.pointer (some ⟨gr, 0, none⟩)) ∧ w.cell? ⟨g, 5, none⟩ = some v ∧ w.frozen? ⟨g, 5, none⟩ = false := by
  refine ⟨?_, ?_, ?_, ?_, ?_, blk_frozen h.blk 5⟩ <;> (rw [blk_cell h.blk]; rfl)
theorem CSt.setB {B0 g gr a b c : Nat} {cur : List Int} {v : Value} {w : World} (h : CSt B0 g gr a b c cur v w) {v1 : Value} {w1 : World} {cur1 : List Int} (hb : w1.heap[g]? = w.heap[g]?) (hr : RSt w1 gr cur1) (ho : OwB w1 B0 v1 cur1) (hby : Bytes cur1) : CSt B0 g gr a b c cur1 v1 (w1.setCell ⟨g, 5, none⟩ v1) := by
  have h1 := hb.trans h.blk
  have hne := h.ne
  refine ⟨blk_set h1 5 v1, hr.move (Below.heap_setCell w1 ⟨g, 5, none⟩ v1 gr (Ne.symm hne)), ?_, hby, h.hg, h.hr⟩
  exact Kd.R_set ho h1 (by decide) 5 v1
theorem CSt.below {B0 g gr a b c : Nat} {cur : List Int} {v : Value} {w w1 : World} (h : CSt B0 g gr a b c cur v w) (k : Below w.heap.size w w1) : CSt B0 g gr a b c cur v w1 :=
  ⟨Later.heap k h.blk, h.roll.below k, OwB.below h.own k, h.by_, h.hg, h.hr⟩
theorem OwB.setTyped {w w1 : World} {B0 g t : Nat} {v : Value} {xs : List Int} {cs : Array Value} {o : Obj} (h : OwB w B0 v xs) (hb : w.heap[g]? = some (.cells cs t (0, 0))) (ht : 5 ≠ t) (hS : SetBlk w w1 g o) : OwB w1 B0 v xs :=
  Kd.R_mono (Kd.R_step (Kd.R_types h hb (fun q hq => by rcases List.mem_cons.1 hq with rfl | hq; exact ht; cases hq)) (fun k hk _ => hS.else_ k hk.2)) (fun _ hk => hk.1)
theorem end_calls (B0 g gr a b c : Nat) (cur : List Int) (v : Value) (w : World) (h : CSt B0 g gr a b c cur v w) :
    Calls Tryd.prog 77 #[.pointer (some ⟨g, 0, none⟩)] w fun e w' => e = .returned v ∧ CSt B0 g gr a b c [] (.slice none 0 0) w' ∧ OwB w' B0 v cur ∧ Fr w w' (fun k => k = g ∨ k = gr) := by
  obtain ⟨c0, c2, c3, c4, c5, f5⟩ := h.cells
  obtain ⟨A, d, rfl, _, _⟩ := h.own.reads
  have HS := Aside0.mk h
  have hne := h.ne
  have HR5 : Aside0 (RSt (w.setCell ⟨g, 5, none⟩ (.slice none 0 0)) gr cur) := ⟨h.roll.move (Below.heap_setCell w ⟨g, 5, none⟩ _ gr (Ne.symm hne))⟩
  clear h hne
  go_enter Tryd.func77, Tryd.ntmps77
  go_wp2_with (go_at_call 101; refine (reset_calls gr cur _ HR5.out).mono ?_; rintro e w1 ⟨rfl, hR, o, hS⟩; have HR := Aside0.mk hR; have HSB := Aside0.mk hS; clear hR hS)
  (try simp only [Exit.inBlock, Exit.then])
  have hne := HS.out.ne
  obtain ⟨cs, hrt⟩ := HS.out.typed
  have hb5 := blk_set HS.out.blk 5 (.slice none 0 0)
  have hr5 := blk_far (p := ⟨g, 5, none⟩) hrt (Ne.symm hne) (.slice none 0 0)
  refine bodyPost_ret (results_tmp rfl _ _ _) rfl ⟨rfl, ⟨(HSB.out.else_ g hne).trans hb5, HR.out, Kd.R_nil _ _ _ _ _, Bytes.nil, HS.out.hg, HS.out.hr⟩, ?_, ?_⟩
  · exact OwB.setTyped (Kd.R_set HS.out.own HS.out.blk (by decide) 5 _) hr5 (by decide) HSB.out
  · exact ((Fr.refl w _).set (setBlk_cell HS.out.blk _) (.inl (.inl rfl))).set HSB.out (.inl (.inr rfl))
theorem built_c (a b c m : Int) (gr : Nat) : Tryd.prog.built 140 [(0, .agg #[.int .i64 a, .int .i64 b, .int .i64 c]), (1, .int .u32 m), (2, .pointer (some ⟨gr, 0, none⟩))] = some #[.int .i64 a, .int .i64 b, .int .i64 c, .int .u32 m, .pointer (some ⟨gr, 0, none⟩), .slice none 0 0] := by kernel_rfl
set_option maxRecDepth 20000 in
theorem cnew_ok (a b c : Nat) (w : World) (h : mayB a b c = true) :
    Calls Tryd.prog 75 #[.agg #[.int .i64 a, .int .i64 b, .int .i64 c]] w fun e w' => ∃ g gr, e = .returned (.tuple #[.pointer (some ⟨g, 0, none⟩), .int .i64 0]) ∧ CSt w.heap.size g gr a b c [] (.slice none 0 0) w' ∧ Below w.heap.size w w' := by
  have HM := Aside0.mk h
  clear h
  go_enter Tryd.func75, Tryd.ntmps75
  go_wp2_with (go_at_call 40; refine (may_calls a b c _).mono ?_; rw [HM.out]; rintro e w1 ⟨rfl, hB⟩; have HB1 : Aside0 (Below w.heap.size w w1) := ⟨Below.trans (below_alloc (Below.refl _ w) _) (hB.mono (by simp))⟩; have HBX := Aside0.mk (Later.heap hB (blk_new w (.cells #[.int .i64 (a : Int), .int .i64 (b : Int), .int .i64 (c : Int)] 24))); clear hB)
  have HBD : Aside0 (w1.drew.heap[w.heap.size]? = some (.cells #[.int .i64 (a : Int), .int .i64 (b : Int), .int .i64 (c : Int)] 24 (0, 0))) := ⟨HBX.out⟩
  refine seq_start [] (.take 0 (.take 1 (.run 2 (.run 3 (.take 4 (.run 5 (.take 6 (.take 7 .done)))))))) (by kernel_rfl) (by kernel_rfl) (fun _ _ d _ _ h => by cases d <;> exact h) ?_
  refine seq_take (v := ?_) (a' := ?_) rfl rfl (by rfl) (fun w' hw' => ?_) ?_ ?_
  rotate_left 2
  · obtain ⟨q0, q1, q2⟩ := pm_cells (Later.heap hw' HBD.out); go_simp
    with_reducible rfl
  · simp only [Act.put, List.setIfInBounds_toArray, List.set_cons_zero, List.set_cons_succ, Go.Proofs.YtdfahblgnbdndaaDoorW.PrintLast.i64_w, Go.Proofs.YtdfahblgnbdndaaDoorW.PrintLast.i32_w]
    rfl
  refine seq_take (v := ?_) (a' := ?_) rfl rfl (by rfl) (fun w' hw' => ?_) ?_ ?_
  rotate_left 2
  · obtain ⟨q0, q1, q2⟩ := pm_cells (Later.heap hw' HBD.out); go_simp
    with_reducible rfl
  · simp only [Act.put, List.setIfInBounds_toArray, List.set_cons_zero, List.set_cons_succ, Go.Proofs.YtdfahblgnbdndaaDoorW.PrintLast.i64_w, Go.Proofs.YtdfahblgnbdndaaDoorW.PrintLast.i32_w]
    rfl
  refine seq_run ?_
  refine do_call rfl rfl (by rfl) rfl Tryd.func98 (by kernel_rfl) rfl #[.agg #[.int .i64 (a : Int), .int .i64 (b : Int), .int .i64 (c : Int)]] (by simp only [List.map_toArray, List.map_cons, List.map_nil]; rfl) ?_
  with_reducible refine (mask_calls a b c _ HM.out).mono ?_
  rintro e w2 ⟨rfl, hB2⟩
  refine ⟨_, ?_, rfl, ?_, fun _ => hB2, ?_⟩
  rotate_left
  · simp only [Act.put, List.setIfInBounds_toArray, List.set_cons_zero, List.set_cons_succ, Go.Proofs.YtdfahblgnbdndaaDoorW.PrintLast.i64_w, Go.Proofs.YtdfahblgnbdndaaDoorW.PrintLast.i32_w]
    rfl
  have HB2 : Aside0 (Later w1.drew w2) := ⟨hB2⟩
  clear hB2
  refine seq_run ?_
  refine do_call rfl rfl (by rfl) rfl Tryd.func99 (by kernel_rfl) rfl #[] (by simp only [List.map_toArray, List.map_nil]) ?_
  with_reducible refine (rnew_calls _).mono ?_
  rintro e w3 ⟨rfl, hR3, hB3, hs3⟩
  refine ⟨_, ?_, rfl, ?_, fun _ => hB3, ?_⟩
  rotate_left
  · simp only [Act.put, List.setIfInBounds_toArray, List.set_cons_zero, List.set_cons_succ, Go.Proofs.YtdfahblgnbdndaaDoorW.PrintLast.i64_w, Go.Proofs.YtdfahblgnbdndaaDoorW.PrintLast.i32_w]
    rfl
  have HR3 := Aside0.mk hR3
  have HB3 : Aside0 (Later w2 w3) := ⟨hB3⟩
  clear hR3 hB3
  have hbuilt := built_c a b c ((pw b - 1 : Nat) : Int) w2.heap.size
  refine seq_take (v := _) (a' := ?_) rfl rfl (by rfl) (fun w' hw' => build_run 140 #[(0, .tmp 7), (1, .tmp 9), (2, .tmp 10)] rfl hbuilt) ?_ ?_
  rotate_left
  · simp only [Act.put, List.setIfInBounds_toArray, List.set_cons_zero, List.set_cons_succ, Go.Proofs.YtdfahblgnbdndaaDoorW.PrintLast.i64_w, Go.Proofs.YtdfahblgnbdndaaDoorW.PrintLast.i32_w]
    rfl
  refine seq_run ?_
  refine do_val (v := ?_) (a' := ?_) (w1 := ?_) rfl rfl (by rfl) ?_ ?_ ?_
  rotate_left 3
  · go_simp
    constructor <;> rfl
  · simp only [Act.put, List.setIfInBounds_toArray, List.set_cons_zero, List.set_cons_succ, Go.Proofs.YtdfahblgnbdndaaDoorW.PrintLast.i64_w, Go.Proofs.YtdfahblgnbdndaaDoorW.PrintLast.i32_w]
    rfl
  refine ⟨fun _ => below_alloc (Below.refl _ _) _, ?_⟩
  refine seq_take (v := ?_) (a' := ?_) rfl rfl (by rfl) (fun w' hw' => ?_) ?_ ?_
  rotate_left 2
  · go_simp
    with_reducible rfl
  · simp only [Act.put, List.setIfInBounds_toArray, List.set_cons_zero, List.set_cons_succ, Go.Proofs.YtdfahblgnbdndaaDoorW.PrintLast.i64_w, Go.Proofs.YtdfahblgnbdndaaDoorW.PrintLast.i32_w]
    rfl
  refine seq_take (v := ?_) (a' := ?_) rfl rfl (by rfl) (fun w' hw' => ?_) ?_ ?_
  rotate_left 2
  · go_simp
    with_reducible rfl
  · simp only [Act.put, List.setIfInBounds_toArray, List.set_cons_zero, List.set_cons_succ, Go.Proofs.YtdfahblgnbdndaaDoorW.PrintLast.i64_w, Go.Proofs.YtdfahblgnbdndaaDoorW.PrintLast.i32_w]
    rfl
  refine seq_end ?_
  go_wp2
  (try simp only [Exit.inBlock, Exit.then])
  have HN := blk_new w3 (.cells #[.int .i64 (a : Int), .int .i64 (b : Int), .int .i64 (c : Int), .int .u32 ((pw b - 1 : Nat) : Int), .pointer (some ⟨w2.heap.size, 0, none⟩), .slice none 0 0] 140)
  have B2 : Below w.heap.size w w2 := below_tr HB1.out (Later.trans (Below.drew (Later.refl w1)) HB2.out) HB1.out.size
  have B3 := below_tr B2 HB3.out B2.size
  have B3s := B3.size
  rw [hs3] at HN B3s
  exact bodyPost_ret (results_tmp2 rfl _ _ _) rfl ⟨w2.heap.size + 1, w2.heap.size, rfl, ⟨HN, HR3.out.below (below_alloc (Below.refl _ _) _), Kd.R_nil _ _ _ _ _, Bytes.nil, B3s, B2.size⟩, below_alloc B3 _⟩
end Go.Proofs.YtdfahblgnbdndaaDoor
