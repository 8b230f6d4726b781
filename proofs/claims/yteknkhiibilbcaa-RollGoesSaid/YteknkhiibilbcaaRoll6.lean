/- Contracts: roll.Word, Hash; lighterageref04's Word, Words, left, Over, Hash. Conditions: each contract's own. -/
import Derived.Test.YteknkhiibilbcaaRoll5
import Derived.Test.YteknkhiibilbcaaRowsOf
namespace Go.Proofs.Yteknkhiibilbcaa
open Go.RowKit Go.Proofs.YteknkhiibilbcaaW.PrintWords Go.Proofs.YteknkhiibilbcaaW.PrintMore
set_option linter.unusedVariables false
set_option linter.unusedSimpArgs false
section
variable {P : Program} {ops : Array Oper} {rest : List Oper} {o : Oper} {a : Act} {Q : Exit → Act → World → Prop} {w : World}
theorem at_alr {d : Option Tmp} {ty0 : TypeId} {ps : String} {af : Array Edge} (ty : TypeId) (h : wpList P ops Q ({ dst := d, op := .alloc ty, type := ty0, pos := ps, after := af, guard := none } :: rest) a w) : wpList P ops Q ({ dst := d, op := .alloc ty, type := ty0, pos := ps, after := af, guard := none } :: rest) a w := h
theorem alloc_arm (hgd : o.guard = none) {N : Tmp} (hd : o.dst = some N) (t : TypeId) (ho : o.op = .alloc t) {C : Array Value} (hC : (P.info? t).bind (fun i => i.zero.map (·.cells)) = some C)
    (h : wpList P ops Q rest (a.put (some N) (.pointer (some ⟨w.heap.size, 0, none⟩))) (w.alloc (.cells C t))) : wpList P ops Q (o :: rest) a w := by
  refine wpList_plain hgd fun K hK => ?_
  unfold Oper.wp
  obtain ⟨i, hi, hz⟩ := Option.bind_eq_some_iff.1 hC
  obtain ⟨z, hz2, rfl⟩ := Option.map_eq_some_iff.1 hz
  have hr : (execOp a.eval o).run P w = .ok (.value (.pointer (some ⟨w.heap.size, 0, none⟩))) (w.alloc (.cells z.cells t)) := by
    unfold execOp
    simp only [ho, Sem.run_bind, alloc_run hi hz2, Result.andThen_ok, Sem.run_pure]
  rw [hr]
  refine hK _ _ ?_
  rw [hd]
  exact h
end
set_option maxRecDepth 20000 in
theorem zero_wd : (Try.prog.info? 53).bind (fun i => i.zero.map (·.cells)) = some (Oc 0 0 (List.replicate 256 0) []).toArray := by kernel_rfl
theorem rword_calls (c : Int) (w : World) (h0 : 0 ≤ c) (h1 : c < 256) : Calls Try.prog 9 #[.int .u8 c] w fun e w' => e = .returned (.int .u32 (bword c)) ∧ Below w.heap.size w w' := by
  obtain ⟨C, hC, hb⟩ : ∃ C, Aside0 (C = (Oc 0 0 (List.replicate 256 0) []).toArray) ∧ (Try.prog.info? 53).bind (fun i => i.zero.map (·.cells)) = some C := ⟨_, ⟨rfl⟩, zero_wd⟩
  have HB := Aside0.mk hb
  have HG : Aside0 (Wd (w.alloc (.cells C 53)) w.heap.size 53 []) := ⟨0, List.replicate 256 0, by rw [← hC.out]; exact blk_new w _, List.length_replicate, .inl rfl⟩
  clear hb
  go_enter Try.func9, Try.ntmps9
  go_wp2_with (first
    | ((with_reducible refine at_alr 53 ?_); refine alloc_arm rfl rfl 53 rfl HB.out ?_)
    | (go_at_call 23; refine (of_calls w.heap.size 53 [] c _ HG.out h0 h1).mono ?_; rintro e w1 ⟨rfl, hS1⟩; have HS1 := Aside0.mk hS1; clear hS1))
  go_ret
  exact ⟨rfl, ((Below.refl _ _).alloc (Nat.le_refl _) _).trans (HS1.out.below (Nat.le_refl _))⟩
theorem take_snoc_ {xs : List Int} {k : Nat} (h : k < xs.length) : xs.take (k + 1) = xs.take k ++ [rd xs k] := by
  unfold Go.Proofs.YteknkhiibilbcaaW.PrintWords.rd
  rw [Int.toNat_natCast, List.take_add_one, List.getD_eq_getElem?_getD, List.getElem?_eq_getElem h]
  rfl
def HashInv (w : World) (g : Nat) (xs : List Int) (i : Value) (wr : World) : Prop := ∃ k : Nat, k ≤ xs.length ∧ i = .int .i64 k ∧ RSt wr g (xs.take k) ∧ Below w.heap.size w wr
set_option maxRecDepth 20000 in
theorem rhash_calls (A : Option Addr) (n c : Nat) (xs : List Int) (w : World) (h : RdB w A n xs) (hb : Bytes xs) (hn : n ≤ 1099511627776) :
    Calls Try.prog 11 #[.slice A n c] w fun e w' => e = .returned (.int .u32 (hov xs)) ∧ Below w.heap.size w w' := by
  have HX := Aside0.mk h
  obtain rfl : xs.length = n := h.1
  have hmax := h.2.1
  clear h
  go_enter Try.func11, Try.ntmps11
  go_wp2_with (first
    | (go_at_call 17; refine (rnew_calls w).mono ?_; rintro e w1 ⟨rfl, hR1, hB1, hs1⟩; have HR1 := Aside0.mk hR1; have HB1 := Aside0.mk hB1; clear hR1 hB1 hs1))
  go_loopw [9] (fun i wr => HashInv w w.heap.size xs i wr) (fun i _ => xs.length - (intOf i).toNat)
  case atStart => exact ⟨0, by omega, rfl, HR1.out, HB1.out⟩
  case round =>
    obtain ⟨k, hk, rfl, hR, hB⟩ := hrel
    have HR := Aside0.mk hR
    have HB := Aside0.mk hB
    clear hR hB
    by_cases hlt : k < xs.length
    · obtain ⟨ad, ea⟩ : ∃ ad, A = some ad := by obtain ⟨ad, e, _⟩ := Kd.at_int HX.out 0 (by omega) (by omega); exact ⟨ad, e⟩
      subst ea
      have hcell := rdB_at (Kd.C_below HX.out HB.out) k hlt
      have hby := hb.at_ (k : Int)
      have HT : Aside0 (xs.take (k + 1) = xs.take k ++ [rd xs k]) := ⟨take_snoc_ hlt⟩
      generalize rd xs k = x at *
      go_wp2_with (first
        | (go_at_call 18; refine (add_calls w.heap.size (xs.take k) x wr HR.out (by rw [List.length_take]; omega) hby.1 hby.2).mono ?_; rintro e w2 ⟨rfl, hR2, o2, hS2⟩; have HR2 := Aside0.mk hR2; have HB2 := Aside0.mk (HB.out.trans (hS2.below (Nat.le_refl _))); clear hR2 hS2))
      go_roundw
      case rel => exact ⟨k + 1, by omega, by go_num, by rw [HT.out]; exact HR2.out, HB2.out⟩
      case measure => simp [intOf]; omega
    · obtain rfl : k = xs.length := by omega
      have hR' := HR.out
      rw [List.take_of_length_le (Nat.le_refl _)] at hR'
      have HR' := Aside0.mk hR'
      clear hR'
      go_wp2_with (first
        | (go_at_call 19; refine (rsum_calls w.heap.size xs wr HR'.out).mono ?_; rintro e w2 ⟨rfl, rfl⟩))
      go_ret
      exact ⟨rfl, HB.out⟩
theorem wst_div (x : Int) (h : 0 ≤ x ∧ x < 4294967296) : Go.bits .xor .u32 (Go.bits .xor .u32 (Go.bits .xor .u32 x (x * 8192 % 4294967296)) ((Go.bits .xor .u32 x (x * 8192 % 4294967296)).tdiv 131072 % 4294967296)) (Go.bits .xor .u32 (Go.bits .xor .u32 x (x * 8192 % 4294967296)) ((Go.bits .xor .u32 x (x * 8192 % 4294967296)).tdiv 131072 % 4294967296) * 32 % 4294967296) = wst x := by
  have h1 := xs1_range h
  have e : (Go.bits .xor .u32 x (x * 8192 % 4294967296)).tdiv 131072 % 4294967296 = Go.bits .xor .u32 x (x * 8192 % 4294967296) / 131072 := by
    have h2 : 0 ≤ Go.bits .xor .u32 x (x * 8192 % 4294967296) ∧ Go.bits .xor .u32 x (x * 8192 % 4294967296) < 4294967296 := h1
    rw [Int.tdiv_eq_ediv_of_nonneg h2.1]
    omega
  rw [e]
  rfl
set_option maxRecDepth 20000 in
/-- lighterageref04.Word. -/
theorem pword_calls (c : Int) (w : World) (h0 : 0 ≤ c) (h1 : c < 256) : Calls Try.prog 10 #[.int .u8 c] w fun e w' => e = .returned (.int .u32 (bword c)) ∧ w = w' := by
  obtain ⟨c, rfl⟩ := Int.eq_ofNat_of_zero_le h0
  have hcw : IntKind.i64.wrap (c : Int) = c := by rw [IntKind.wrap_i64]; omega
  go_enter Try.func10, Try.ntmps10
  go_wp2
  go_loopw [3, 4] (fun x i wr => ∃ k : Nat, k ≤ c + 1 ∧ i = .int .i64 k ∧ x = .int .u32 (wseq k) ∧ w = wr) (fun _ i _ => c + 1 - (intOf i).toNat)
  case atStart => exact ⟨0, by omega, rfl, rfl, rfl⟩
  case round =>
    obtain ⟨k, hk, rfl, rfl, rfl⟩ := hrel
    by_cases hlt : k ≤ c
    · have hltI : (k : Int) ≤ c := by omega
      have hx := wseq_range k
      have HW : Aside0 (wst (wseq k) = wseq (k + 1)) := ⟨rfl⟩
      generalize wseq k = x at *
      go_wp2
      go_roundw
      case rel => exact ⟨k + 1, by omega, by go_num, by rw [wst_div x hx, HW.out], trivial⟩
      case measure => simp [intOf]; omega
    · obtain rfl : k = c + 1 := by omega
      have hltI : ¬ ((c + 1 : Nat) : Int) ≤ c := by omega
      go_wp2
      go_ret
      exact ⟨rfl, rfl⟩
end Go.Proofs.Yteknkhiibilbcaa
