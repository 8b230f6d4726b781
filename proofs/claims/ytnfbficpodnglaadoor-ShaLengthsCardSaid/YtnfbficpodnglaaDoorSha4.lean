/- Words for sha's states: rows that begin inside a block, what a call leaves alone, a state's fields. Plain lemmas. -/
import Derived.Test.YtnfbficpodnglaaDoorSha3
import Derived.Test.YtnfbficpodnglaaDoorShaRef4
import Derived.Deep.Upon
namespace Go.Proofs.YtnfbficpodnglaaDoor
open Go.RowKit Go.Proofs.YtnfbficpodnglaaDoorW.PrintWords Go.Proofs.YtnfbficpodnglaaDoorW.PrintMore
set_option linter.unusedVariables false
set_option linter.unusedSimpArgs false
def QB (w : World) (base : Nat) (v : Value) (xs : List Int) : Prop := QRow w base 5 1 v xs.length (xs.map (Value.int .u8))
theorem QB.reads {w : World} {base : Nat} {v : Value} {xs : List Int} (h : QB w base v xs) : ∃ A c, v = .slice A xs.length c ∧ xs.length ≤ c ∧ RdB w A xs.length xs := by
  obtain ⟨A, c, rfl, hc⟩ := q_slice h
  refine ⟨A, c, rfl, hc, Kd.C_of_reads (d := (0 : Int)) ⟨rfl, q_max h, fun hp => ?_⟩⟩
  obtain ⟨ad, e, hx⟩ := q_cells h hp
  refine ⟨ad, e, fun j hj => ?_⟩
  have := hx j (.int .u8 (xs[j]'hj)) (by rw [List.getElem?_map, List.getElem?_eq_getElem hj]; rfl)
  rw [this, List.getD_eq_getElem?_getD, List.getElem?_eq_getElem hj]
  rfl
theorem QB.own {w : World} {base : Nat} {v : Value} {xs : List Int} (h : OwB w base v xs) : QB w base v xs := q_of_own (Kd.own_of_R h)
theorem QB.move {w w1 : World} {base : Nat} {v : Value} {xs : List Int} (h : QB w base v xs) (hm : ∀ k, v.ownBlock = some k → w1.heap[k]? = w.heap[k]?) : QB w1 base v xs := q_move h hm
theorem QB.lt {w : World} {base : Nat} {v : Value} {xs : List Int} (h : QB w base v xs) (k : Nat) (hk : v.ownBlock = some k) : k < w.heap.size := q_lt h k hk
theorem QB.ge {w : World} {base : Nat} {v : Value} {xs : List Int} (h : QB w base v xs) (k : Nat) (hk : v.ownBlock = some k) : base ≤ k := (q_typed h k hk).1
theorem QB.below {w w1 : World} {base : Nat} {v : Value} {xs : List Int} (h : QB w base v xs) (hb : Below w.heap.size w w1) : QB w1 base v xs := h.move fun k hk => hb.block k (h.lt k hk)
theorem QB.lower {w : World} {base base' : Nat} {v : Value} {xs : List Int} (h : QB w base v xs) (hb : base' ≤ base) : QB w base' v xs := q_lower h hb
theorem QB.nil (w : World) (base : Nat) : QB w base (.slice none 0 0) [] := QB.own (Kd.R_nil _ _ _ _ _)
/-- b[64:] of such a row. -/
theorem QB.drop {w : World} {base n c : Nat} {A : Option Addr} {xs : List Int} (h : QB w base (.slice A n c) xs) (hn : n = xs.length) (k : Nat) (hk : k ≤ xs.length) :
    ∃ B, (∀ W : World, (Instr.slice 22 (.slice A n c) (some (.int .i64 k)) none none).run Tryd.prog W = .ok (.slice B (n - k) (c - k)) W) ∧ QB w base (.slice B (n - k) (c - k)) (xs.drop k) ∧ (Value.slice B (n - k) (c - k)).ownBlock = (Value.slice A n c).ownBlock := by
  obtain ⟨i0, hi, _, hsz, _⟩ := info_parts infoB
  subst hn
  refine ⟨if c = k then A else A.map (·.add k), fun W => ?_, ?_, ?_⟩
  · have := cut_from (P := Tryd.prog) 22 5 .i64 Tryd.underlying22 hi 1 hsz A xs.length c (k : Int) (by omega) (by omega) W
    rw [Int.toNat_natCast, Nat.mul_one] at this
    exact this
  · have := q_drop h hk
    unfold QB
    rw [List.map_drop, List.length_drop]
    rw [Nat.mul_one] at this
    exact this
  · split
    · cases A <;> rfl
    · cases A with
      | none => rfl
      | some a => simp [Value.ownBlock, Addr.add]; split <;> rfl
theorem QB.typed {w : World} {base : Nat} {v : Value} {xs : List Int} (h : QB w base v xs) {g T : Nat} {cs : Array Value} (hg : w.heap[g]? = some (.cells cs T (0, 0))) (hT : T ≠ 5) : v.ownBlock ≠ some g := fun e => by
  obtain ⟨_, cells, hc⟩ := q_typed h g e
  rw [hg] at hc
  injection hc with hc
  injection hc with _ h2
  exact hT h2
section
variable {ops : Array Oper} {rest : List Oper} {o : Oper} {a : Act} {Q : Exit → Act → World → Prop}
/-- append(q, ys...): a row that may begin inside its block. -/
theorem appQ {W : World} (base : Nat) (hgd : o.guard = none) (s x : Operand)
    (ho : o.op = .call { callee := .builtin .append, args := #[s, x], argTypes := #[22, 22] })
    (v : Value) (xs ys : List Int) (A : Option Addr) (m c : Nat) (hs : a.eval s = v) (hx : a.eval x = .slice A m c)
    (HO : QB W base v xs) (HR : RdB W A m ys) (hbase : base ≤ W.heap.size) (hl : xs.length + m ≤ 140737488355328)
    (h : ∀ v1 w1, QB w1 base v1 (xs ++ ys) → W.grownBy w1 v.ownBlock → (v1.ownBlock = v.ownBlock ∨ ∃ b, v1.ownBlock = some b ∧ W.heap.size ≤ b) → wpList Tryd.prog ops Q rest (a.put o.dst v1) w1) :
    wpList Tryd.prog ops Q (o :: rest) a W := by
  obtain ⟨i0, hi, hz0, hsz, hby⟩ := info_parts infoB
  have hr := Kd.reads_of_C (d := (0 : Int)) HR
  have key : ∃ v1 w1, (Builtin.append_ #[22, 22] o.type #[v, .slice A m c]).run Tryd.prog W = .ok v1 w1 ∧ QB w1 base v1 (xs ++ ys) ∧ W.grownBy w1 v.ownBlock ∧ (v1.ownBlock = v.ownBlock ∨ ∃ b, v1.ownBlock = some b ∧ W.heap.size ≤ b) := by
    rcases Nat.eq_zero_or_pos m with h0 | h0
    · obtain rfl : ys = [] := List.eq_nil_of_length_eq_zero (by have := hr.1; omega)
      subst h0
      obtain ⟨A0, c0, rfl, hc0, _⟩ := HO.reads
      refine ⟨_, W, run_append_nothing W _ _ _ _ i0 Tryd.underlying22 hi A0 _ c0 hc0 _ ?_, by rw [List.append_nil]; exact HO, ⟨rfl, rfl, rfl, Nat.le_refl _, fun _ _ _ => rfl⟩, .inl rfl⟩
      cases A with
      | none => exact Src.ofNil W Tryd.underlying22 c
      | some ad => exact Src.ofSlice W Tryd.underlying22 ad 0 c [] (by simp) (fun j u hu => by simp at hu) (fun u hu => by simp at hu)
    · obtain ⟨ad, rfl, hc⟩ := hr.2.2 h0
      have hq := q_append (P := Tryd.prog) W base 22 o.type 5 i0 (.int .u8 0) 1 1 Tryd.underlying22 hi hz0 hsz hby rfl (by omega) v xs.length (xs.map (Value.int .u8)) HO ad m c (ys.map (Value.int .u8)) (by rw [List.length_map, hr.1, Nat.mul_one]) (fun j u hu => by
        rw [List.getElem?_map] at hu
        rcases hy : ys[j]? with _ | y
        · rw [hy] at hu; cases hu
        · rw [hy] at hu
          obtain rfl := Option.some.inj hu
          have hj := (List.getElem?_eq_some_iff.1 hy).1
          rw [hc j (by have := hr.1; omega), List.getD_eq_getElem?_getD, hy]
          rfl) (fun u hu => by obtain ⟨y, _, rfl⟩ := List.mem_map.1 hu; rfl) h0 (by simp only [maxLen]; omega) (by omega) hbase
      obtain ⟨v1, w1, h1, h2, h3, h4⟩ := hq
      refine ⟨v1, w1, h1, ?_, h3, h4⟩
      unfold QB
      rw [List.length_append, List.map_append, hr.1]
      exact h2
  obtain ⟨v1, w1, hrun, h2, h3, h4⟩ := key
  refine wpList_plain hgd fun K hK => ?_
  unfold Oper.wp execOp
  simp only [ho, resolve, invoke, builtin, Sem.run_bind, Sem.run_pure, Result.andThen_ok, List.map_toArray, List.map_cons, List.map_nil, hs, hx, hrun]
  exact hK _ _ (h v1 w1 h2 h3 h4)
end
/-- What a call leaves alone: all old blocks but those of S. -/
structure Fr (w w' : World) (S : Nat → Prop) : Prop where
  os : w'.os = w.os
  tape : w'.tape = w.tape
  output : w'.output = w.output
  size : w.heap.size ≤ w'.heap.size
  block : ∀ k, k < w.heap.size → ¬ S k → w'.heap[k]? = w.heap[k]?
theorem Fr.refl (w : World) (S : Nat → Prop) : Fr w w S := ⟨rfl, rfl, rfl, Nat.le_refl _, fun _ _ _ => rfl⟩
theorem Fr.call {w w1 w2 : World} {S : Nat → Prop} (h : Fr w w1 S) (k : Below w1.heap.size w1 w2) : Fr w w2 S :=
  ⟨k.os.trans h.os, k.tape.trans h.tape, k.output.trans h.output, Nat.le_trans h.size k.size, fun i hi hS => (k.block i (by have := h.size; omega)).trans (h.block i hi hS)⟩
theorem Fr.drew {w w1 : World} {S : Nat → Prop} (h : Fr w w1 S) : Fr w w1.drew S := h.call (Below.drew (Below.refl _ _))
theorem Fr.set {w w1 w2 : World} {S : Nat → Prop} {g : Nat} {o : Obj} (h : Fr w w1 S) (k : SetBlk w1 w2 g o) (hg : S g ∨ w.heap.size ≤ g) : Fr w w2 S := by
  have hb := k.below (Nat.le_refl g)
  refine ⟨hb.os.trans h.os, hb.tape.trans h.tape, hb.output.trans h.output, Nat.le_trans h.size hb.size, fun i hi hS => ?_⟩
  rw [k.else_ i (fun e => by subst e; exact hg.elim hS (fun hg => by omega)), h.block i hi hS]
theorem Fr.grown {w w1 w2 : World} {S : Nat → Prop} {r : Option Nat} (h : Fr w w1 S) (k : w1.grownBy w2 r) (hr : ∀ i, r = some i → S i ∨ w.heap.size ≤ i) : Fr w w2 S :=
  ⟨k.os.trans h.os, k.tape.trans h.tape, k.output.trans h.output, Nat.le_trans h.size k.size, fun i hi hS => (k.block i (by have := h.size; omega) (fun e => (hr i e.symm).elim hS (fun h1 => by omega))).trans (h.block i hi hS)⟩
theorem Fr.below {w w' : World} {S : Nat → Prop} {B : Nat} (h : Fr w w' S) (hS : ∀ k, S k → B ≤ k) (hB : B ≤ w.heap.size) : Below B w w' :=
  ⟨h.os, h.tape, h.output, h.size, fun k hk => h.block k (by omega) (fun hk2 => by have := hS k hk2; omega)⟩
theorem Fr.mono {w w' : World} {S T : Nat → Prop} (h : Fr w w' S) (hS : ∀ k, S k → T k) : Fr w w' T := ⟨h.os, h.tape, h.output, h.size, fun k hk hT => h.block k hk fun hs => hT (hS k hs)⟩
/-- A state's cells. -/
def Sc (h : List Int) (n : Int) (r : Value) : List Value := Us h ++ [.int .i64 n, r]
theorem Sc_len {h : List Int} {n : Int} {r : Value} (hh : h.length = 8) : (Sc h n r).length = 10 := by simp [Sc, Us_len, hh]
theorem sc8 {h : List Int} {n : Int} {r : Value} (hh : h.length = 8) : (Sc h n r).toArray[8]? = some (.int .i64 n) := by
  simp [Sc, List.getElem?_append_right, Us_len, hh]
theorem sc9 {h : List Int} {n : Int} {r : Value} (hh : h.length = 8) : (Sc h n r).toArray[9]? = some r := by
  simp [Sc, List.getElem?_append_right, Us_len, hh]
theorem sc_set8 {h : List Int} {n m : Int} {r : Value} (hh : h.length = 8) : (Sc h n r).toArray.setIfInBounds 8 (.int .i64 m) = (Sc h m r).toArray := by
  simp [Sc, List.set_append_right, Us_len, hh]
theorem sc_set9 {h : List Int} {n : Int} {r r' : Value} (hh : h.length = 8) : (Sc h n r).toArray.setIfInBounds 9 r' = (Sc h n r').toArray := by
  simp [Sc, List.set_append_right, Us_len, hh]
end Go.Proofs.YtnfbficpodnglaaDoor
