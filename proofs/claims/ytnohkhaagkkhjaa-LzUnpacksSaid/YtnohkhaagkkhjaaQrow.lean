/- Rows that begin inside a block: appended to, cut from the front. Plain lemmas. -/
import Derived.Test.YtnohkhaagkkhjaaFr
import Derived.Test.YtnohkhaagkkhjaaRegion
import Derived.Test.YtnohkhaagkkhjaaRd
import Derived.Deep.Upon
namespace Go.Proofs.Ytnohkhaagkkhjaa
open Go.RowKit Go.Proofs.YtnohkhaagkkhjaaW.PrintWords Go.Proofs.YtnohkhaagkkhjaaW.PrintMore
set_option linter.unusedVariables false
set_option linter.unusedSimpArgs false
def QB (w : World) (base : Nat) (v : Value) (xs : List Int) : Prop := QRow w base 5 1 v xs.length (xs.map (Value.int .u8))
theorem QB.reads {w : World} {base : Nat} {v : Value} {xs : List Int} (h : QB w base v xs) : ∃ A c, v = .slice A xs.length c ∧ xs.length ≤ c ∧ RdB w A xs.length xs := by
  obtain ⟨A, c, rfl, hc⟩ := q_slice h
  refine ⟨A, c, rfl, hc, Kd.C_of_reads (d := (0 : Int)) ⟨rfl, q_max h, fun hp => ?_⟩⟩
  obtain ⟨ad, e, hx⟩ := q_cells h hp
  refine ⟨ad, e, fun j hj => ?_⟩
  have := hx j (.int .u8 (xs[j]'hj)) (by rw [List.getElem?_map, List.getElem?_eq_getElem hj]; rfl)
  rw [this, List.getD_eq_getElem?_getD, List.getElem?_eq_getElem hj]
  rfl
theorem QB.own {w : World} {base : Nat} {v : Value} {xs : List Int} (h : OwB w base v xs) : QB w base v xs := q_of_own (Kd.own_of_R h)
theorem QB.move {w w1 : World} {base : Nat} {v : Value} {xs : List Int} (h : QB w base v xs) (hm : ∀ k, v.ownBlock = some k → w1.heap[k]? = w.heap[k]?) : QB w1 base v xs := q_move h hm
theorem QB.lt {w : World} {base : Nat} {v : Value} {xs : List Int} (h : QB w base v xs) (k : Nat) (hk : v.ownBlock = some k) : k < w.heap.size := q_lt h k hk
theorem QB.ge {w : World} {base : Nat} {v : Value} {xs : List Int} (h : QB w base v xs) (k : Nat) (hk : v.ownBlock = some k) : base ≤ k := (q_typed h k hk).1
theorem QB.below {w w1 : World} {base : Nat} {v : Value} {xs : List Int} (h : QB w base v xs) (hb : Below w.heap.size w w1) : QB w1 base v xs := h.move fun k hk => hb.block k (h.lt k hk)
theorem QB.lower {w : World} {base base' : Nat} {v : Value} {xs : List Int} (h : QB w base v xs) (hb : base' ≤ base) : QB w base' v xs := q_lower h hb
theorem QB.nil (w : World) (base : Nat) : QB w base (.slice none 0 0) [] := QB.own (Kd.R_nil _ _ _ _ _)
/-- b[64:] of such a row. -/
theorem QB.drop {w : World} {base n c : Nat} {A : Option Addr} {xs : List Int} (h : QB w base (.slice A n c) xs) (hn : n = xs.length) (k : Nat) (hk : k ≤ xs.length) :
    ∃ B, (∀ W : World, (Instr.slice 22 (.slice A n c) (some (.int .i64 k)) none none).run Try.prog W = .ok (.slice B (n - k) (c - k)) W) ∧ QB w base (.slice B (n - k) (c - k)) (xs.drop k) ∧ (Value.slice B (n - k) (c - k)).ownBlock = (Value.slice A n c).ownBlock := by
  obtain ⟨i0, hi, _, hsz, _⟩ := info_parts infoB
  subst hn
  refine ⟨if c = k then A else A.map (·.add k), fun W => ?_, ?_, ?_⟩
  · have := cut_from (P := Try.prog) 22 5 .i64 Try.underlying22 hi 1 hsz A xs.length c (k : Int) (by omega) (by omega) W
    rw [Int.toNat_natCast, Nat.mul_one] at this
    exact this
  · have := q_drop h hk
    unfold QB
    rw [List.map_drop, List.length_drop]
    rw [Nat.mul_one] at this
    exact this
  · split
    · cases A <;> rfl
    · cases A with
      | none => rfl
      | some a => simp [Value.ownBlock, Addr.add]; split <;> rfl
theorem QB.typed {w : World} {base : Nat} {v : Value} {xs : List Int} (h : QB w base v xs) {g T : Nat} {cs : Array Value} (hg : w.heap[g]? = some (.cells cs T (0, 0))) (hT : T ≠ 5) : v.ownBlock ≠ some g := fun e => by
  obtain ⟨_, cells, hc⟩ := q_typed h g e
  rw [hg] at hc
  injection hc with hc
  injection hc with _ h2
  exact hT h2
theorem appQ_run {W : World} (base : Nat) (ty : TypeId) (v : Value) (xs ys : List Int) (A : Option Addr) (m c : Nat) (HO : QB W base v xs) (HR : RdB W A m ys) (hbase : base ≤ W.heap.size) (hl : xs.length + m ≤ 140737488355328) :
    ∃ v1 w1, (Builtin.append_ #[22, 22] ty #[v, .slice A m c]).run Try.prog W = .ok v1 w1 ∧ QB w1 base v1 (xs ++ ys) ∧ W.grownBy w1 v.ownBlock ∧ (v1.ownBlock = v.ownBlock ∨ ∃ b, v1.ownBlock = some b ∧ W.heap.size ≤ b) := by
  obtain ⟨i0, hi, hz0, hsz, hby⟩ := info_parts infoB
  have hr := Kd.reads_of_C (d := (0 : Int)) HR
  rcases Nat.eq_zero_or_pos m with h0 | h0
  · obtain rfl : ys = [] := List.eq_nil_of_length_eq_zero (by have := hr.1; omega)
    subst h0
    obtain ⟨A0, c0, rfl, hc0, _⟩ := HO.reads
    refine ⟨_, W, run_append_nothing W _ _ _ _ i0 Try.underlying22 hi A0 _ c0 hc0 _ ?_, by rw [List.append_nil]; exact HO, ⟨rfl, rfl, rfl, Nat.le_refl _, fun _ _ _ => rfl⟩, .inl rfl⟩
    cases A with
    | none => exact Src.ofNil W Try.underlying22 c
    | some ad => exact Src.ofSlice W Try.underlying22 ad 0 c [] (by simp) (fun j u hu => by simp at hu) (fun u hu => by simp at hu)
  · obtain ⟨ad, rfl, hc⟩ := hr.2.2 h0
    have hq := q_append (P := Try.prog) W base 22 ty 5 i0 (.int .u8 0) 1 1 Try.underlying22 hi hz0 hsz hby rfl (by omega) v xs.length (xs.map (Value.int .u8)) HO ad m c (ys.map (Value.int .u8)) (by rw [List.length_map, hr.1, Nat.mul_one]) (fun j u hu => by
      rw [List.getElem?_map] at hu
      rcases hy : ys[j]? with _ | y
      · rw [hy] at hu; cases hu
      · rw [hy] at hu
        obtain rfl := Option.some.inj hu
        have hj := (List.getElem?_eq_some_iff.1 hy).1
        rw [hc j (by have := hr.1; omega), List.getD_eq_getElem?_getD, hy]
        rfl) (fun u hu => by obtain ⟨y, _, rfl⟩ := List.mem_map.1 hu; rfl) h0 (by simp only [maxLen]; omega) (by omega) hbase
    obtain ⟨v1, w1, h1, h2, h3, h4⟩ := hq
    refine ⟨v1, w1, h1, ?_, h3, h4⟩
    unfold QB
    rw [List.length_append, List.map_append, hr.1]
    exact h2
section
variable {ops : Array Oper} {rest : List Oper} {o : Oper} {a : Act} {Q : Exit → Act → World → Prop}
/-- append(q, ys...): a row that may begin inside its block. -/
theorem appQ {W : World} (base : Nat) (hgd : o.guard = none) (s x : Operand)
    (ho : o.op = .call { callee := .builtin .append, args := #[s, x], argTypes := #[22, 22] })
    (v : Value) (xs ys : List Int) (A : Option Addr) (m c : Nat) (hs : a.eval s = v) (hx : a.eval x = .slice A m c)
    (HO : QB W base v xs) (HR : RdB W A m ys) (hbase : base ≤ W.heap.size) (hl : xs.length + m ≤ 140737488355328)
    (h : ∀ v1 w1, QB w1 base v1 (xs ++ ys) → W.grownBy w1 v.ownBlock → (v1.ownBlock = v.ownBlock ∨ ∃ b, v1.ownBlock = some b ∧ W.heap.size ≤ b) → wpList Try.prog ops Q rest (a.put o.dst v1) w1) :
    wpList Try.prog ops Q (o :: rest) a W := by
  obtain ⟨v1, w1, hrun, h2, h3, h4⟩ := appQ_run base o.type v xs ys A m c HO HR hbase hl
  refine wpList_plain hgd fun K hK => ?_
  unfold Oper.wp execOp
  simp only [ho, resolve, invoke, builtin, Sem.run_bind, Sem.run_pure, Result.andThen_ok, List.map_toArray, List.map_cons, List.map_nil, hs, hx, hrun]
  exact hK _ _ (h v1 w1 h2 h3 h4)
theorem do_appQ {W : World} {i : Nat} {N : Tmp} {K : Act → World → Prop} (base : Nat) (hi : ops[i]? = some o) (hN : o.dst = some N) (hw : Region.wanted o (yielded ops a.tmps) = true) (s x : Operand)
    (ho : o.op = .call { callee := .builtin .append, args := #[s, x], argTypes := #[22, 22] })
    (v : Value) (xs ys : List Int) (A : Option Addr) (m c : Nat) (hs : a.eval s = v) (hx : a.eval x = .slice A m c)
    (HO : QB W base v xs) (HR : RdB W A m ys) (hbase : base ≤ W.heap.size) (hl : xs.length + m ≤ 140737488355328)
    (h : ∀ v1 w1, QB w1 base v1 (xs ++ ys) → W.grownBy w1 v.ownBlock → (v1.ownBlock = v.ownBlock ∨ ∃ b, v1.ownBlock = some b ∧ W.heap.size ≤ b) → K (a.put (some N) v1) w1) : wpOp Try.prog ops Q i K a W := by
  obtain ⟨v1, w1, hrun, h2, h3, h4⟩ := appQ_run base o.type v xs ys A m c HO HR hbase hl
  refine do_ hi hw ?_
  unfold Oper.wp execOp
  simp only [ho, resolve, invoke, builtin, Sem.run_bind, Sem.run_pure, Result.andThen_ok, List.map_toArray, List.map_cons, List.map_nil, hs, hx, hrun]
  show K (a.put o.dst v1) w1
  rw [hN]
  exact h v1 w1 h2 h3 h4
end
end Go.Proofs.Ytnohkhaagkkhjaa
