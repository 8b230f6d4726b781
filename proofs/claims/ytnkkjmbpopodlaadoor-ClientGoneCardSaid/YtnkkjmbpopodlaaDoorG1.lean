/- Plain lemmas and contracts, several texts in one: Base, Mem, Str, Rd, Calls, Fr, Region, RegMem, RowsOf, Bag, Cut, Buf, Round, RegionX, Qrow, Map, RowsS, Recov, CrcPure, W32, ShaPure. Conditions: their own. -/
import Derived.Test.YtnkkjmbpopodlaaDoorProg
import Derived.KernelRfl
import Derived.Test.YtnkkjmbpopodlaaDoorWWords
import Derived.Test.YtnkkjmbpopodlaaDoorWMore
import Derived.Laws.BitsAllLaws
import Derived.Lib.SliceRun
import Derived.WalkSpells
import Derived.Lib.SlBytesConst
import Derived.Deep.RegionHeld3
import Derived.Deep.DeepCutAuto
import Derived.Outline
import Derived.Deep.MidRow
import Derived.Laws.Tables
import Derived.OrdersHeld
import Derived.Below
import Derived.Test.YtnkkjmbpopodlaaDoorWLast
import Derived.Laws.IdiomCopy
import Derived.RangeFuncNested
import Derived.RangeFuncBound
import Derived.RangeFuncCalls
import Derived.RangeFuncLeaves
import Derived.RangeFuncWrites
import Derived.Shelf.Abstract
import Derived.OwnWalkIn
import Derived.TacticsInMore
import Derived.LoopNIn
import Derived.LoopIn
import Derived.OrdersIn
import Derived.Deep.Upon
import Derived.Maps.Keyed
import Derived.WideKeyEntry
import Derived.DeepKeys4
import Derived.Defers
import Derived.Recover
import Derived.Tactics
namespace Go.Proofs.YtnkkjmbpopodlaaDoor
open Go.RowKit Go.Proofs.YtnkkjmbpopodlaaDoorW.PrintWords Go.Proofs.YtnkkjmbpopodlaaDoorW.PrintMore
set_option linter.unusedVariables false
set_option linter.unusedSimpArgs false

/-- Bytes: each of them from 0 to 255. -/
def Bytes (xs : List Int) : Prop := ∀ x ∈ xs, 0 ≤ x ∧ x < 256
theorem Bytes.nil : Bytes [] := fun _ h => by cases h
theorem Bytes.append {xs ys : List Int} (h : Bytes xs) (k : Bytes ys) : Bytes (xs ++ ys) := fun x hx => (List.mem_append.1 hx).elim (h x) (k x)
theorem Bytes.take {xs : List Int} (h : Bytes xs) (n : Nat) : Bytes (xs.take n) := fun x hx => h x (List.mem_of_mem_take hx)
theorem Bytes.drop {xs : List Int} (h : Bytes xs) (n : Nat) : Bytes (xs.drop n) := fun x hx => h x (List.mem_of_mem_drop hx)
theorem Bytes.one {x : Int} (h0 : 0 ≤ x) (h1 : x < 256) : Bytes [x] := fun y hy => by
  rw [List.mem_singleton.1 hy]
  exact ⟨h0, h1⟩
theorem Bytes.at_ {xs : List Int} (h : Bytes xs) (i : Int) : 0 ≤ rd xs i ∧ rd xs i < 256 := by
  unfold Go.Proofs.YtnkkjmbpopodlaaDoorW.PrintWords.rd
  rw [List.getD_eq_getElem?_getD]
  rcases hx : xs[i.toNat]? with _ | x
  · simp
  · exact h x (List.mem_of_getElem? hx)

/-- A slice of bytes that reads xs; one of the call's own. -/
abbrev RdB (w : World) (A : Option Addr) (n : Nat) (xs : List Int) : Prop := (Kd.int .u8).C w A n xs
abbrev OwB (w : World) (base : Nat) (v : Value) (xs : List Int) : Prop := (Kd.int .u8).R 5 w base (fun _ => True) v xs

theorem infoB : (Tryd.prog.info? 5).map (fun i => (i.zero, i.size, i.bytes)) = some (some (.int .u8 0), 1, 1) := by kernel_rfl

theorem below_tr {B : Nat} {a b c : World} (h : Below B a b) (k : Below b.heap.size b c) (hB : B ≤ b.heap.size) : Below B a c := h.trans (k.mono hB)
theorem below_tr' {a b c : World} (h : Below a.heap.size a b) (k : Below b.heap.size b c) : Below a.heap.size a c := h.trans (k.mono h.size)

section
variable {ops : Array Oper} {rest : List Oper} {o : Oper} {a : Act} {Q : Exit → Act → World → Prop}
/-- append(v, y) of one byte. -/
theorem appB {w0 W : World} (base : Nat) (hgd : o.guard = none) (s x : Operand)
    (ho : o.op = .call { callee := .builtin .append, args := #[s, x], argTypes := #[37, 37] })
    (v : Value) (xs : List Int) (y : Int) (hs : a.eval s = v) (hx : a.eval x = .slice (some ⟨W.heap.size, 0, none⟩) 1 1)
    (HO : OwB W base v xs) (HB : Below base w0 W) (hbase : base ≤ W.heap.size) (hl : xs.length < 140737488355328)
    (h : ∀ v1 w1, OwB w1 base v1 (xs ++ [y]) → Below base w0 w1 → W.grownBy w1 v.ownBlock → (v1.ownBlock = v.ownBlock ∨ ∃ b, v1.ownBlock = some b ∧ W.heap.size ≤ b) → wpList Tryd.prog ops Q rest (a.put o.dst v1) w1) :
    wpList Tryd.prog ops Q (o :: rest) a (W.alloc (.cells #[.int .u8 y] 5)) :=
  Kd.R_append (Kd.int .u8) base hgd s x 37 5 (.int .u8 0) 1 ho Tryd.underlying37 infoB rfl (by decide) (by decide) v xs y [.int .u8 y] (fun _ => True) (fun _ => False) hs hx rfl (fun _ h => h.elim) (fun _ _ => trivial) HO HB hbase
    (by omega) h
/-- append(v, ys...) of bytes that are read. -/
theorem appBs {w0 W : World} (base : Nat) (hgd : o.guard = none) (s x : Operand)
    (ho : o.op = .call { callee := .builtin .append, args := #[s, x], argTypes := #[37, 37] })
    (v : Value) (xs ys : List Int) (A : Option Addr) (m c : Nat) (hs : a.eval s = v) (hx : a.eval x = .slice A m c)
    (HO : OwB W base v xs) (HR : RdB W A m ys) (HB : Below base w0 W) (hbase : base ≤ W.heap.size) (hl : xs.length + m ≤ 140737488355328)
    (h : ∀ v1 w1, OwB w1 base v1 (xs ++ ys) → Below base w0 w1 → W.grownBy w1 v.ownBlock → (v1.ownBlock = v.ownBlock ∨ ∃ b, v1.ownBlock = some b ∧ W.heap.size ≤ b) → wpList Tryd.prog ops Q rest (a.put o.dst v1) w1) :
    wpList Tryd.prog ops Q (o :: rest) a W :=
  Kd.R_append_rows (Kd.int .u8) base hgd s x 37 5 (.int .u8 0) 1 ho Tryd.underlying37 infoB rfl (by decide) (by decide) v xs ys A m c (fun _ => True) (fun _ => False) hs hx HO HR (fun _ _ h => h) (fun _ h => h.elim) (fun _ _ => trivial) HB hbase
    (by omega) h
end

/-- string(b). -/
theorem conv_str {w : World} {A : Option Addr} {n : Nat} {xs : List Int} (h : RdB w A n xs) (c : Nat) :
    (convert 37 9 (.slice A n c)).run Tryd.prog w = .ok (.string (strOfNums xs)) w := by
  have hr := Kd.reads_of_C (d := (0 : Int)) h
  rcases Nat.eq_zero_or_pos n with h0 | h0
  · obtain rfl : xs = [] := List.eq_nil_of_length_eq_zero (by have := h.1; omega)
    subst h0
    rcases A with _ | ad
    · exact run_convert_bytes_nil w 37 5 Tryd.underlying37 Tryd.underlying5 0 c 9 Tryd.underlying9
    · obtain ⟨b, off, q⟩ := ad
      rw [run_convert_bytes_string w 37 9 5 _ 0 c Tryd.underlying37 Tryd.underlying5 Tryd.underlying9, run_bytesToString w _ 0 c [] (by simp [loadCells, loadCellsFrom])]
      rfl
  · obtain ⟨ad, rfl, hc⟩ := hr.2.2 h0
    rw [run_convert_bytes_string w 37 9 5 _ n c Tryd.underlying37 Tryd.underlying5 Tryd.underlying9, run_bytesToString w ad n c xs ?_, foldl_push_bytes]
    · simp [strOfNums, ByteArray.empty, ByteArray.emptyWithCapacity]
      rfl
    · have := run_loadCells_list (P := Tryd.prog) w ad (xs.map (Value.int .u8)) (fun j v hj => by
        have hl := hr.1
        rw [List.getElem?_map] at hj
        rcases hx : xs[j]? with _ | x
        · rw [hx] at hj; cases hj
        · rw [hx] at hj
          obtain rfl := Option.some.inj hj
          have hjl := (List.getElem?_eq_some_iff.1 hx).1
          rw [hc j (by omega), List.getD_eq_getElem?_getD, hx]
          rfl)
      simpa [hr.1] using this

theorem strOfNums_inj {xs ys : List Int} (hx : Bytes xs) (hy : Bytes ys) (h : strOfNums xs = strOfNums ys) : xs = ys := by
  have h1 : (strOfNums xs).data.toList = (strOfNums ys).data.toList := by rw [h]
  rw [strOfNums_data, strOfNums_data] at h1
  clear h
  induction xs generalizing ys with
  | nil => cases ys with
    | nil => rfl
    | cons y ys => simp at h1
  | cons x xs ih => cases ys with
    | nil => simp at h1
    | cons y ys =>
      simp only [List.map_cons, List.cons.injEq] at h1
      have a := hx x (by simp)
      have b := hy y (by simp)
      have h2 := congrArg UInt8.toNat h1.1
      simp only [UInt8.toNat_ofNat'] at h2
      have : x = y := by omega
      rw [this, ih (fun z hz => hx z (by simp [hz])) (fun z hz => hy z (by simp [hz])) h1.2]
theorem str_beq {xs ys : List Int} (hx : Bytes xs) (hy : Bytes ys) : ((strOfNums xs).toList == (strOfNums ys).toList) = decide (xs = ys) := by
  rw [Bool.eq_iff_iff, beq_iff_eq, decide_eq_true_iff]
  constructor
  · intro h
    refine strOfNums_inj hx hy ?_
    rw [ByteArray.toList_eq, ByteArray.toList_eq] at h
    have h2 := Array.toList_inj.1 h
    calc strOfNums xs = ⟨(strOfNums xs).data⟩ := rfl
      _ = ⟨(strOfNums ys).data⟩ := by rw [h2]
      _ = strOfNums ys := rfl
  · rintro rfl; rfl

/-- b[:j], b[j:] -/
theorem cutTo {w : World} {A : Option Addr} {n c : Nat} {xs : List Int} (h : RdB w A n xs) (hc : n ≤ c) (j : Int) (h0 : 0 ≤ j) (hj : j ≤ n) :
    (∀ W : World, (Instr.slice 37 (.slice A n c) none (some (.int .i64 j)) none).run Tryd.prog W = .ok (.slice A j.toNat c) W) ∧ RdB w A j.toNat (xs.take j.toNat) := by
  obtain ⟨i0, hi, _, hsz, _⟩ := info_parts infoB
  exact ⟨cut_to 37 5 .i64 Tryd.underlying37 hi A n c j h0 hj hc, Kd.C_of_reads ((Kd.reads_of_C (d := (0 : Int)) h).take_ _ (by omega))⟩
theorem cutFrom {w : World} {A : Option Addr} {n c : Nat} {xs : List Int} (h : RdB w A n xs) (hc : n ≤ c) (j : Int) (h0 : 0 ≤ j) (hj : j ≤ n) :
    (∀ W : World, (Instr.slice 37 (.slice A n c) (some (.int .i64 j)) none none).run Tryd.prog W = .ok (.slice (if c = j.toNat then A else A.map (·.add j.toNat)) (n - j.toNat) (c - j.toNat)) W) ∧ RdB w (if c = j.toNat then A else A.map (·.add j.toNat)) (n - j.toNat) (xs.drop j.toNat) := by
  obtain ⟨i0, hi, _, hsz, _⟩ := info_parts infoB
  refine ⟨?_, Kd.C_of_reads ((Kd.reads_of_C (d := (0 : Int)) h).drop_ _ (by omega) hc)⟩
  have := cut_from (P := Tryd.prog) 37 5 .i64 Tryd.underlying37 hi 1 hsz A n c j h0 hj
  simpa using this

/-- A store into a row of one's own; what it leaves alone. -/
theorem OwB.store {w : World} {base g cap : Nat} {xs : List Int} (h : OwB w base (.slice (some ⟨g, 0, none⟩) xs.length cap) xs) (i : Int) (x : Int) :
    OwB (w.setCell ⟨g, i.toNat, none⟩ (.int .u8 x)) base (.slice (some ⟨g, 0, none⟩) xs.length cap) (xs.set i.toNat x) := (Kd.R_put h i x).1
theorem OwB.far {w : World} {base : Nat} {v : Value} {xs : List Int} (h : OwB w base v xs) {p : Addr} (hp : some p.block ≠ v.ownBlock) (u : Value) : OwB (w.setCell p u) base v xs := by
  have h1 : (Kd.int .u8).R 5 w base (fun k => v.ownBlock = some k) v xs := Kd.R_of_own (Kd.own_of_R h) (fun k hk => hk)
  exact Kd.R_mono (Kd.R_far h1 (fun k hk e => hp (by rw [hk, e])) u) (fun _ _ => trivial)
theorem OwB.lt {w : World} {base : Nat} {v : Value} {xs : List Int} (h : OwB w base v xs) (g : Nat) (hg : w.heap.size ≤ g) : some g ≠ v.ownBlock := fun e => by
  have := Kd.R_lt h g e.symm
  omega
theorem OwB.below {w w1 : World} {base : Nat} {v : Value} {xs : List Int} (h : OwB w base v xs) (hb : Below w.heap.size w w1) : OwB w1 base v xs := Kd.R_below h hb
theorem OwB.parts {w : World} {base n c : Nat} {A : Option Addr} {xs : List Int} (h : OwB w base (.slice A n c) xs) : n ≤ c ∧ RdB w A n xs := by
  obtain ⟨h1, h2, h3⟩ := Kd.R_reads' h
  rw [h1]
  exact ⟨by omega, h3⟩
/-- Of an owned row that is not empty: its block, a place of it. -/
theorem OwB.place {w : World} {base : Nat} {v : Value} {xs : List Int} (h : OwB w base v xs) (hp : 0 < xs.length) : ∃ g cap, v = .slice (some ⟨g, 0, none⟩) xs.length cap ∧ base ≤ g ∧ g < w.heap.size := by
  obtain ⟨g, cap, he, h1, h2, _⟩ := Kd.R_form h hp
  exact ⟨g, cap, he, h1, h2⟩
theorem OwB.cell {w : World} {base g cap : Nat} {xs : List Int} (h : OwB w base (.slice (some ⟨g, 0, none⟩) xs.length cap) xs) (i : Int) (h0 : 0 ≤ i) (hi : i < xs.length) :
    w.cell? ⟨g, i.toNat, none⟩ = some (.int .u8 (rd xs i)) ∧ w.frozen? ⟨g, i.toNat, none⟩ = false := Kd.R_cell (0 : Int) h i h0 hi
/-- A literal's row. -/
theorem own_litB (W : World) (base : Nat) (xs : List Int) (cs : Array Value) (n : Nat) (hcs : cs = (xs.map (Value.int .u8)).toArray) (hn : n = xs.length) (hb : base ≤ W.heap.size) (hm : xs.length ≤ 9223372036854775807) :
    OwB (W.alloc (.cells cs 5)) base (.slice (some ⟨W.heap.size, 0, none⟩) n n) xs := by
  subst hcs; subst hn
  exact Kd.R_of_own (own_lit W base 5 .u8 xs hb hm) (fun _ _ => trivial)
/-- A literal's row, read (whatever its mark). -/
theorem rd_lit (W : World) (xs : List Int) (cs : Array Value) (fr : Nat × Nat) (n : Nat) (hcs : cs = (xs.map (Value.int .u8)).toArray) (hn : n = xs.length) (hm : xs.length ≤ 9223372036854775807) :
    RdB (W.alloc (.cells cs 5 fr)) (some ⟨W.heap.size, 0, none⟩) n xs := by
  subst hcs; subst hn
  refine Kd.C_of_reads (d := (0 : Int)) ⟨rfl, hm, fun _ => ⟨_, rfl, fun j hj => ?_⟩⟩
  rw [add_plain, World.cell?_alloc_mark]
  simp [List.getD_eq_getElem?_getD, List.getElem?_eq_getElem hj]
theorem wf_i64 {x : Int} (h : (Lit.int .i64 x).wf = true) : -9223372036854775808 ≤ x ∧ x ≤ 9223372036854775807 := by
  simp [Lit.wf, IntKind.min, IntKind.max, IntKind.signed, IntKind.bits] at h
  omega
/-- What is owned is read, and has its form. -/
theorem OwB.reads {w : World} {base : Nat} {v : Value} {xs : List Int} (h : OwB w base v xs) : ∃ A c, v = .slice A xs.length c ∧ xs.length ≤ c ∧ RdB w A xs.length xs := Kd.R_reads h

end Go.Proofs.YtnkkjmbpopodlaaDoor
namespace Go.Proofs.YtnkkjmbpopodlaaDoor
open Go.RowKit Go.Proofs.YtnkkjmbpopodlaaDoorW.PrintWords Go.Proofs.YtnkkjmbpopodlaaDoorW.PrintMore
set_option linter.unusedVariables false
set_option linter.unusedSimpArgs false
section
variable {P : Program}
/-- Block g holds another object; all else is as it was. -/
structure SetBlk (w w1 : World) (g : Nat) (o : Obj) : Prop where
  os : w1.os = w.os
  tape : w1.tape = w.tape
  output : w1.output = w.output
  size : w1.heap.size = w.heap.size
  at_ : w1.heap[g]? = some o
  else_ : ∀ k, k ≠ g → w1.heap[k]? = w.heap[k]?
theorem SetBlk.below {w w1 : World} {g B : Nat} {o : Obj} (h : SetBlk w w1 g o) (hB : B ≤ g) : Below B w w1 :=
  ⟨h.os, h.tape, h.output, by rw [h.size]; exact Nat.le_refl _, fun k hk => h.else_ k (by omega)⟩
theorem SetBlk.blk {w w1 : World} {g k : Nat} {o o' : Obj} (h : SetBlk w w1 g o) (hk : k ≠ g) (hb : w.heap[k]? = some o') : w1.heap[k]? = some o' := (h.else_ k hk).trans hb
theorem setBlk_cells {w : World} {g : Nat} {cur : Array Value} {e : TypeId} (hg : w.heap[g]? = some (.cells cur e (0, 0))) (vs : List Value) (hs : cur.size = vs.length) :
    SetBlk w (w.setCells g 0 vs) g (.cells vs.toArray e (0, 0)) := by
  obtain ⟨s1, s2, s3, s4⟩ := setCells_same g vs 0 w
  obtain ⟨cur', h1, h2, h3⟩ := setCells_row vs 0 w cur hg (by omega)
  refine ⟨s1, s2, s3, s4, ?_, fun k hk => setCells_far vs 0 k hk⟩
  have : cur' = vs.toArray := by
    apply Array.toList_inj.1
    rw [h3, List.take_zero, List.nil_append, Nat.zero_add, List.drop_eq_nil_of_le (by rw [Array.length_toList]; omega), List.append_nil]
  rw [h1, this]
theorem setBlk_cell {w : World} {g i : Nat} {cur : Array Value} {e : TypeId} (hg : w.heap[g]? = some (.cells cur e (0, 0))) (v : Value) :
    SetBlk w (w.setCell ⟨g, i, none⟩ v) g (.cells (cur.setIfInBounds i v) e (0, 0)) :=
  ⟨rfl, rfl, rfl, by simp [World.setCell], blk_set hg i v, fun k hk => Below.heap_setCell w ⟨g, i, none⟩ v k hk⟩

/-- A whole variable is read, is written (as the walk meets it). -/
theorem ld_row {w : World} {g : Nat} {t : TypeId} {cs : Array Value} {fr : Nat × Nat} (hg : w.heap[g]? = some (.cells cs t fr)) (ty : TypeId) (d : TypeDesc)
    (hu : P.underlying ty = some d) (hd : (match d with | .struct _ | .array _ _ => true | _ => false) = true) (hi : (P.info? ty).map (·.size) = some cs.size) :
    (Instr.loadAt ty (.pointer (some ⟨g, 0, none⟩))).run P w = .ok (.agg cs) w := by
  simp only [Instr.loadAt, Instr.sureAddr, Sem.run_bind, Sem.run_pure, Result.andThen_ok, run_loadVar_row w g t ty cs fr d hg hu hd hi]
theorem st_row {w : World} {g : Nat} {t : TypeId} {cur : Array Value} (hg : w.heap[g]? = some (.cells cur t (0, 0))) (ty : TypeId) (vs : List Value) (hs : cur.size = vs.length)
    (hi : (P.info? ty).map (·.size) = some vs.length) (h1 : ∀ v ∈ vs, v.oneCell' = true) :
    (Instr.storeAt ty (.pointer (some ⟨g, 0, none⟩)) (.agg vs.toArray)).run P w = .ok () (w.setCells g 0 vs) := by
  refine run_storeAt_mid w g 0 ty vs.toArray ?_ (by simpa using hi) (all_oneCell_toArray h1)
  intro j hj
  have hj' : j < cur.size := by rw [hs]; simpa using hj
  refine ⟨?_, blk_frozen hg _⟩
  rw [blk_cell hg, Nat.zero_add, Array.getElem?_eq_getElem hj']
  rfl
theorem load_run {o : Oper} {a : Act} {w : World} {ty : TypeId} {x : Operand} (ho : o.op = .load ty x) {p : Value} (hx : a.eval x = p) {v : Value} (hl : (Instr.loadAt ty p).run P w = .ok v w) : (execOp a.eval o).run P w = .ok (.value v) w := by
  unfold execOp
  simp only [ho, hx, Sem.run_bind, hl, Result.andThen_ok, Sem.run_pure]
theorem store_run {o : Oper} {a : Act} {w w1 : World} {ty : TypeId} {x y : Operand} (ho : o.op = .store ty x y) {p v : Value} (hx : a.eval x = p) (hy : a.eval y = v) (hl : (Instr.storeAt ty p v).run P w = .ok () w1) : (execOp a.eval o).run P w = .ok .skip w1 := by
  unfold execOp
  simp only [ho, hx, hy, Sem.run_bind, hl, Result.andThen_ok, Sem.run_pure]
section
variable {ops : Array Oper} {rest : List Oper} {o : Oper} {a : Act} {Q : Exit → Act → World → Prop} {w : World}
/-- Arms of a walk: a whole variable is read, is written. -/
theorem load_arm (hgd : o.guard = none) (ty : TypeId) (x : Operand) (ho : o.op = .load ty x) {p : Value} (hx : a.eval x = p) {v : Value} (hl : (Instr.loadAt ty p).run P w = .ok v w) (h : wpList P ops Q rest (a.put o.dst v) w) : wpList P ops Q (o :: rest) a w := by
  refine wpList_plain hgd fun K hK => ?_
  unfold Oper.wp
  rw [load_run ho hx hl]
  exact hK _ _ h
theorem store_arm {w1 : World} (hgd : o.guard = none) (ty : TypeId) (x : Operand) (y : Operand) (ho : o.op = .store ty x y) {p v : Value} (hx : a.eval x = p) (hy : a.eval y = v) (hl : (Instr.storeAt ty p v).run P w = .ok () w1) (h : wpList P ops Q rest (a.put o.dst undef) w1) : wpList P ops Q (o :: rest) a w := by
  refine wpList_plain hgd fun K hK => ?_
  unfold Oper.wp
  rw [store_run ho hx hy hl]
  exact hK _ _ h
end
/- Which operation is next: these fall at once (with_reducible) where it is another one. -/
section
variable {ops : Array Oper} {rest : List Oper} {a : Act} {Q : Exit → Act → World → Prop} {w : World} {d : Option Tmp} {ty0 : TypeId} {ps : String} {af : Array Edge}
theorem at_ld (ty : TypeId) (x : Operand) (h : wpList P ops Q ({ dst := d, op := .load ty x, type := ty0, pos := ps, after := af, guard := none } :: rest) a w) : wpList P ops Q ({ dst := d, op := .load ty x, type := ty0, pos := ps, after := af, guard := none } :: rest) a w := h
theorem at_st (ty : TypeId) (x y : Operand) (h : wpList P ops Q ({ dst := d, op := .store ty x y, type := ty0, pos := ps, after := af, guard := none } :: rest) a w) : wpList P ops Q ({ dst := d, op := .store ty x y, type := ty0, pos := ps, after := af, guard := none } :: rest) a w := h
theorem at_bd (ty : TypeId) {parts : Array (Nat × Operand)} (h : wpList P ops Q ({ dst := d, op := .build ty parts, type := ty0, pos := ps, after := af, guard := none } :: rest) a w) : wpList P ops Q ({ dst := d, op := .build ty parts, type := ty0, pos := ps, after := af, guard := none } :: rest) a w := h
theorem at_bin (op : BinOp) (ty : TypeId) {x y : Operand} {u : TypeId} (h : wpList P ops Q ({ dst := d, op := .binOp op ty x y u, type := ty0, pos := ps, after := af, guard := none } :: rest) a w) : wpList P ops Q ({ dst := d, op := .binOp op ty x y u, type := ty0, pos := ps, after := af, guard := none } :: rest) a w := h
theorem at_cv (src dst : TypeId) {x : Operand} (h : wpList P ops Q ({ dst := d, op := .convert src dst x, type := ty0, pos := ps, after := af, guard := none } :: rest) a w) : wpList P ops Q ({ dst := d, op := .convert src dst x, type := ty0, pos := ps, after := af, guard := none } :: rest) a w := h
end
section
variable {ops : Array Oper} {rest : List Oper} {o : Oper} {a : Act} {Q : Exit → Act → World → Prop} {w : World}
/-- Arms: composite literals, '==' of rows, conversions. -/
theorem build_run (t : TypeId) (parts : Array (Nat × Operand)) (ho : o.op = .build t parts) {cells : Array Value} (hb : P.built t (parts.toList.map fun (i, x) => (i, a.eval x)) = some cells) : (execOp a.eval o).run P w = .ok (.value (.agg cells)) w := by
  unfold execOp
  simp only [ho, Sem.run_bind]
  rw [run_build w t _ cells (by simpa using hb)]
  simp
theorem build_arm (hgd : o.guard = none) (t : TypeId) (parts : Array (Nat × Operand)) (ho : o.op = .build t parts) {cells : Array Value} (hb : P.built t (parts.toList.map fun (i, x) => (i, a.eval x)) = some cells) (h : wpList P ops Q rest (a.put o.dst (.agg cells)) w) : wpList P ops Q (o :: rest) a w := by
  refine wpList_plain hgd fun K hK => ?_
  unfold Oper.wp
  rw [build_run t parts ho hb]
  exact hK _ _ h
theorem bin_run (op : BinOp) (t : TypeId) (x y : Operand) (u : TypeId) (ho : o.op = .binOp op t x y u) {p q v : Value} (hx : a.eval x = p) (hy : a.eval y = q) (hg : (eqGuard op t x y p q).run P w = .ok () w) (hb : (binOp op t p q).run P w = .ok v w) : (execOp a.eval o).run P w = .ok (.value v) w := by
  unfold execOp
  simp only [ho, hx, hy, Sem.run_bind, hg, hb, Result.andThen_ok, Sem.run_pure]
theorem conv_run (src dst : TypeId) (x : Operand) (ho : o.op = .convert src dst x) {p v : Value} {w1 : World} (hx : a.eval x = p) (hc : (convert src dst p).run P w = .ok v w1) : (execOp a.eval o).run P w = .ok (.value v) w1 := by
  unfold execOp
  simp only [ho, hx, Sem.run_bind, hc, Result.andThen_ok, Sem.run_pure]
theorem conv_arm (hgd : o.guard = none) (src dst : TypeId) (x : Operand) (ho : o.op = .convert src dst x) {p v : Value} {w1 : World} (hx : a.eval x = p) (hc : (convert src dst p).run P w = .ok v w1) (h : wpList P ops Q rest (a.put o.dst v) w1) : wpList P ops Q (o :: rest) a w := by
  refine wpList_plain hgd fun K hK => ?_
  unfold Oper.wp
  rw [conv_run src dst x ho hx hc]
  exact hK _ _ h
end
section
variable {ops : Array Oper} {rest : List Oper} {o : Oper} {a : Act} {Q : Exit → Act → World → Prop} {w : World}
/-- A whole variable is written: what is known of memory then. -/
theorem store_blk (hgd : o.guard = none) (ty : TypeId) (x y : Operand) (ho : o.op = .store ty x y) {g : Nat} {vs : List Value} (hx : a.eval x = .pointer (some ⟨g, 0, none⟩)) (hy : a.eval y = .agg vs.toArray)
    {cur : Array Value} {e : TypeId} (hg : w.heap[g]? = some (.cells cur e (0, 0))) (hs : cur.size = vs.length) (hi : (P.info? ty).map (·.size) = some vs.length) (h1 : ∀ v ∈ vs, v.oneCell' = true)
    (h : ∀ w1, SetBlk w w1 g (.cells vs.toArray e (0, 0)) → wpList P ops Q rest (a.put o.dst undef) w1) : wpList P ops Q (o :: rest) a w :=
  store_arm hgd ty x y ho hx hy (st_row hg ty vs hs hi h1) (h _ (setBlk_cells hg vs hs))
end
section
variable {ops : Array Oper} {rest : List Oper} {o : Oper} {a : Act} {Q : Exit → Act → World → Prop} {w w1 : World} {d : Option Tmp} {ty0 : TypeId} {ps : String} {af : Array Edge} {gd : Nat × Bool}
/-- Any operation that yields a value, its run given (guarded or not). -/
theorem val_arm {v : Value} (hw : Region.wanted o (yielded ops a.tmps) = true) (hr : (execOp a.eval o).run P w = .ok (.value v) w1) (h : wpList P ops Q rest (a.put o.dst v) w1) : wpList P ops Q (o :: rest) a w := by
  unfold wpList
  rw [if_pos hw]
  refine .inl ?_
  unfold Oper.wp
  rw [hr]
  exact h
end
theorem results_cell_tmp {fn : Func} {p q : Tmp} {ty : TypeId} (h : fn.results = #[.cell p ty, .tmp q]) (tmps : Array Value) (w : World) (g : Nat) (t : TypeId) (cs : Array Value) (fr : Nat × Nat) (d : TypeDesc)
    (hp : tmps.getD p undef = .pointer (some ⟨g, 0, none⟩)) (hg : w.heap[g]? = some (.cells cs t fr))
    (hu : P.underlying ty = some d) (hd : (match d with | .struct _ | .array _ _ => true | _ => false) = true) (hi : (P.info? ty).map (·.size) = some cs.size) :
    (results fn tmps).run P w = .ok (.tuple #[.agg cs, tmps.getD q undef]) w := by
  have hp' : tmps[p]?.getD undef = .pointer (some ⟨g, 0, none⟩) := by simpa using hp
  simp [results, h, hp', asAddr, run_loadVar_row w g t ty cs fr d hg hu hd hi]
/-- In which world the walk is (with_reducible). -/
theorem at_w {ops : Array Oper} {l : List Oper} {a : Act} {Q : Exit → Act → World → Prop} (w : World) (h : wpList P ops Q l a w) : wpList P ops Q l a w := h
end
end Go.Proofs.YtnkkjmbpopodlaaDoor
namespace Go.Proofs.YtnkkjmbpopodlaaDoor
open Go.RowKit Go.Proofs.YtnkkjmbpopodlaaDoorW.PrintWords Go.Proofs.YtnkkjmbpopodlaaDoorW.PrintMore
set_option linter.unusedVariables false
set_option linter.unusedSimpArgs false
theorem bytesOf_str {xs : List Int} (h : Bytes xs) : bytesOf (strOfNums xs) = xs := by
  unfold bytesOf
  rw [strOfNums_data, List.map_map]
  conv => rhs; rw [← List.map_id xs]
  refine List.map_congr_left fun x hx => ?_
  obtain ⟨h0, h1⟩ := h x hx
  simp only [Function.comp, UInt8.toNat_ofNat', id]
  omega
theorem bytesOf_bytes (b : ByteArray) : Bytes (bytesOf b) := by
  intro x hx
  obtain ⟨y, _, rfl⟩ := List.mem_map.1 hx
  have := y.toNat_lt
  omega
theorem size_str (xs : List Int) : (strOfNums xs).size = xs.length := by
  rw [← data_length, strOfNums_data, List.length_map]
theorem bytesOf_len (b : ByteArray) : (bytesOf b).length = b.size := bytesOf_length b
end Go.Proofs.YtnkkjmbpopodlaaDoor
namespace Go.Proofs.YtnkkjmbpopodlaaDoor
open Go.RowKit Go.Proofs.YtnkkjmbpopodlaaDoorW.PrintWords Go.Proofs.YtnkkjmbpopodlaaDoorW.PrintMore
theorem rdB_at {w : World} {ad : Addr} {n : Nat} {xs : List Int} (h : RdB w (some ad) n xs) (i : Nat) (hi : i < n) : w.cell? (ad.add i) = some (.int .u8 (rd xs i)) := by
  obtain ⟨ad', e, hx⟩ := Kd.at_int h (i : Int) (by omega) (by omega)
  cases e
  exact hx
end Go.Proofs.YtnkkjmbpopodlaaDoor
namespace Go.Proofs.YtnkkjmbpopodlaaDoor
open Go.RowKit
theorem at_cw {P : Program} {f : FuncId} {args : Array Value} {Q : Ending → World → Prop} (w : World) (h : Calls P f args w Q) : Calls P f args w Q := h
end Go.Proofs.YtnkkjmbpopodlaaDoor
namespace Go.Proofs.YtnkkjmbpopodlaaDoor
open Go.RowKit Go.Proofs.YtnkkjmbpopodlaaDoorW.PrintWords Go.Proofs.YtnkkjmbpopodlaaDoorW.PrintMore
set_option linter.unusedVariables false
/-- What a call leaves alone: all old blocks but those of S. -/
structure Fr (w w' : World) (S : Nat → Prop) : Prop where
  os : w'.os = w.os
  tape : w'.tape = w.tape
  output : w'.output = w.output
  size : w.heap.size ≤ w'.heap.size
  block : ∀ k, k < w.heap.size → ¬ S k → w'.heap[k]? = w.heap[k]?
theorem Fr.refl (w : World) (S : Nat → Prop) : Fr w w S := ⟨rfl, rfl, rfl, Nat.le_refl _, fun _ _ _ => rfl⟩
theorem Fr.call {w w1 w2 : World} {S : Nat → Prop} (h : Fr w w1 S) (k : Below w1.heap.size w1 w2) : Fr w w2 S :=
  ⟨k.os.trans h.os, k.tape.trans h.tape, k.output.trans h.output, Nat.le_trans h.size k.size, fun i hi hS => (k.block i (by have := h.size; omega)).trans (h.block i hi hS)⟩
theorem Fr.drew {w w1 : World} {S : Nat → Prop} (h : Fr w w1 S) : Fr w w1.drew S := h.call (Below.drew (Below.refl _ _))
theorem Fr.set {w w1 w2 : World} {S : Nat → Prop} {g : Nat} {o : Obj} (h : Fr w w1 S) (k : SetBlk w1 w2 g o) (hg : S g ∨ w.heap.size ≤ g) : Fr w w2 S := by
  have hb := k.below (Nat.le_refl g)
  refine ⟨hb.os.trans h.os, hb.tape.trans h.tape, hb.output.trans h.output, Nat.le_trans h.size hb.size, fun i hi hS => ?_⟩
  rw [k.else_ i (fun e => by subst e; exact hg.elim hS (fun hg => by omega)), h.block i hi hS]
theorem Fr.grown {w w1 w2 : World} {S : Nat → Prop} {r : Option Nat} (h : Fr w w1 S) (k : w1.grownBy w2 r) (hr : ∀ i, r = some i → S i ∨ w.heap.size ≤ i) : Fr w w2 S :=
  ⟨k.os.trans h.os, k.tape.trans h.tape, k.output.trans h.output, Nat.le_trans h.size k.size, fun i hi hS => (k.block i (by have := h.size; omega) (fun e => (hr i e.symm).elim hS (fun h1 => by omega))).trans (h.block i hi hS)⟩
theorem Fr.below {w w' : World} {S : Nat → Prop} {B : Nat} (h : Fr w w' S) (hS : ∀ k, S k → B ≤ k) (hB : B ≤ w.heap.size) : Below B w w' :=
  ⟨h.os, h.tape, h.output, h.size, fun k hk => h.block k (by omega) (fun hk2 => by have := hS k hk2; omega)⟩
theorem Fr.mono {w w' : World} {S T : Nat → Prop} (h : Fr w w' S) (hS : ∀ k, S k → T k) : Fr w w' T := ⟨h.os, h.tape, h.output, h.size, fun k hk hT => h.block k hk fun hs => hT (hS k hs)⟩
theorem Fr.trans {w w1 w2 : World} {S : Nat → Prop} (h : Fr w w1 S) (k : Fr w1 w2 S) : Fr w w2 S :=
  ⟨k.os.trans h.os, k.tape.trans h.tape, k.output.trans h.output, Nat.le_trans h.size k.size, fun i hi hS => (k.block i (by have := h.size; omega) hS).trans (h.block i hi hS)⟩
theorem Fr.later {w w1 : World} {S : Nat → Prop} (k : Below w.heap.size w w1) : Fr w w1 S := (Fr.refl w S).call k
theorem cell_lt' {w : World} {p : Addr} {v : Value} (h : w.cell? p = some v) : p.block < w.heap.size := by
  rcases Nat.lt_or_ge p.block w.heap.size with hl | hl
  · exact hl
  · have h1 : w.heap[p.block]? = none := by simp [hl]
    unfold World.cell? at h
    rw [h1] at h
    cases h
theorem Fr.cell {w w1 : World} {S : Nat → Prop} (h : Fr w w1 S) {p : Addr} {v : Value} (hc : w.cell? p = some v) (hS : ¬ S p.block) : w1.cell? p = some v := by
  rw [World.cell?_of_block (h.block p.block (cell_lt' hc) hS)]
  exact hc
end Go.Proofs.YtnkkjmbpopodlaaDoor
namespace Go.Proofs.YtnkkjmbpopodlaaDoor
open Go.RowKit Go.Proofs.YtnkkjmbpopodlaaDoorW.PrintWords
open Go.Proofs.YtnkkjmbpopodlaaDoorW.PrintLast (Region.reachB Region.closedB Region.lastB ListedClosed Region.closedB_spec ListedClosed.set Region.reach_not_ready)
set_option linter.unusedVariables false
section
variable {P : Program} {ops : Array Oper} {Q : Exit → Act → World → Prop} {md : Region.Mode} {ds : List Nat}

/-- w' is later than w: of w's blocks none has turned. -/
def Later (w w' : World) : Prop := Below w.heap.size w w'
theorem Later.size {w w' : World} (h : Later w w') : w.heap.size ≤ w'.heap.size := Below.size h
theorem Later.refl (w : World) : Later w w := Below.refl _ _
theorem Later.trans {a b c : World} (h : Later a b) (k : Later b c) : Later a c := Below.trans h (Below.mono k h.size)

/-- In every world that meets S the operation leaves v, and the world as it is: it yields v, or calls what hands back v. -/
def Yq (P : Program) (ops : Array Oper) (S : World → Prop) (o : Oper) (v : Value) (a : Act) : Prop :=
  (Region.wanted o (yielded ops a.tmps) = true ∧ ∀ w, S w → ((execOp a.eval o).run P w = .ok (.value v) w ∨ ∃ f args, (execOp a.eval o).run P w = .ok (.enter f args) w ∧ Calls P f args w (fun e w' => e = .returned v ∧ w = w'))) ∨
  (Region.wanted o (yielded ops a.tmps) = false ∧ v = undef)

theorem Yq.wpOp {S : World → Prop} {i : Nat} {o : Oper} {v : Value} {a : Act} (hi : ops[i]? = some o) (hy : Yq P ops S o v a)
    {K : Act → World → Prop} {w : World} (hS : S w) (h : K (a.put o.dst v) w) : wpOp P ops Q i K a w := by
  unfold Go.wpOp
  simp only [hi]
  rcases hy with ⟨hw, hv⟩ | ⟨hw, rfl⟩
  · simp only [hw, if_true, Oper.wp]
    rcases hv w hS with hr | ⟨f, args, hr, hc⟩
    · rw [hr]; exact .inl h
    · rw [hr]
      refine .inl ?_
      rw [Oper.upon_enter]
      refine hc.mono fun e w' he => ?_
      obtain ⟨rfl, rfl⟩ := he
      exact h
  · simp only [hw, Bool.false_eq_true, if_false]; exact h

theorem Yq.of_same {S : World → Prop} {o : Oper} {v : Value} {a a' : Act} (hy : Yq P ops S o v a) (he : execOp a'.eval o = execOp a.eval o)
    (hw : Region.wanted o (yielded ops a'.tmps) = Region.wanted o (yielded ops a.tmps)) : Yq P ops S o v a' := by
  unfold Yq at *
  rw [he, hw]
  exact hy
theorem Yq.imp {S S' : World → Prop} {o : Oper} {v : Value} {a : Act} (h : Yq P ops S o v a) (hS : ∀ w, S' w → S w) : Yq P ops S' o v a :=
  Or.imp (fun ⟨h1, h2⟩ => ⟨h1, fun w hw => h2 w (hS w hw)⟩) id h

/-- (The kit's wpOp_putIf, for Yq.) -/
theorem wpOp_putQ {S : World → Prop} {j : Nat} {oi oj : Oper} {v : Value} (hj : ops[j]? = some oj) (hap : oi.apart ops oj = true)
    (hsi : ∀ cs b, oi.op ≠ .select cs b) (hsj : ∀ cs b, oj.op ≠ .select cs b)
    (hQ : ∀ c a w, Q (.panic c) (a.put oi.dst v) w → Q (.panic c) a w) {K : Act → World → Prop} {a : Act} {w : World}
    (hy : Yq P ops S oi v a) (h : wpOp P ops Q j K (a.put oi.dst v) w) :
    wpOp P ops Q j (fun a' w' => Yq P ops S oi v a' ∧ K (a'.put oi.dst v) w') a w := by
  obtain ⟨h1, h2, h3⟩ := Oper.apart_spec hap
  have keep : ∀ (a : Act), Yq P ops S oi v a → ∀ u, Yq P ops S oi v (a.put oj.dst u) := fun a hy u =>
    hy.of_same (execOp_put oi hsi a oj.dst u h3) (wanted_put oi a oj.dst u h3)
  have keepD : ∀ d, Yq P ops S oi v { a with defers := d :: a.defers } := fun d => hy.of_same rfl rfl
  unfold wpOp at *
  simp only [hj] at *
  rw [wanted_put oj a oi.dst v h1] at h
  split
  · rename_i hw
    simp only [hw, if_true] at h
    rcases h with h | ⟨hasks, hlets⟩
    case inr => exact .inr ⟨by unfold Oper.asks at *; rw [execOp_put oj hsj a oi.dst v h1] at hasks; exact hasks, hlets⟩
    refine .inl ?_
    unfold Oper.wp at *
    rw [execOp_put oj hsj a oi.dst v h1] at h
    generalize (execOp a.eval oj).run P w = r at *
    cases r with
    | ok x w' =>
      cases x with
      | value u => exact ⟨keep a hy u, by rw [← Act.put_comm a v u h2]; exact h⟩
      | skip => exact ⟨keep a hy _, by rw [← Act.put_comm a v undef h2]; exact h⟩
      | defer d =>
        refine ⟨?_, ?_⟩
        · exact (keepD d).of_same (execOp_put oi hsi { a with defers := d :: a.defers } oj.dst undef h3) (wanted_put oi { a with defers := d :: a.defers } oj.dst undef h3)
        · rw [← Act.put_comm _ v undef h2, ← Act.put_defers]
          exact h
      | enter f args =>
        simp only [Oper.upon] at h ⊢
        refine h.mono fun e w'' he => ?_
        cases e with
        | returned u => exact ⟨keep a hy u, by rw [← Act.put_comm a v u h2]; exact he⟩
        | panicked c => exact hQ _ _ _ he
        | outgrown => exact he
      | row row args =>
        simp only [Oper.upon] at h ⊢
        exact h.mono fun u w'' he => ⟨keep a hy u, by rw [← Act.put_comm a v u h2]; exact he⟩
      | _ => exact h
    | halt x w' =>
      cases x with
      | panic u => exact hQ _ _ _ h
      | _ => exact h
  · rename_i hw
    simp only [hw, Bool.false_eq_true, if_false] at h
    exact ⟨keep a hy _, by rw [← Act.put_comm a v undef h2]; exact h⟩

/-- Whatever order is picked, each world is later than the one before, but behind those of ds. -/
def wpAnyL (P : Program) (md : Region.Mode) (ops : Array Oper) (Q : Exit → Act → World → Prop) (ds : List Nat) : Nat → Array Bool → Act → World → Prop
  | 0, listed, a, w => Region.ready md ops listed = [] ∧ Q .normal a w
  | fuel + 1, listed, a, w =>
    (Region.ready md ops listed = [] → Q .normal a w) ∧
    ∀ i ∈ Region.ready md ops listed, wpOp P ops Q i (fun a' w' => (i ∉ ds → Later w w') ∧ wpAnyL P md ops Q ds fuel (listed.setIfInBounds i true) a' w') a w

theorem wpAny_of_L : ∀ (fuel : Nat) (listed : Array Bool) (a : Act) (w : World), wpAnyL P md ops Q ds fuel listed a w → wpAny P md ops Q fuel listed a w
  | 0, _, _, _, h => h
  | fuel + 1, _, _, _, h => ⟨h.1, fun i hi => wpOp_mono (fun a' w' h' => wpAny_of_L fuel _ a' w' h'.2) (h.2 i hi)⟩

theorem wpAnyL_first {i : Nat} {oi : Oper} {v : Value} (hi : ops[i]? = some oi) (hsel : ∀ (j : Nat) (o : Oper) cs b, ops[j]? = some o → o.op ≠ .select cs b)
    (hQ : ∀ c a w, Q (.panic c) (a.put oi.dst v) w → Q (.panic c) a w) (n : Nat) :
    ∀ (fuel : Nat) (listed : Array Bool) (a : Act) (w : World),
      (∀ j oj, ops[j]? = some oj → j ≠ i → listed.getD j true = false → (∀ e ∈ oj.after, Region.binds md e = true → e.on ≠ i) → oi.apart ops oj = true) →
      ListedClosed md ops listed → (∀ d ∈ ds, listed.getD d true = false → Region.reachB md ops i n d = true) →
      i ∈ Region.ready md ops listed → Yq P ops (Later w) oi v a →
      wpAnyL P md ops Q ds fuel (listed.setIfInBounds i true) (a.put oi.dst v) w → wpAnyL P md ops Q ds (fuel + 1) listed a w := by
  intro fuel
  induction fuel with
  | zero =>
    intro listed a w _ _ _ hr hy H
    refine ⟨fun h => (by rw [h] at hr; cases hr), fun j hj => ?_⟩
    by_cases hji : j = i
    · subst hji; exact hy.wpOp hi (Later.refl w) ⟨fun _ => Later.refl w, H⟩
    · have := ready_mono hj hji
      rw [H.1] at this
      cases this
  | succ fuel ih =>
    intro listed a w hfree hc hd hr hy H
    refine ⟨fun h => (by rw [h] at hr; cases hr), fun j hj => ?_⟩
    by_cases hji : j = i
    · subst hji; exact hy.wpOp hi (Later.refl w) ⟨fun _ => Later.refl w, H⟩
    · have h1 := H.2 j (ready_mono hj hji)
      obtain ⟨hjun, oj, hoj, hall⟩ := mem_ready.1 hj
      have hiun := (mem_ready.1 hr).1
      have hnot : ∀ e ∈ oj.after, Region.binds md e = true → e.on ≠ i := fun e he hb heq => by
        have h1 := hall e he hb
        rw [heq] at h1
        rcases Nat.lt_or_ge i listed.size with h' | h'
        · simp [h'] at hiun h1; rw [hiun] at h1; cases h1
        · simp [Array.getElem?_eq_none h'] at h1
      have hjd : j ∉ ds := fun hm => Region.reach_not_ready hc (hd j hm hjun) hiun hj
      have h2 := wpOp_putQ hoj (hfree j oj hoj hji hjun hnot) (fun cs b => hsel i oi cs b hi) (fun cs b => hsel j oj cs b hoj) hQ hy h1
      have hfree' : ∀ k ok, ops[k]? = some ok → k ≠ i → (listed.setIfInBounds j true).getD k true = false →
          (∀ e ∈ ok.after, Region.binds md e = true → e.on ≠ i) → oi.apart ops ok = true := fun k ok hk hki hun hno => by
        refine hfree k ok hk hki ?_ hno
        by_cases hjk : j = k
        · subst hjk; exact hjun
        · rw [getD_set_ne true hjk] at hun; exact hun
      have hd' : ∀ d ∈ ds, (listed.setIfInBounds j true).getD d true = false → Region.reachB md ops i n d = true := fun d hdm hun => by
        refine hd d hdm ?_
        by_cases hjk : j = d
        · subst hjk; exact hjun
        · rw [getD_set_ne true hjk] at hun; exact hun
      refine wpOp_mono (fun a' w' h3 => ⟨h3.2.1, ih (listed.setIfInBounds j true) a' w' hfree' (hc.set hj) hd' (ready_mono hr (Ne.symm hji)) (Yq.imp h3.1 (fun w'' hl => (h3.2.1 hjd).trans hl)) ?_⟩) h2
      rw [Array.setIfInBounds_comm _ _ hji]
      exact h3.2.2

/-- An operation that no world hangs on. -/
theorem wpAnyL_firstP {i : Nat} {oi : Oper} {v : Value} (hi : ops[i]? = some oi) (hsel : ∀ (j : Nat) (o : Oper) cs b, ops[j]? = some o → o.op ≠ .select cs b)
    (hQ : ∀ c a w, Q (.panic c) (a.put oi.dst v) w → Q (.panic c) a w) :
    ∀ (fuel : Nat) (listed : Array Bool) (a : Act) (w : World),
      (∀ j oj, ops[j]? = some oj → j ≠ i → listed.getD j true = false → (∀ e ∈ oj.after, Region.binds md e = true → e.on ≠ i) → oi.apart ops oj = true) →
      i ∈ Region.ready md ops listed → Yq P ops (fun _ => True) oi v a →
      wpAnyL P md ops Q ds fuel (listed.setIfInBounds i true) (a.put oi.dst v) w → wpAnyL P md ops Q ds (fuel + 1) listed a w := by
  intro fuel
  induction fuel with
  | zero =>
    intro listed a w _ hr hy H
    refine ⟨fun h => (by rw [h] at hr; cases hr), fun j hj => ?_⟩
    by_cases hji : j = i
    · subst hji; exact hy.wpOp hi trivial ⟨fun _ => Later.refl w, H⟩
    · have := ready_mono hj hji
      rw [H.1] at this
      cases this
  | succ fuel ih =>
    intro listed a w hfree hr hy H
    refine ⟨fun h => (by rw [h] at hr; cases hr), fun j hj => ?_⟩
    by_cases hji : j = i
    · subst hji; exact hy.wpOp hi trivial ⟨fun _ => Later.refl w, H⟩
    · have h1 := H.2 j (ready_mono hj hji)
      obtain ⟨hjun, oj, hoj, hall⟩ := mem_ready.1 hj
      have hiun := (mem_ready.1 hr).1
      have hnot : ∀ e ∈ oj.after, Region.binds md e = true → e.on ≠ i := fun e he hb heq => by
        have h1 := hall e he hb
        rw [heq] at h1
        rcases Nat.lt_or_ge i listed.size with h' | h'
        · simp [h'] at hiun h1; rw [hiun] at h1; cases h1
        · simp [Array.getElem?_eq_none h'] at h1
      have h2 := wpOp_putQ hoj (hfree j oj hoj hji hjun hnot) (fun cs b => hsel i oi cs b hi) (fun cs b => hsel j oj cs b hoj) hQ hy h1
      have hfree' : ∀ k ok, ops[k]? = some ok → k ≠ i → (listed.setIfInBounds j true).getD k true = false →
          (∀ e ∈ ok.after, Region.binds md e = true → e.on ≠ i) → oi.apart ops ok = true := fun k ok hk hki hun hno => by
        refine hfree k ok hk hki ?_ hno
        by_cases hjk : j = k
        · subst hjk; exact hjun
        · rw [getD_set_ne true hjk] at hun; exact hun
      refine wpOp_mono (fun a' w' h3 => ⟨h3.2.1, ih (listed.setIfInBounds j true) a' w' hfree' (ready_mono hr (Ne.symm hji)) h3.1 ?_⟩) h2
      rw [Array.setIfInBounds_comm _ _ hji]
      exact h3.2.2

/-- One order: 'take': it only reads; 'pure': it hangs on no world; 'run': it is carried out; 'fork': either may come first. -/
inductive Ord where
  | done
  | pure (i : Nat) (r : Ord)
  | take (i : Nat) (r : Ord)
  | run (i : Nat) (r : Ord)
  | fork (i j : Nat) (ri rj : Ord)
def Ord.len : Ord → Nat
  | .done => 0
  | .pure _ r => r.len + 1
  | .take _ r => r.len + 1
  | .run _ r => r.len + 1
  | .fork _ _ r s => max r.len s.len + 1
def seqL (P : Program) (ops : Array Oper) (Q : Exit → Act → World → Prop) (ds : List Nat) : Ord → Act → World → Prop
  | .done, a, w => Q .normal a w
  | .pure i r, a, w => ∃ o v, ops[i]? = some o ∧ Yq P ops (fun _ => True) o v a ∧ seqL P ops Q ds r (a.put o.dst v) w
  | .take i r, a, w => ∃ o v, ops[i]? = some o ∧ Yq P ops (Later w) o v a ∧ seqL P ops Q ds r (a.put o.dst v) w
  | .run i r, a, w => wpOp P ops Q i (fun a' w' => (i ∉ ds → Later w w') ∧ seqL P ops Q ds r a' w') a w
  | .fork i j r s, a, w => wpOp P ops Q i (fun a' w' => (i ∉ ds → Later w w') ∧ seqL P ops Q ds r a' w') a w ∧ wpOp P ops Q j (fun a' w' => (j ∉ ds → Later w w') ∧ seqL P ops Q ds s a' w') a w
def seqOk (md : Region.Mode) (ops : Array Oper) (ds : List Nat) : Ord → Array Bool → Bool
  | .done, l => Region.ready md ops l == []
  | .pure i r, l => Region.free md ops l i && (Region.ready md ops l).contains i && seqOk md ops ds r (l.setIfInBounds i true)
  | .take i r, l => Region.free md ops l i && (Region.ready md ops l).contains i && Region.closedB md ops l && Region.lastB md ops l ds i && seqOk md ops ds r (l.setIfInBounds i true)
  | .run i r, l => Region.ready md ops l == [i] && seqOk md ops ds r (l.setIfInBounds i true)
  | .fork i j r s, l => Region.ready md ops l == [i, j] && seqOk md ops ds r (l.setIfInBounds i true) && seqOk md ops ds s (l.setIfInBounds j true)

theorem wpAnyL_fuel : ∀ (n m : Nat) (l : Array Bool) (a : Act) (w : World), wpAnyL P md ops Q ds n l a w → n ≤ m → wpAnyL P md ops Q ds m l a w
  | 0, 0, _, _, _, h, _ => h
  | 0, m + 1, _, _, _, h, _ => ⟨fun _ => h.2, fun i hi => by rw [h.1] at hi; cases hi⟩
  | n + 1, m + 1, _, _, _, h, hm => ⟨h.1, fun i hi => wpOp_mono (fun a' w' h3 => ⟨h3.1, wpAnyL_fuel n m _ _ _ h3.2 (by omega)⟩) (h.2 i hi)⟩
  | n + 1, 0, _, _, _, _, hm => absurd hm (by omega)

theorem any_of_seq (hs : Region.noSelect ops = true) (hQ : ∀ c a d v w, Q (.panic c) (a.put d v) w → Q (.panic c) a w) : ∀ (r : Ord) (l : Array Bool) (a : Act) (w : World),
    seqOk md ops ds r l = true → seqL P ops Q ds r a w → wpAnyL P md ops Q ds r.len l a w
  | .done, l, a, w, hc, h => by
    simp only [seqOk, beq_iff_eq] at hc
    exact ⟨hc, h⟩
  | .pure i r, l, a, w, hc, h => by
    simp only [seqOk, Bool.and_eq_true] at hc
    obtain ⟨⟨h1, h2⟩, h5⟩ := hc
    obtain ⟨o, v, hi, hy, h'⟩ := h
    exact wpAnyL_firstP hi (Region.noSelect_spec hs) (fun c a w => hQ c a _ _ w) r.len l a w (Region.free_spec hi h1) (by simpa using h2) hy (any_of_seq hs hQ r _ _ _ h5 h')
  | .take i r, l, a, w, hc, h => by
    simp only [seqOk, Bool.and_eq_true] at hc
    obtain ⟨⟨⟨⟨h1, h2⟩, h3⟩, h4⟩, h5⟩ := hc
    obtain ⟨o, v, hi, hy, h'⟩ := h
    refine wpAnyL_first hi (Region.noSelect_spec hs) (fun c a w => hQ c a _ _ w) ops.size r.len l a w (Region.free_spec hi h1) (Region.closedB_spec h3) ?_ (by simpa using h2) hy (any_of_seq hs hQ r _ _ _ h5 h')
    intro d hd hun
    have := List.all_eq_true.1 h4 d hd
    rw [hun] at this
    simpa using this
  | .run i r, l, a, w, hc, h => by
    simp only [seqOk, Bool.and_eq_true, beq_iff_eq] at hc
    refine ⟨fun h0 => ?_, fun j hj => ?_⟩
    · rw [h0] at hc; cases hc.1
    · rw [hc.1] at hj
      obtain rfl := List.mem_singleton.1 hj
      exact wpOp_mono (fun a' w' h3 => ⟨h3.1, any_of_seq hs hQ r _ _ _ hc.2 h3.2⟩) h
  | .fork i j r s, l, a, w, hc, h => by
    simp only [seqOk, Bool.and_eq_true, beq_iff_eq] at hc
    refine ⟨fun h0 => ?_, fun k hk => ?_⟩
    · rw [h0] at hc; cases hc.1.1
    · rw [hc.1.1] at hk
      simp only [List.mem_cons, List.not_mem_nil, or_false] at hk
      rcases hk with rfl | rfl
      · exact wpOp_mono (fun a' w' h3 => ⟨h3.1, wpAnyL_fuel _ _ _ _ _ (any_of_seq hs hQ r _ _ _ hc.1.2 h3.2) (Nat.le_max_left _ _)⟩) h.1
      · exact wpOp_mono (fun a' w' h3 => ⟨h3.1, wpAnyL_fuel _ _ _ _ _ (any_of_seq hs hQ s _ _ _ hc.2 h3.2) (Nat.le_max_right _ _)⟩) h.2

/-- THE BEGINNING: the order is given, one look checks it. -/
theorem seq_start {id : Nat} {a : Act} {w : World} (ds : List Nat) (r : Ord) (hm : P.follows .mixedOrders = true)
    (hc : (Region.noSelect ops && seqOk .any ops ds r (Array.replicate ops.size false) && decide (r.len ≤ ops.size)) = true)
    (hQ : ∀ c a d v w, Q (.panic c) (a.put d v) w → Q (.panic c) a w) (h : seqL P ops Q ds r a w.drew) : (Code.region id ops true).wp P Q a w := by
  simp only [Bool.and_eq_true, decide_eq_true_eq] at hc
  exact wp_region_any hm (wpAny_of_L _ _ _ _ (wpAnyL_fuel _ _ _ _ _ (any_of_seq hc.1.1 hQ r _ a w.drew hc.1.2 h) hc.2))

/-- Q, but nothing panics. -/
def noPanic (Q : Exit → Act → World → Prop) : Exit → Act → World → Prop
  | .panic _, _, _ => False
  | e, a, w => Q e a w
theorem seq_startN {id : Nat} {a : Act} {w : World} (ds : List Nat) (r : Ord) (hm : P.follows .mixedOrders = true)
    (hc : (Region.noSelect ops && seqOk .any ops ds r (Array.replicate ops.size false) && decide (r.len ≤ ops.size)) = true)
    (h : seqL P ops (noPanic Q) ds r a w.drew) : (Code.region id ops true).wp P Q a w :=
  wp_mono (seq_start ds r hm hc (fun _ _ _ _ _ h => h) h) (fun e a w h => by cases e <;> first | exact h | exact h.elim)
theorem seq_endN {a : Act} {w : World} (h : Q .normal a w) : seqL P ops (noPanic Q) ds .done a w := h
theorem seq_take {i : Nat} {r : Ord} {o : Oper} {N : Tmp} {v : Value} {a a' : Act} {w : World} (hi : ops[i]? = some o) (hN : o.dst = some N) (hw : Region.wanted o (yielded ops a.tmps) = true)
    (hy : ∀ w', Later w w' → (execOp a.eval o).run P w' = .ok (.value v) w') (ha : a.put (some N) v = a') (h : seqL P ops Q ds r a' w) : seqL P ops Q ds (.take i r) a w := by
  subst ha
  rw [← hN] at h
  exact ⟨o, v, hi, .inl ⟨hw, fun w' h' => .inl (hy w' h')⟩, h⟩
theorem seq_pure {i : Nat} {r : Ord} {o : Oper} {N : Tmp} {v : Value} {a a' : Act} {w : World} (hi : ops[i]? = some o) (hN : o.dst = some N) (hw : Region.wanted o (yielded ops a.tmps) = true)
    (hy : ∀ w', (execOp a.eval o).run P w' = .ok (.value v) w') (ha : a.put (some N) v = a') (h : seqL P ops Q ds r a' w) : seqL P ops Q ds (.pure i r) a w := by
  subst ha
  rw [← hN] at h
  exact ⟨o, v, hi, .inl ⟨hw, fun w' _ => .inl (hy w')⟩, h⟩
theorem call_run {o : Oper} {a : Act} {f : FuncId} {fn : Func} {ars : Array Operand} {ts : Array TypeId} (hop : o.op = .call { callee := .value (.func f), args := ars, argTypes := ts }) (hf : P.funcs[f]? = some fn) (hname : (fn.name == "runtime.NumGoroutine") = false) (hb : fn.body.isSome = true) (args : Array Value)
    (hargs : ars.map a.eval = args) (w : World) : (execOp a.eval o).run P w = .ok (.enter f args) w := by
  have he := Go.Proofs.YtnkkjmbpopodlaaDoorW.PrintLast.enters_ hf hname hb args w
  unfold execOp
  simp [hop, resolve, Deferred.ofValue, invoke, Act.eval, hargs, he]
/-- A call that leaves each world as it is: taken like a read. -/
theorem seq_quiet {i : Nat} {r : Ord} {o : Oper} {N : Tmp} {v : Value} {a a' : Act} {w : World} {f : FuncId} {fn : Func} {ars : Array Operand} {ts : Array TypeId} (hi : ops[i]? = some o) (hN : o.dst = some N) (hw : Region.wanted o (yielded ops a.tmps) = true)
    (hop : o.op = .call { callee := .value (.func f), args := ars, argTypes := ts }) (hf : P.funcs[f]? = some fn) (hname : (fn.name == "runtime.NumGoroutine") = false) (hb : fn.body.isSome = true) (args : Array Value)
    (hargs : ars.map a.eval = args) (hc : ∀ w', Later w w' → Calls P f args w' (fun e w'' => e = .returned v ∧ w' = w'')) (ha : a.put (some N) v = a') (h : seqL P ops Q ds r a' w) : seqL P ops Q ds (.take i r) a w := by
  subst ha
  rw [← hN] at h
  exact ⟨o, v, hi, .inl ⟨hw, fun w' h' => .inr ⟨f, args, call_run hop hf hname hb args hargs w', hc w' h'⟩⟩, h⟩
theorem seq_off {i : Nat} {r : Ord} {o : Oper} {N : Tmp} {a a' : Act} {w : World} (hi : ops[i]? = some o) (hN : o.dst = some N) (hw : Region.wanted o (yielded ops a.tmps) = false)
    (ha : a.put (some N) undef = a') (h : seqL P ops Q ds r a' w) : seqL P ops Q ds (.take i r) a w := by
  subst ha
  rw [← hN] at h
  exact ⟨o, undef, hi, .inr ⟨hw, rfl⟩, h⟩
/-- One that is carried out. -/
theorem do_ {i : Nat} {o : Oper} {a : Act} {w : World} {K : Act → World → Prop} (hi : ops[i]? = some o) (hw : Region.wanted o (yielded ops a.tmps) = true) (h : Oper.wp P o a w K Q) : wpOp P ops Q i K a w := by
  unfold wpOp
  simp only [hi, hw, if_true]
  exact .inl h
theorem do_off {i : Nat} {o : Oper} {N : Tmp} {a a' : Act} {w : World} {K : Act → World → Prop} (hi : ops[i]? = some o) (hN : o.dst = some N) (hw : Region.wanted o (yielded ops a.tmps) = false)
    (ha : a.put (some N) undef = a') (h : K a' w) : wpOp P ops Q i K a w := by
  subst ha
  rw [← hN] at h
  unfold wpOp
  simp only [hi, hw, Bool.false_eq_true, if_false]
  exact h
/-- One that is carried out and yields a value. -/
theorem do_val {i : Nat} {o : Oper} {N : Tmp} {a a' : Act} {w w1 : World} {v : Value} {K : Act → World → Prop} (hi : ops[i]? = some o) (hN : o.dst = some N) (hw : Region.wanted o (yielded ops a.tmps) = true)
    (hrun : (execOp a.eval o).run P w = .ok (.value v) w1) (ha : a.put (some N) v = a') (h : K a' w1) : wpOp P ops Q i K a w := by
  subst ha
  rw [← hN] at h
  refine do_ hi hw ?_
  unfold Oper.wp
  rw [hrun]
  exact h
/-- A store. -/
theorem do_store {i : Nat} {o : Oper} {a : Act} {w w1 : World} {K : Act → World → Prop} (hi : ops[i]? = some o) (hN : o.dst = none) (hw : Region.wanted o (yielded ops a.tmps) = true)
    (hrun : (execOp a.eval o).run P w = .ok .skip w1) (h : K a w1) : wpOp P ops Q i K a w := by
  refine do_ hi hw ?_
  unfold Oper.wp
  rw [hrun]
  show K (a.put o.dst undef) w1
  rw [hN]
  exact h
/-- A call, by its contract. -/
theorem do_call {i : Nat} {o : Oper} {N : Tmp} {a : Act} {w : World} {K : Act → World → Prop} {f : FuncId} {fn : Func} {ars : Array Operand} {ts : Array TypeId} (hi : ops[i]? = some o) (hN : o.dst = some N) (hw : Region.wanted o (yielded ops a.tmps) = true)
    (hop : o.op = .call { callee := .value (.func f), args := ars, argTypes := ts }) (hf : P.funcs[f]? = some fn) (hname : (fn.name == "runtime.NumGoroutine") = false) (hb : fn.body.isSome = true) (args : Array Value)
    (hargs : ars.map a.eval = args)
    (h : Calls P f args w fun e w' => ∃ v a', e = .returned v ∧ a.put (some N) v = a' ∧ K a' w') : wpOp P ops Q i K a w := by
  refine do_ hi hw ?_
  unfold Oper.wp
  rw [call_run hop hf hname hb args hargs w, Oper.upon_enter]
  refine h.mono fun e w'' hh => ?_
  obtain ⟨v, a', rfl, rfl, hk⟩ := hh
  rw [← hN] at hk
  exact hk
theorem seq_run {i : Nat} {r : Ord} {a : Act} {w : World} (h : wpOp P ops Q i (fun a' w' => (i ∉ ds → Later w w') ∧ seqL P ops Q ds r a' w') a w) : seqL P ops Q ds (.run i r) a w := h
theorem seq_end {a : Act} {w : World} (h : Q .normal a w) : seqL P ops Q ds .done a w := h
end
end Go.Proofs.YtnkkjmbpopodlaaDoor
namespace Go.Proofs.YtnkkjmbpopodlaaDoor
open Go.RowKit Go.Proofs.YtnkkjmbpopodlaaDoorW.PrintWords Go.Proofs.YtnkkjmbpopodlaaDoorW.PrintMore
set_option linter.unusedVariables false
section
variable {P : Program} {ops : Array Oper} {Q : Exit → Act → World → Prop} {ds : List Nat}
/-- A whole variable is written, in a drawn region. -/
theorem do_blk {i : Nat} {o : Oper} {a : Act} {w : World} {K : Act → World → Prop} (hi : ops[i]? = some o) (hN : o.dst = none) (hw : Region.wanted o (yielded ops a.tmps) = true) (ty : TypeId) (x y : Operand) (ho : o.op = .store ty x y) {g : Nat} {vs : List Value} (hx : a.eval x = .pointer (some ⟨g, 0, none⟩)) (hy : a.eval y = .agg vs.toArray)
    {cur : Array Value} {e : TypeId} (hg : w.heap[g]? = some (.cells cur e (0, 0))) (hs : cur.size = vs.length) (hi' : (P.info? ty).map (·.size) = some vs.length) (h1 : ∀ v ∈ vs, v.oneCell' = true)
    (h : ∀ w1, SetBlk w w1 g (.cells vs.toArray e (0, 0)) → K a w1) : wpOp P ops Q i K a w :=
  do_store hi hN hw (store_run ho hx hy (st_row hg ty vs hs hi' h1)) (h _ (setBlk_cells hg vs hs))
end
theorem Later.heap {w w' : World} {g : Nat} {o : Obj} (h : Later w w') (hg : w.heap[g]? = some o) : w'.heap[g]? = some o := by
  rw [h.block g (Array.getElem?_eq_some_iff.1 hg).1]
  exact hg
end Go.Proofs.YtnkkjmbpopodlaaDoor
namespace Go.Proofs.YtnkkjmbpopodlaaDoor
open Go.RowKit Go.Proofs.YtnkkjmbpopodlaaDoorW.PrintWords Go.Proofs.YtnkkjmbpopodlaaDoorW.PrintMore
set_option linter.unusedVariables false
set_option linter.unusedSimpArgs false
section
variable {P : Program}
theorem alloc_run {w : World} {t : TypeId} {i : TypeInfo} {z : Value} (hi : P.info? t = some i) (hz : i.zero = some z) (old : Value) : (Instr.alloc t true old).run P w = .ok (.pointer (some ⟨w.heap.size, 0, none⟩)) (w.alloc (.cells z.cells t)) := by
  simp [Instr.alloc, zeroValue, typeInfo, hi, hz, newVar, newRow]
/-- A world with one block more. -/
structure NewBlk (w w1 : World) (g : Nat) (o : Obj) : Prop where
  below : Below w.heap.size w w1
  at_ : w1.heap[g]? = some o
  ge : w.heap.size ≤ g
theorem NewBlk.lt {w w1 : World} {g : Nat} {o : Obj} (h : NewBlk w w1 g o) : g < w1.heap.size := (Array.getElem?_eq_some_iff.1 h.at_).1
theorem NewBlk.blk {w w1 : World} {g k : Nat} {o o' : Obj} (h : NewBlk w w1 g o) (hb : w.heap[k]? = some o') : w1.heap[k]? = some o' :=
  (h.below.block k (Array.getElem?_eq_some_iff.1 hb).1).trans hb
theorem blk_below {w w1 : World} {k : Nat} {o' : Obj} (h : Below w.heap.size w w1) (hb : w.heap[k]? = some o') : w1.heap[k]? = some o' :=
  (h.block k (Array.getElem?_eq_some_iff.1 hb).1).trans hb
theorem blk_lt {w : World} {k : Nat} {o : Obj} (hb : w.heap[k]? = some o) : k < w.heap.size := (Array.getElem?_eq_some_iff.1 hb).1
section
variable {ops : Array Oper} {rest : List Oper} {a : Act} {Q : Exit → Act → World → Prop} {w : World}
/-- v := x, v a variable in memory: made and written. -/
theorem new_var {o1 o2 : Oper} {N : Tmp} (hg1 : o1.guard = none) (hg2 : o2.guard = none) (hd1 : o1.dst = some N) (t : TypeId) (ho1 : o1.op = .alloc t) (y : Operand) (ho2 : o2.op = .store t (.tmp N) y) {vs : List Value}
    (hN : N < a.tmps.size) (hy : (a.put (some N) (.pointer (some ⟨w.heap.size, 0, none⟩))).eval y = .agg vs.toArray) {i : TypeInfo} {z : Value} (hi : P.info? t = some i) (hz : i.zero = some z) (hs : z.cells.size = vs.length) (hi2 : i.size = vs.length) (h1 : ∀ v ∈ vs, v.oneCell' = true)
    (h : ∀ w1 g, NewBlk w w1 g (.cells vs.toArray t (0, 0)) → wpList P ops Q rest ((a.put (some N) (.pointer (some ⟨g, 0, none⟩))).put o2.dst undef) w1) : wpList P ops Q (o1 :: o2 :: rest) a w := by
  refine wpList_plain hg1 fun K hK => ?_
  unfold Oper.wp
  have hr : (execOp a.eval o1).run P w = .ok (.value (.pointer (some ⟨w.heap.size, 0, none⟩))) (w.alloc (.cells z.cells t)) := by
    unfold execOp
    simp only [ho1, Sem.run_bind, alloc_run hi hz, Result.andThen_ok, Sem.run_pure]
  rw [hr]
  refine hK _ _ ?_
  rw [hd1]
  have hb := blk_new w (.cells z.cells t)
  refine store_blk hg2 t (.tmp N) y ho2 (g := w.heap.size) (vs := vs) ?_ hy hb hs (by rw [hi]; exact congrArg some hi2) h1 ?_
  · show (a.tmps.setIfInBounds N _).getD N undef = _
    simp [hN]
  · intro w1 HS
    exact h w1 _ ⟨((Below.refl _ _).alloc (Nat.le_refl _) _).trans (HS.below (Nat.le_refl _)), HS.at_, Nat.le_refl _⟩
end
/-- Rows laid one behind the other. -/
theorem fold_set : ∀ (v : List Value) (j : Nat) (pre mid post : List Value) (off : Nat), off + j = pre.length → mid.length = v.length →
    (v.zipIdx j).foldl (fun (cs : Array Value) (x : Value × Nat) => cs.setIfInBounds (off + x.2) x.1) (pre ++ mid ++ post).toArray = (pre ++ v ++ post).toArray
  | [], j, pre, mid, post, off, h, hl => by
    obtain rfl : mid = [] := List.eq_nil_of_length_eq_zero hl
    rfl
  | x :: v, j, pre, [], post, off, h, hl => by cases hl
  | x :: v, j, pre, y :: mid, post, off, h, hl => by
    rw [List.zipIdx_cons, List.foldl_cons]
    have e : ((pre ++ (y :: mid) ++ post).toArray).setIfInBounds (off + j) x = (pre ++ [x] ++ mid ++ post).toArray := by
      rw [h, List.setIfInBounds_toArray, List.append_assoc, List.set_append_right _ _ (Nat.le_refl _), Nat.sub_self]
      simp
    show List.foldl _ (((pre ++ (y :: mid) ++ post).toArray).setIfInBounds (off + j) x) _ = _
    rw [e]
    have ih := fold_set v (j + 1) (pre ++ [x]) mid post off (by simp; omega) (by simpa using hl)
    rw [ih]
    simp
theorem fill_rows (size : Nat) : ∀ (vs : List (List Value)) (k : Nat) (pre post : List Value), (∀ v ∈ vs, v.length = size) → pre.length = k * size → post.length = vs.length * size →
    Instr.fill (fun i => some (i * size, size)) (pre ++ post).toArray ((vs.zipIdx k).map fun x => (x.2, Value.agg x.1.toArray)) = some (pre ++ vs.flatten).toArray
  | [], k, pre, post, _, _, hl => by
    obtain rfl : post = [] := List.eq_nil_of_length_eq_zero (by simpa using hl)
    rfl
  | v :: vs, k, pre, post, hv, hp, hl => by
    have hvl := hv v (by simp)
    have hl2 : post.length = size + vs.length * size := by rw [hl, List.length_cons, Nat.succ_mul, Nat.add_comm]
    rw [List.zipIdx_cons, List.map_cons]
    unfold Instr.fill
    have hsz : (Value.agg v.toArray).cells.size = size := by simpa [Value.cells] using hvl
    simp only
    rw [if_neg (by rw [hsz, List.size_toArray, List.length_append, hp, hl2]; simp)]
    have e : (Value.agg v.toArray).cells.zipIdx.foldl (fun (cs : Array Value) (x : Value × Nat) => cs.setIfInBounds (k * size + x.2) x.1) (pre ++ post).toArray = (pre ++ v ++ post.drop size).toArray := by
      have h := fold_set v 0 pre (post.take size) (post.drop size) (k * size) (by omega) (by rw [List.length_take]; omega)
      rw [List.append_assoc pre (post.take size), List.take_append_drop] at h
      rw [← h]
      show (v.toArray.zipIdx).foldl _ _ = _
      rw [← Array.foldl_toList]
      simp
    have h2 := fill_rows size vs (k + 1) (pre ++ v) (post.drop size) (fun u hu => hv u (by simp [hu])) (by rw [List.length_append, hp, hvl, Nat.succ_mul]) (by rw [List.length_drop, hl2]; omega)
    rw [List.append_assoc pre v vs.flatten] at h2
    rw [List.flatten_cons, ← h2]
    congr 1
theorem rows_run {w : World} {t e : TypeId} {it : TypeInfo} {z : Value} {size : Nat} (hu : P.underlying t = some (.slice e)) (hi : P.info? e = some it) (hz : it.zero = some z) (hs : it.size = size) (vs : List (List Value)) (hv : ∀ v ∈ vs, v.length = size) (hb : vs.length * size ≤ 2 ^ 24) (hp : vs.length * size ≠ 0)
    (n : Nat) (hn : n = vs.length) (parts : Array (Nat × Value)) (hparts : parts.toList = vs.zipIdx.map fun x => (x.2, Value.agg x.1.toArray)) :
    (Instr.buildSlice t n parts).run P w = .ok (.slice (some ⟨w.heap.size, 0, none⟩) n n) (w.alloc (.cells vs.flatten.toArray e)) := by
  subst hn
  have hf := fill_rows size vs 0 [] ((Array.range (vs.length * size)).map (z.cells[· % z.cells.size]!)).toList hv (by simp) (by simp)
  rw [← hparts, List.nil_append, List.nil_append] at hf
  rw [show (Array.map (fun x => z.cells[x % z.cells.size]!) (Array.range (vs.length * size))).toList.toArray = Array.map (fun x => z.cells[x % z.cells.size]!) (Array.range (vs.length * size)) from rfl] at hf
  unfold Instr.buildSlice
  simp only [Sem.run_bind, run_underlying hu, Result.andThen_ok, sizeOf, typeInfo, hi, Sem.run_pure, run_program, hs, if_neg hp, if_neg (Nat.not_lt.2 hb), zeroValue, hz, hf, newRow]
  simp [hf, hi, hs, hz, zeroValue, typeInfo, newRow]
end
section
variable {P : Program} {ops : Array Oper} {rest : List Oper} {o : Oper} {a : Act} {Q : Exit → Act → World → Prop} {w : World}
theorem rows_exec {t e : TypeId} (n : Nat) (parts : Array (Nat × Operand)) (ho : o.op = .buildSlice t n parts) {it : TypeInfo} {z : Value} {size : Nat} (hu : P.underlying t = some (.slice e)) (hi : P.info? e = some it) (hz : it.zero = some z) (hs : it.size = size) (vs : List (List Value)) (hv : ∀ v ∈ vs, v.length = size) (hb : vs.length * size ≤ 2 ^ 24) (hp : vs.length * size ≠ 0)
    (hn : n = vs.length) (hparts : (parts.toList.map fun (i, x) => (i, a.eval x)) = vs.zipIdx.map fun x => (x.2, Value.agg x.1.toArray)) : (execOp a.eval o).run P w = .ok (.value (.slice (some ⟨w.heap.size, 0, none⟩) n n)) (w.alloc (.cells vs.flatten.toArray e)) := by
  unfold execOp
  simp only [ho, Sem.run_bind]
  rw [rows_run hu hi hz hs vs hv hb hp n hn _ (by simpa using hparts)]
  simp
/-- []T{x, y, ..}. -/
theorem rows_arm {t e : TypeId} (hgd : o.guard = none) (n : Nat) (parts : Array (Nat × Operand)) (ho : o.op = .buildSlice t n parts) {it : TypeInfo} {z : Value} {size : Nat} (hu : P.underlying t = some (.slice e)) (hi : P.info? e = some it) (hz : it.zero = some z) (hs : it.size = size) (vs : List (List Value)) (hv : ∀ v ∈ vs, v.length = size) (hb : vs.length * size ≤ 2 ^ 24) (hp : vs.length * size ≠ 0)
    (hn : n = vs.length) (hparts : (parts.toList.map fun (i, x) => (i, a.eval x)) = vs.zipIdx.map fun x => (x.2, Value.agg x.1.toArray))
    (h : ∀ w1 g, NewBlk w w1 g (.cells vs.flatten.toArray e (0, 0)) → wpList P ops Q rest (a.put o.dst (.slice (some ⟨g, 0, none⟩) n n)) w1) : wpList P ops Q (o :: rest) a w := by
  refine wpList_plain hgd fun K hK => ?_
  unfold Oper.wp
  rw [rows_exec n parts ho hu hi hz hs vs hv hb hp hn hparts]
  exact hK _ _ (h _ _ ⟨(Below.refl _ _).alloc (Nat.le_refl _) _, blk_new w _, Nat.le_refl _⟩)
end
section
variable {P : Program} {ops : Array Oper} {rest : List Oper} {a : Act} {Q : Exit → Act → World → Prop} {w : World} {d : Option Tmp} {ty0 : TypeId} {ps : String} {af : Array Edge} {n : Nat} {parts : Array (Nat × Operand)}
theorem at_bs (ty : TypeId) (h : wpList P ops Q ({ dst := d, op := .buildSlice ty n parts, type := ty0, pos := ps, after := af, guard := none } :: rest) a w) : wpList P ops Q ({ dst := d, op := .buildSlice ty n parts, type := ty0, pos := ps, after := af, guard := none } :: rest) a w := h
end
end Go.Proofs.YtnkkjmbpopodlaaDoor
namespace Go.Proofs.YtnkkjmbpopodlaaDoor
open Go.RowKit Go.Proofs.YtnkkjmbpopodlaaDoorW.PrintWords Go.Proofs.YtnkkjmbpopodlaaDoorW.PrintMore
set_option linter.unusedVariables false
structure Bag (w0 w : World) (L : List (Nat × Obj)) : Prop where
  holds : ∀ x ∈ L, w.heap[x.1]? = some x.2
  nodup : (L.map (·.1)).Nodup
  below : Below w0.heap.size w0 w
  ge : ∀ x ∈ L, w0.heap.size ≤ x.1
theorem Bag.at {w0 w : World} {L : List (Nat × Obj)} (h : Bag w0 w L) (i : Nat) {g : Nat} {o : Obj} (hi : L[i]? = some (g, o)) : w.heap[g]? = some o := h.holds (g, o) (List.mem_of_getElem? hi)
theorem Bag.nil (w : World) : Bag w w [] := ⟨(fun x h => absurd h List.not_mem_nil), List.nodup_nil, Below.refl _ _, (fun x h => absurd h List.not_mem_nil)⟩
theorem Bag.call {w0 w w1 : World} {L : List (Nat × Obj)} (h : Bag w0 w L) (k : Below w.heap.size w w1) : Bag w0 w1 L :=
  ⟨fun x hx => blk_below k (h.holds x hx), h.nodup, h.below.trans (k.mono h.below.size), h.ge⟩
theorem Bag.drew {w0 w : World} {L : List (Nat × Obj)} (h : Bag w0 w L) : Bag w0 w.drew L := ⟨h.holds, h.nodup, Below.drew h.below, h.ge⟩
theorem Bag.new {w0 w w1 : World} {L : List (Nat × Obj)} {g : Nat} {o : Obj} (h : Bag w0 w L) (k : NewBlk w w1 g o) : Bag w0 w1 (L ++ [(g, o)]) := by
  refine ⟨fun x hx => ?_, ?_, h.below.trans (k.below.mono h.below.size), fun x hx => ?_⟩
  · rcases List.mem_append.1 hx with hx | hx
    · exact k.blk (h.holds x hx)
    · obtain rfl := List.mem_singleton.1 hx
      exact k.at_
  · rw [List.map_append]
    refine List.nodup_append.2 ⟨h.nodup, by simp, ?_⟩
    intro a ha b hb
    obtain ⟨x, hx, rfl⟩ := List.mem_map.1 ha
    obtain ⟨y, hy, rfl⟩ := List.mem_map.1 hb
    obtain rfl := List.mem_singleton.1 hy
    have := blk_lt (h.holds x hx)
    have := k.ge
    show x.1 ≠ g
    omega
  · rcases List.mem_append.1 hx with hx | hx
    · exact h.ge x hx
    · obtain rfl := List.mem_singleton.1 hx
      exact Nat.le_trans h.below.size k.ge
theorem Bag.set {w0 w w1 : World} {L : List (Nat × Obj)} (h : Bag w0 w L) (i : Nat) {g : Nat} {o o' : Obj} (hi : L[i]? = some (g, o')) (k : SetBlk w w1 g o) : Bag w0 w1 (L.set i (g, o)) := by
  have hlt := (List.getElem?_eq_some_iff.1 hi).1
  have hge := h.ge (g, o') (List.mem_of_getElem? hi)
  refine ⟨fun x hx => ?_, ?_, h.below.trans (k.below hge), fun x hx => ?_⟩
  · obtain ⟨j, hj⟩ := List.mem_iff_getElem?.1 hx
    by_cases hij : j = i
    · subst hij
      rw [List.getElem?_set_self hlt] at hj
      obtain rfl := Option.some.inj hj
      exact k.at_
    · rw [List.getElem?_set_ne (Ne.symm hij)] at hj
      refine k.blk ?_ (h.holds x (List.mem_of_getElem? hj))
      intro he
      have h1 : (L.map (·.1))[j]? = some g := by rw [List.getElem?_map, hj, ← he]; rfl
      have h2 : (L.map (·.1))[i]? = some g := by rw [List.getElem?_map, hi]; rfl
      have hjl : j < (L.map (·.1)).length := (List.getElem?_eq_some_iff.1 h1).1
      exact hij ((List.getElem?_inj hjl h.nodup).1 (h1.trans h2.symm))
  · have : (L.set i (g, o)).map (·.1) = L.map (·.1) := by
      rw [List.map_set]
      have h2 : (L.map (·.1))[i]? = some g := by rw [List.getElem?_map, hi]; rfl
      obtain ⟨hl, he⟩ := List.getElem?_eq_some_iff.1 h2
      rw [← he]
      exact List.set_getElem_self hl
    rw [this]
    exact h.nodup
  · obtain ⟨j, hj⟩ := List.mem_iff_getElem?.1 hx
    by_cases hij : j = i
    · subst hij
      rw [List.getElem?_set_self hlt] at hj
      obtain rfl := Option.some.inj hj
      exact hge
    · rw [List.getElem?_set_ne (Ne.symm hij)] at hj
      exact h.ge x (List.mem_of_getElem? hj)
/-- A parameter in memory. -/
theorem Bag.box {w0 w : World} {L : List (Nat × Obj)} (h : Bag w0 w L) (cs : Array Value) (t : TypeId) : Bag w0 (w.alloc (.cells cs t)) (L ++ [(w.heap.size, .cells cs t (0, 0))]) :=
  h.new ⟨(Below.refl _ _).alloc (Nat.le_refl _) _, blk_new w _, Nat.le_refl _⟩
/-- A row of one's own is read wherever the blocks from base on are as they were. -/
theorem rd_far {w w1 : World} {base n c : Nat} {A : Option Addr} {xs : List Int} (hO : OwB w base (.slice A n c) xs) (h : ∀ k, base ≤ k → k < w.heap.size → w1.heap[k]? = w.heap[k]?) : RdB w1 A n xs := by
  obtain ⟨hnc, hr⟩ := OwB.parts hO
  have hr' := Kd.reads_of_C (d := (0 : Int)) hr
  refine Kd.C_of_reads (d := (0 : Int)) ⟨hr'.1, hr'.2.1, fun hp => ?_⟩
  obtain ⟨ad, he, hc⟩ := hr'.2.2 hp
  obtain ⟨g, cap, hv, hb, hl⟩ := OwB.place hO (by have := hr'.1; omega)
  refine ⟨ad, he, fun j hj => ?_⟩
  rw [← hc j hj]
  have hA : A = some ⟨g, 0, none⟩ := by
    injection hv
  rw [he] at hA
  injection hA with hA
  subst hA
  rw [add_plain]
  unfold World.cell?
  rw [h g hb hl]
end Go.Proofs.YtnkkjmbpopodlaaDoor
namespace Go.Proofs.YtnkkjmbpopodlaaDoor
open Go.RowKit Go.Proofs.YtnkkjmbpopodlaaDoorW.PrintWords Go.Proofs.YtnkkjmbpopodlaaDoorW.PrintMore
set_option linter.unusedVariables false
def midL (xs : List Int) (i j : Nat) : List Int := (xs.take j).drop i
theorem midL_len {xs : List Int} {i j : Nat} (h : j ≤ xs.length) : (midL xs i j).length = j - i := by unfold midL; rw [List.length_drop, List.length_take]; omega
theorem cutMid {w : World} {A : Option Addr} {n c : Nat} {xs : List Int} (h : RdB w A n xs) (hc : n ≤ c) (i j : Int) (h0 : 0 ≤ i) (h1 : i ≤ j) (h2 : j ≤ n) :
    (∀ W : World, (Instr.slice 37 (.slice A n c) (some (.int .i64 i)) (some (.int .i64 j)) none).run Tryd.prog W = .ok (.slice (if c = i.toNat then A else A.map (·.add i.toNat)) (j.toNat - i.toNat) (c - i.toNat)) W) ∧
    RdB w (if c = i.toNat then A else A.map (·.add i.toNat)) (j.toNat - i.toNat) (midL xs i.toNat j.toNat) := by
  obtain ⟨i0, hi, _, hsz, _⟩ := info_parts infoB
  obtain rfl : xs.length = n := h.1
  refine ⟨?_, ?_⟩
  · have := cut_mid (P := Tryd.prog) 37 5 .i64 .i64 Tryd.underlying37 hi 1 hsz A xs.length c i j h0 h1 h2 hc
    simpa using this
  · have := Kd.C_mid (k := Kd.int .u8) (lo := i.toNat) (hi := j.toNat) h (by omega) (by omega) hc
    rw [show (List.drop i.toNat (List.take j.toNat xs)).length = j.toNat - i.toNat from midL_len (by omega)] at this
    rw [show i.toNat * (Kd.int .u8).sz = i.toNat from Nat.mul_one _] at this
    exact this
/-- From base on, what stood in w stands in w1. -/
def Far (base : Nat) (w w1 : World) : Prop := w.heap.size ≤ w1.heap.size ∧ ∀ k, base ≤ k → k < w.heap.size → w1.heap[k]? = w.heap[k]?
theorem midL_snoc {xs : List Int} {i j : Nat} (h1 : i ≤ j) (h2 : j < xs.length) : midL xs i (j + 1) = midL xs i j ++ [rd xs j] := by
  unfold midL
  rw [List.take_add_one, List.getElem?_eq_getElem h2, List.drop_append_of_le_length (by rw [List.length_take]; omega)]
  unfold Go.Proofs.YtnkkjmbpopodlaaDoorW.PrintWords.rd
  rw [Int.toNat_natCast, List.getD_eq_getElem?_getD, List.getElem?_eq_getElem h2]
  rfl
theorem midL_self (xs : List Int) (i : Nat) : midL xs i i = [] := by unfold midL; rw [List.drop_eq_nil_of_le]; rw [List.length_take]; omega
theorem Bytes.mid {xs : List Int} (h : Bytes xs) (i j : Nat) : Bytes (midL xs i j) := (h.take j).drop i
end Go.Proofs.YtnkkjmbpopodlaaDoor
namespace Go.Proofs.YtnkkjmbpopodlaaDoor
open Go.RowKit Go.Proofs.YtnkkjmbpopodlaaDoorW.PrintWords Go.Proofs.YtnkkjmbpopodlaaDoorW.PrintMore
set_option linter.unusedVariables false
set_option linter.unusedSimpArgs false
section
variable {ops : Array Oper} {rest : List Oper} {o : Oper} {a : Act} {Q : Exit → Act → World → Prop}
/-- make([]byte, n). -/
theorem makeB {w0 W : World} (base : Nat) (hgd : o.guard = none) {N : Tmp} (hd : o.dst = some N) (x y : Operand) (ho : o.op = .makeSlice 37 x y) (n : Int) (hx : a.eval x = .int .i64 n) (hy : a.eval y = .int .i64 n) (h0 : 0 ≤ n) (hl : n ≤ 281474976710656)
    (HB : Below base w0 W) (hbase : base ≤ W.heap.size)
    (h : ∀ v1 w1, OwB w1 base v1 (List.replicate n.toNat 0) → Below base w0 w1 → wpList Tryd.prog ops Q rest (a.put o.dst v1) w1) : wpList Tryd.prog ops Q (o :: rest) a W :=
  Kd.R_make (Kd.int .u8) base 5 hgd hd 37 x y ho n hx hy Tryd.underlying37 (.int .u8 0) 1 infoB rfl (by decide) (by decide) (0 : Int) (ok := fun _ => True) (okp := fun _ => True) rfl (fun _ _ => trivial) trivial h0 (by omega) HB hbase
    (fun v1 w1 h1 h2 _ _ => h v1 w1 h1 h2)
end
/-- xs with ys written over it from place o on. -/
def over (xs ys : List Int) (o : Nat) : List Int := xs.take o ++ ys ++ xs.drop (o + ys.length)
theorem over_cons {xs ys : List Int} {y : Int} {o : Nat} (h : o + (ys.length + 1) ≤ xs.length) : over (xs.set o y) ys (o + 1) = over xs (y :: ys) o := by
  unfold over
  have hl : o < xs.length := by omega
  rw [List.take_succ_eq_append_getElem (by rw [List.length_set]; exact hl), List.getElem_set_self, List.take_set_of_le (Nat.le_refl _), List.drop_set_of_lt (by omega)]
  simp [Nat.add_assoc, Nat.add_comm 1]
theorem OwB.setCells {base g cap : Nat} : ∀ (ys : List Int) (o : Nat) (w : World) (xs : List Int), OwB w base (.slice (some ⟨g, 0, none⟩) xs.length cap) xs → o + ys.length ≤ xs.length →
    OwB (w.setCells g o (ys.map (Value.int .u8))) base (.slice (some ⟨g, 0, none⟩) xs.length cap) (over xs ys o)
  | [], o, w, xs, h, _ => by simpa [over, World.setCells] using h
  | y :: ys, o, w, xs, h, hl => by
    simp only [List.length_cons] at hl
    have h1 := OwB.store h (o : Int) y
    rw [Int.toNat_natCast] at h1
    have h2 := OwB.setCells (base := base) (g := g) (cap := cap) ys (o + 1) (w.setCell ⟨g, o, none⟩ (.int .u8 y)) (xs.set o y) (by rw [List.length_set]; exact h1) (by rw [List.length_set]; omega)
    rw [List.length_set, over_cons hl] at h2
    exact h2
theorem below_setCells {B g : Nat} (hB : B ≤ g) : ∀ (vs : List Value) (o : Nat) (w w0 : World), Below B w0 w → Below B w0 (w.setCells g o vs)
  | [], _, _, _, h => h
  | v :: vs, o, w, w0, h => below_setCells hB vs (o + 1) _ _ (h.setCell hB v)
/-- copy(dst, ys): the run. -/
theorem copy_bytes {w w0 : World} {base g cap : Nat} {xs ys : List Int} (HO : OwB w base (.slice (some ⟨g, 0, none⟩) xs.length cap) xs) (HB : Below base w0 w) (o : Nat) (ho : o + ys.length ≤ xs.length) (D : Option Addr) (hD : 0 < ys.length → D = some ⟨g, o, none⟩)
    (dlen dcap : Nat) (hd : ys.length ≤ dlen) (A : Option Addr) (c : Nat) (HR : RdB w A ys.length ys) (ty : TypeId) :
    ∃ w1, (Builtin.copy_ #[37, 37] ty #[.slice D dlen dcap, .slice A ys.length c]).run Tryd.prog w = .ok (.int .i64 (ys.length : Int)) w1 ∧ OwB w1 base (.slice (some ⟨g, 0, none⟩) xs.length cap) (over xs ys o) ∧ Below base w0 w1 := by
  have hs : (Tryd.prog.info? 5).map (·.size) = some 1 := by kernel_rfl
  rcases Nat.eq_zero_or_pos ys.length with h0 | hp
  · refine ⟨w, ?_, ?_, HB⟩
    · rw [run_copy_none w 37 37 ty 5 D A dlen dcap ys.length c Tryd.underlying37 hs (by rw [h0]; exact Nat.zero_min _), h0]
      rfl
    · obtain rfl : ys = [] := List.eq_nil_of_length_eq_zero h0
      simpa [over] using HO
  · obtain ⟨hr1, hr2, hr3⟩ := Kd.reads_of_C (d := (0 : Int)) HR
    obtain ⟨ad, rfl, hc⟩ := hr3 hp
    rw [hD hp]
    have hg := (Kd.R_form HO (by omega))
    obtain ⟨g', cap', he, hbg, _, _⟩ := hg
    have hbg' : base ≤ g := by
      injection he with e1 e2 e3
      injection e1 with e1
      injection e1 with e1
      omega
    refine ⟨w.setCells g o (ys.map (Value.int .u8)), ?_, OwB.setCells ys o w xs HO ho, below_setCells hbg' _ _ _ _ HB⟩
    have hn : (ys.map (Value.int .u8)).length = Nat.min ys.length dlen := by
      rw [List.length_map]
      exact (Nat.min_eq_left hd).symm
    have hcell : ∀ j, j < (ys.map (Value.int .u8)).length → w.cell? ⟨g, o + j, none⟩ = some (.int .u8 (rd xs ((o + j : Nat) : Int))) ∧ w.frozen? ⟨g, o + j, none⟩ = false := fun j hj => by
      rw [List.length_map] at hj
      have := OwB.cell HO ((o + j : Nat) : Int) (by omega) (by omega)
      rwa [Int.toNat_natCast] at this
    rw [run_copy_cells w 37 37 ty 5 g o dlen dcap ad ys.length c (ys.map (Value.int .u8)) Tryd.underlying37 hs hn ?_ (fun j hj => by rw [(hcell j hj).1]; rfl) (fun j hj => (hcell j hj).2) (by intro v hv; obtain ⟨x, _, rfl⟩ := List.mem_map.1 hv; rfl)]
    · rw [List.length_map]
      rfl
    · intro j v hj
      have hjl : j < ys.length := by
        have := (List.getElem?_eq_some_iff.1 hj).1
        rwa [List.length_map] at this
      rw [hc j hjl, ← hj]
      simp [List.getD_eq_getElem?_getD, List.getElem?_eq_getElem hjl]
theorem copy_bytes' {w w0 : World} {base g cap L : Nat} {xs ys : List Int} (HO : OwB w base (.slice (some ⟨g, 0, none⟩) L cap) xs) (HB : Below base w0 w) (o : Nat) {m : Nat} (hm : ys.length = m) (ho : o + m ≤ L) (D : Option Addr) (hD : 0 < m → D = some ⟨g, o, none⟩)
    (dlen dcap : Nat) (hd : m ≤ dlen) (A : Option Addr) (c : Nat) (HR : RdB w A m ys) (ty : TypeId) :
    ∃ w1, (Builtin.copy_ #[37, 37] ty #[.slice D dlen dcap, .slice A m c]).run Tryd.prog w = .ok (.int .i64 (m : Int)) w1 ∧ OwB w1 base (.slice (some ⟨g, 0, none⟩) L cap) (over xs ys o) ∧ Below base w0 w1 := by
  obtain ⟨rfl, _⟩ := Kd.R_reads' HO
  subst hm
  exact copy_bytes HO HB o ho D hD dlen dcap hd A c HR ty
/-- b[j:] of a row of one's own, j ahead of its end. -/
theorem cut_own {w : World} {base g cap L : Nat} {xs : List Int} (HO : OwB w base (.slice (some ⟨g, 0, none⟩) L cap) xs) (j : Nat) (hj : j ≤ L) :
    ∃ D, (0 < L - j → D = some ⟨g, j, none⟩) ∧ ∀ (W : World) (i : Int), i = j → (Instr.slice 37 (.slice (some ⟨g, 0, none⟩) L cap) (some (.int .i64 i)) none none).run Tryd.prog W = .ok (.slice D (L - j) (cap - j)) W := by
  obtain ⟨h1, h2⟩ := OwB.parts HO
  have h := (cutFrom h2 h1 (j : Int) (by omega) (by omega)).1
  rw [Int.toNat_natCast] at h
  refine ⟨_, ?_, fun W i hi => by rw [hi]; exact h W⟩
  intro hp
  rw [if_neg (by omega)]
  show some ((⟨g, 0, none⟩ : Addr).add j) = _
  rw [add_plain]
theorem slice_from_run {P : Program} {o : Oper} {a : Act} {w : World} {t e : TypeId} (hu : P.underlying t = some (.slice e)) (x lo : Operand) (ho : o.op = .slice t x (some lo) none none) {p q v : Value} (hx : a.eval x = p) (hl : a.eval lo = q) (h : (Instr.slice t p (some q) none none).run P w = .ok v w) : (execOp a.eval o).run P w = .ok (.value v) w := by
  unfold execOp
  simp only [ho, hx, Option.map_some, Option.map_none, hl, Instr.sliceAt, Sem.run_bind, run_underlying hu, h, Result.andThen_ok, Sem.run_pure]
theorem copy_exec {w w1 : World} {o : Oper} {a : Act} (s x : Operand) (t t' : TypeId) (ho : o.op = .call { callee := .builtin .copy, args := #[s, x], argTypes := #[t, t'] }) {p q v : Value} (hs : a.eval s = p) (hx : a.eval x = q)
    (hr : (Builtin.copy_ #[t, t'] o.type #[p, q]).run Tryd.prog w = .ok v w1) : (execOp a.eval o).run Tryd.prog w = .ok (.value v) w1 := by
  unfold execOp
  simp only [ho, resolve, invoke, builtin, Sem.run_bind, Sem.run_pure, Result.andThen_ok, List.map_toArray, List.map_cons, List.map_nil, hs, hx, hr]
end Go.Proofs.YtnkkjmbpopodlaaDoor
namespace Go.Proofs.YtnkkjmbpopodlaaDoor
open Go.RowKit Go.Proofs.YtnkkjmbpopodlaaDoorW.PrintWords Go.Proofs.YtnkkjmbpopodlaaDoorW.PrintMore
set_option linter.unusedVariables false
section
variable {P : Program} {ops : Array Oper} {Q : Exit → Act → World → Prop} {n l : Nat} {a : Act} {w : World}
abbrev Rnd (l : Nat) : Fence := Fence.wide.inRound l
def noDefer (ops : Array Oper) : Bool := ops.all fun o => match o.op with | .defer _ => false | _ => true
end
end Go.Proofs.YtnkkjmbpopodlaaDoor
namespace Go.Proofs.YtnkkjmbpopodlaaDoor
open Go.RowKit Go.Proofs.YtnkkjmbpopodlaaDoorW.PrintWords
open Go.Proofs.YtnkkjmbpopodlaaDoorW.PrintLast (Region.reachB Region.closedB Region.lastB ListedClosed Region.closedB_spec ListedClosed.set Region.reach_not_ready)
set_option linter.unusedVariables false
section
variable {P : Program} {ops : Array Oper} {Q : Exit → Act → World → Prop} {md : Region.Mode} {ds : List Nat} {X : Nat → Prop}
/-- Whatever order is picked, each world is later than the one before, but behind those of ds. -/
def wpAnyX (P : Program) (md : Region.Mode) (ops : Array Oper) (Q : Exit → Act → World → Prop) (ds : List Nat) (X : Nat → Prop) : Nat → Array Bool → Act → World → Prop
  | 0, listed, a, w => Region.ready md ops listed = [] ∧ Q .normal a w
  | fuel + 1, listed, a, w =>
    (Region.ready md ops listed = [] → Q .normal a w) ∧
    ∀ i ∈ Region.ready md ops listed, wpOp P ops Q i (fun a' w' => (i ∉ ds → Fr w w' X) ∧ wpAnyX P md ops Q ds X fuel (listed.setIfInBounds i true) a' w') a w

def seqX (P : Program) (ops : Array Oper) (Q : Exit → Act → World → Prop) (ds : List Nat) (X : Nat → Prop) : Ord → Act → World → Prop
  | .done, a, w => Q .normal a w
  | .pure i r, a, w => ∃ o v, ops[i]? = some o ∧ Yq P ops (fun _ => True) o v a ∧ seqX P ops Q ds X r (a.put o.dst v) w
  | .take i r, a, w => ∃ o v, ops[i]? = some o ∧ Yq P ops (fun w' => Fr w w' X) o v a ∧ seqX P ops Q ds X r (a.put o.dst v) w
  | .run i r, a, w => wpOp P ops Q i (fun a' w' => (i ∉ ds → Fr w w' X) ∧ seqX P ops Q ds X r a' w') a w
  | .fork i j r s, a, w => wpOp P ops Q i (fun a' w' => (i ∉ ds → Fr w w' X) ∧ seqX P ops Q ds X r a' w') a w ∧ wpOp P ops Q j (fun a' w' => (j ∉ ds → Fr w w' X) ∧ seqX P ops Q ds X s a' w') a w
end
end Go.Proofs.YtnkkjmbpopodlaaDoor
namespace Go.Proofs.YtnkkjmbpopodlaaDoor
open Go.RowKit Go.Proofs.YtnkkjmbpopodlaaDoorW.PrintWords Go.Proofs.YtnkkjmbpopodlaaDoorW.PrintMore
set_option linter.unusedVariables false
set_option linter.unusedSimpArgs false
def QB (w : World) (base : Nat) (v : Value) (xs : List Int) : Prop := QRow w base 5 1 v xs.length (xs.map (Value.int .u8))
theorem QB.reads {w : World} {base : Nat} {v : Value} {xs : List Int} (h : QB w base v xs) : ∃ A c, v = .slice A xs.length c ∧ xs.length ≤ c ∧ RdB w A xs.length xs := by
  obtain ⟨A, c, rfl, hc⟩ := q_slice h
  refine ⟨A, c, rfl, hc, Kd.C_of_reads (d := (0 : Int)) ⟨rfl, q_max h, fun hp => ?_⟩⟩
  obtain ⟨ad, e, hx⟩ := q_cells h hp
  refine ⟨ad, e, fun j hj => ?_⟩
  have := hx j (.int .u8 (xs[j]'hj)) (by rw [List.getElem?_map, List.getElem?_eq_getElem hj]; rfl)
  rw [this, List.getD_eq_getElem?_getD, List.getElem?_eq_getElem hj]
  rfl
theorem QB.own {w : World} {base : Nat} {v : Value} {xs : List Int} (h : OwB w base v xs) : QB w base v xs := q_of_own (Kd.own_of_R h)
theorem QB.move {w w1 : World} {base : Nat} {v : Value} {xs : List Int} (h : QB w base v xs) (hm : ∀ k, v.ownBlock = some k → w1.heap[k]? = w.heap[k]?) : QB w1 base v xs := q_move h hm
theorem QB.lt {w : World} {base : Nat} {v : Value} {xs : List Int} (h : QB w base v xs) (k : Nat) (hk : v.ownBlock = some k) : k < w.heap.size := q_lt h k hk
theorem QB.ge {w : World} {base : Nat} {v : Value} {xs : List Int} (h : QB w base v xs) (k : Nat) (hk : v.ownBlock = some k) : base ≤ k := (q_typed h k hk).1
theorem QB.below {w w1 : World} {base : Nat} {v : Value} {xs : List Int} (h : QB w base v xs) (hb : Below w.heap.size w w1) : QB w1 base v xs := h.move fun k hk => hb.block k (h.lt k hk)
theorem QB.lower {w : World} {base base' : Nat} {v : Value} {xs : List Int} (h : QB w base v xs) (hb : base' ≤ base) : QB w base' v xs := q_lower h hb
theorem QB.nil (w : World) (base : Nat) : QB w base (.slice none 0 0) [] := QB.own (Kd.R_nil _ _ _ _ _)
/-- b[64:] of such a row. -/
theorem QB.drop {w : World} {base n c : Nat} {A : Option Addr} {xs : List Int} (h : QB w base (.slice A n c) xs) (hn : n = xs.length) (k : Nat) (hk : k ≤ xs.length) :
    ∃ B, (∀ W : World, (Instr.slice 37 (.slice A n c) (some (.int .i64 k)) none none).run Tryd.prog W = .ok (.slice B (n - k) (c - k)) W) ∧ QB w base (.slice B (n - k) (c - k)) (xs.drop k) ∧ (Value.slice B (n - k) (c - k)).ownBlock = (Value.slice A n c).ownBlock := by
  obtain ⟨i0, hi, _, hsz, _⟩ := info_parts infoB
  subst hn
  refine ⟨if c = k then A else A.map (·.add k), fun W => ?_, ?_, ?_⟩
  · have := cut_from (P := Tryd.prog) 37 5 .i64 Tryd.underlying37 hi 1 hsz A xs.length c (k : Int) (by omega) (by omega) W
    rw [Int.toNat_natCast, Nat.mul_one] at this
    exact this
  · have := q_drop h hk
    unfold QB
    rw [List.map_drop, List.length_drop]
    rw [Nat.mul_one] at this
    exact this
  · split
    · cases A <;> rfl
    · cases A with
      | none => rfl
      | some a => simp [Value.ownBlock, Addr.add]; split <;> rfl
theorem QB.typed {w : World} {base : Nat} {v : Value} {xs : List Int} (h : QB w base v xs) {g T : Nat} {cs : Array Value} (hg : w.heap[g]? = some (.cells cs T (0, 0))) (hT : T ≠ 5) : v.ownBlock ≠ some g := fun e => by
  obtain ⟨_, cells, hc⟩ := q_typed h g e
  rw [hg] at hc
  injection hc with hc
  injection hc with _ h2
  exact hT h2
theorem appQ_run {W : World} (base : Nat) (ty : TypeId) (v : Value) (xs ys : List Int) (A : Option Addr) (m c : Nat) (HO : QB W base v xs) (HR : RdB W A m ys) (hbase : base ≤ W.heap.size) (hl : xs.length + m ≤ 140737488355328) :
    ∃ v1 w1, (Builtin.append_ #[37, 37] ty #[v, .slice A m c]).run Tryd.prog W = .ok v1 w1 ∧ QB w1 base v1 (xs ++ ys) ∧ W.grownBy w1 v.ownBlock ∧ (v1.ownBlock = v.ownBlock ∨ ∃ b, v1.ownBlock = some b ∧ W.heap.size ≤ b) := by
  obtain ⟨i0, hi, hz0, hsz, hby⟩ := info_parts infoB
  have hr := Kd.reads_of_C (d := (0 : Int)) HR
  rcases Nat.eq_zero_or_pos m with h0 | h0
  · obtain rfl : ys = [] := List.eq_nil_of_length_eq_zero (by have := hr.1; omega)
    subst h0
    obtain ⟨A0, c0, rfl, hc0, _⟩ := HO.reads
    refine ⟨_, W, run_append_nothing W _ _ _ _ i0 Tryd.underlying37 hi A0 _ c0 hc0 _ ?_, by rw [List.append_nil]; exact HO, ⟨rfl, rfl, rfl, Nat.le_refl _, fun _ _ _ => rfl⟩, .inl rfl⟩
    cases A with
    | none => exact Src.ofNil W Tryd.underlying37 c
    | some ad => exact Src.ofSlice W Tryd.underlying37 ad 0 c [] (by simp) (fun j u hu => by simp at hu) (fun u hu => by simp at hu)
  · obtain ⟨ad, rfl, hc⟩ := hr.2.2 h0
    have hq := q_append (P := Tryd.prog) W base 37 ty 5 i0 (.int .u8 0) 1 1 Tryd.underlying37 hi hz0 hsz hby rfl (by omega) v xs.length (xs.map (Value.int .u8)) HO ad m c (ys.map (Value.int .u8)) (by rw [List.length_map, hr.1, Nat.mul_one]) (fun j u hu => by
      rw [List.getElem?_map] at hu
      rcases hy : ys[j]? with _ | y
      · rw [hy] at hu; cases hu
      · rw [hy] at hu
        obtain rfl := Option.some.inj hu
        have hj := (List.getElem?_eq_some_iff.1 hy).1
        rw [hc j (by have := hr.1; omega), List.getD_eq_getElem?_getD, hy]
        rfl) (fun u hu => by obtain ⟨y, _, rfl⟩ := List.mem_map.1 hu; rfl) h0 (by simp only [maxLen]; omega) (by omega) hbase
    obtain ⟨v1, w1, h1, h2, h3, h4⟩ := hq
    refine ⟨v1, w1, h1, ?_, h3, h4⟩
    unfold QB
    rw [List.length_append, List.map_append, hr.1]
    exact h2
section
variable {ops : Array Oper} {rest : List Oper} {o : Oper} {a : Act} {Q : Exit → Act → World → Prop}
/-- append(q, ys...): a row that may begin inside its block. -/
theorem appQ {W : World} (base : Nat) (hgd : o.guard = none) (s x : Operand)
    (ho : o.op = .call { callee := .builtin .append, args := #[s, x], argTypes := #[37, 37] })
    (v : Value) (xs ys : List Int) (A : Option Addr) (m c : Nat) (hs : a.eval s = v) (hx : a.eval x = .slice A m c)
    (HO : QB W base v xs) (HR : RdB W A m ys) (hbase : base ≤ W.heap.size) (hl : xs.length + m ≤ 140737488355328)
    (h : ∀ v1 w1, QB w1 base v1 (xs ++ ys) → W.grownBy w1 v.ownBlock → (v1.ownBlock = v.ownBlock ∨ ∃ b, v1.ownBlock = some b ∧ W.heap.size ≤ b) → wpList Tryd.prog ops Q rest (a.put o.dst v1) w1) :
    wpList Tryd.prog ops Q (o :: rest) a W := by
  obtain ⟨v1, w1, hrun, h2, h3, h4⟩ := appQ_run base o.type v xs ys A m c HO HR hbase hl
  refine wpList_plain hgd fun K hK => ?_
  unfold Oper.wp execOp
  simp only [ho, resolve, invoke, builtin, Sem.run_bind, Sem.run_pure, Result.andThen_ok, List.map_toArray, List.map_cons, List.map_nil, hs, hx, hrun]
  exact hK _ _ (h v1 w1 h2 h3 h4)
end
end Go.Proofs.YtnkkjmbpopodlaaDoor
namespace Go.Proofs.YtnkkjmbpopodlaaDoor
open Go.RowKit Go.Proofs.YtnkkjmbpopodlaaDoorW.PrintWords Go.Proofs.YtnkkjmbpopodlaaDoorW.PrintMore
open Go.MapKept (Stamped)
open Go.ChangeMaps (setBlock)
set_option linter.unusedVariables false
set_option linter.unusedSimpArgs false
/-- A key. -/
def keyV (ks : List Int) : Value := .agg (ks.map (Value.int .u8)).toArray
/-- Bytes that are a key. -/
def KeyB (n : Nat) (ks : List Int) : Prop := Bytes ks ∧ ks.length = n
/-- The entries es hold M. -/
structure Holds (n : Nat) (es : Array MapEntry) (clock : Nat) (M : List Int → Option Value) : Prop where
  stamped : Stamped es clock
  keys : ∀ e ∈ es.toList, ∃ ks, KeyB n ks ∧ e.key = keyV ks
  val : ∀ ks v, KeyB n ks → (M ks = some v ↔ ∃ e ∈ es.toList, e.key = keyV ks ∧ e.val = v)
def MapIs (w : World) (b n : Nat) (M : List Int → Option Value) : Prop := ∃ es clock, w.heap[b]? = some (.map es clock) ∧ Holds n es clock M
open Classical in
noncomputable def upd (M : List Int → Option Value) (ks : List Int) (v : Value) : List Int → Option Value := fun k => if k = ks then some v else M k
section
variable {P : Program} {K : TypeId} {n : Nat}
/-- What the laws need of the key's type. -/
structure KeyOk (P : Program) (K : TypeId) (n : Nat) : Prop where
  keyed : Maps.Keyed P K
  reads : ∀ ks, KeyB n ks → ∃ l, keyOf P K (keyV ks) = some l
end
end Go.Proofs.YtnkkjmbpopodlaaDoor
namespace Go.Proofs.YtnkkjmbpopodlaaDoor
open Go.RowKit Go.Proofs.YtnkkjmbpopodlaaDoorW.PrintWords Go.Proofs.YtnkkjmbpopodlaaDoorW.PrintMore
set_option linter.unusedVariables false
set_option linter.unusedSimpArgs false
abbrev S3 := Option Addr × Nat × Nat
def encS (t : S3) : Value := .slice t.1 t.2.1 t.2.2
theorem encS_one (t : S3) : (encS t).oneCell' = true := rfl
abbrev KS : Kd S3 := Kd.scalar encS encS_one
abbrev OwS (w : World) (v : Value) (xs : List S3) : Prop := KS.R 37 w 0 (fun _ => True) v xs
abbrev RdS (w : World) (A : Option Addr) (n : Nat) (xs : List S3) : Prop := KS.C w A n xs
section
variable {ops : Array Oper} {rest : List Oper} {o : Oper} {a : Act} {Q : Exit → Act → World → Prop}
end
end Go.Proofs.YtnkkjmbpopodlaaDoor
namespace Go.Proofs.YtnkkjmbpopodlaaDoor
open Go.RowKit Go.Proofs.YtnkkjmbpopodlaaDoorW.PrintWords
open Go.Proofs.YtnkkjmbpopodlaaDoorW.PrintLast (Region.reachB Region.closedB Region.lastB ListedClosed Region.closedB_spec ListedClosed.set Region.reach_not_ready)
set_option linter.unusedVariables false
section
variable {P : Program} {ops : Array Oper} {Q Q' : Exit → Act → World → Prop}
theorem LetsOut.imp (hQ : ∀ e a w, Q e a w → Q' e a w) (h : LetsOut Q) : LetsOut Q' := by
  obtain ⟨a, w, h⟩ := h
  exact ⟨a, w, hQ _ _ _ h⟩
theorem upon_imp {o : Oper} {a : Act} {K K' : Act → World → Prop} (hK : ∀ a w, K a w → K' a w) (hQ : ∀ e a w, Q e a w → Q' e a w) {r : Result Next} (h : o.upon P a K Q r) : o.upon P a K' Q' r := by
  cases r with
  | ok n w' =>
    cases n with
    | value v => exact hK _ _ h
    | skip => exact hK _ _ h
    | defer d => exact hK _ _ h
    | enter f args =>
      rw [Oper.upon_enter] at h ⊢
      refine h.mono fun e w1 he => ?_
      cases e with
      | returned v => exact hK _ _ he
      | panicked c => exact hQ _ _ _ he
      | outgrown => exact LetsOut.imp hQ he
    | row row args =>
      rw [Oper.upon_row] at h ⊢
      exact h.mono fun v w1 hv => hK _ _ hv
    | _ => exact h
  | halt x w' =>
    cases x with
    | panic v => exact hQ _ _ _ h
    | _ => exact h
theorem wpList_imp (hQ : ∀ e a w, Q e a w → Q' e a w) : ∀ (l : List Oper) (a : Act) (w : World), wpList P ops Q l a w → wpList P ops Q' l a w
  | [], a, w, h => hQ _ _ _ h
  | o :: l, a, w, h => by
    unfold wpList at h ⊢
    split at h
    · rename_i hw
      rw [if_pos hw]
      rcases h with h | ⟨h1, h2⟩
      · exact .inl (upon_imp (fun a w => wpList_imp hQ l a w) hQ h)
      · exact .inr ⟨h1, LetsOut.imp hQ h2⟩
    · rename_i hw
      rw [if_neg hw]
      exact wpList_imp hQ l _ _ h
end
section
variable {P : Program} {ops : Array Oper} {Q : Exit → Act → List Frame → World → Prop} {cs : List Frame}
theorem opsS_of_ops (hno : ¬ LetsOut (fun e a w => Q e a cs w)) : ∀ (l : List Nat) (a : Act) (w : World), wpOps P ops (fun e a' w' => Q e a' cs w') l a w → wpOpsS P ops Q l a cs w
  | [], _, _, h => h
  | i :: rest, a, w, h => by
    simp only [wpOps] at h
    simp only [wpOpsS]
    cases ho : ops[i]? with
    | none =>
      simp only [ho] at h ⊢
      exact opsS_of_ops hno rest a w h
    | some o =>
      simp only [ho] at h ⊢
      split at h
      · rename_i hw
        rw [if_pos hw]
        rcases h with h | ⟨_, h⟩
        · have h2 := Oper.wp_mono (K' := fun a' w' => wpOpsS P ops Q rest a' cs w') (fun a' w' => opsS_of_ops hno rest a' w') h
          unfold Oper.wp at h2
          generalize (execOp a.eval o).run P w = r at h2 ⊢
          split
          · exact h2.elim
          · exact h2
        · exact absurd h hno
      · rename_i hw
        rw [if_neg hw]
        exact opsS_of_ops hno rest _ w h
/-- The first operation is recover: v is what it tells, cs' the frames behind it. -/
theorem wpS_recover {id : Nat} {rest : Code} {o : Oper} {os : List Oper} {a : Act} {w : World} {cs' : List Frame} {v : Value} (hops : ops.toList = o :: os)
    (hw : Region.wanted o (yielded ops a.tmps) = true) (ho : (execOp a.eval o).run P w = .ok .recover w)
    (hrec : recoverD cs = some (v, cs') ∨ (recoverD cs = none ∧ v = .nilIface ∧ cs' = cs)) (hno : ¬ LetsOut (fun e a w => Q e a cs' w))
    (h : wpList P ops (Exit.then (rest.wp P (fun e a w => Q e a cs' w)) (fun e a w => Q e a cs' w)) os (a.put o.dst v) w) : (Code.seq (.region id ops false) rest).wpS P Q a cs w := by
  refine wpS_seq (wpS_region ?_)
  have hsz : ops.size = os.length + 1 := by rw [← Array.length_toList, hops]; rfl
  have h0 : ops[0]? = some o := by rw [← Array.getElem?_toList, hops]; rfl
  have hl : wpOpsS P ops (Exit.thenS (rest.wpS P Q) Q) (List.range' 1 os.length) (a.put o.dst v) cs' w := by
    refine opsS_of_ops ?_ _ _ _ ?_
    · rintro ⟨a1, w1, h1⟩
      exact hno ⟨a1, w1, h1⟩
    · rw [wpOps_eq_wpList os 1 (fun j => by rw [← Array.getElem?_toList, hops, Nat.add_comm]; rfl)]
      have hm : ∀ (l : List Oper) (a : Act) (w : World), wpList P ops (Exit.then (rest.wp P (fun e a w => Q e a cs' w)) (fun e a w => Q e a cs' w)) l a w →
          wpList P ops (fun e a' w' => Exit.thenS (rest.wpS P Q) Q e a' cs' w') l a w := by
        refine wpList_imp fun e a w h => ?_
        cases e with
        | normal => exact wpS_of_wp h
        | _ => exact h
      exact hm _ _ _ h
  rw [List.range_eq_range', hsz, List.range'_succ]
  simp only [wpOpsS, h0, hw, if_true, ho]
  rcases hrec with hr | ⟨hr, rfl, rfl⟩
  · rw [hr]
    exact hl
  · rw [hr]
    exact hl
end
theorem Leaves.congr {P : Program} {fn : Func} {tmps tmps' : Array Value} {R : Ending → World → Prop} (hr : ∀ w, (results fn tmps).run P w = (results fn tmps').run P w) : ∀ (ds : List Deferred) (u : FrameMode) (w : World), Leaves P fn tmps R ds u w → Leaves P fn tmps' R ds u w
  | [], .returning, w, ⟨v, h1, h2⟩ => ⟨v, (hr w).symm.trans h1, h2⟩
  | [], .panicking _, _, h => h
  | [], .run, _, h => h
  | d :: ds, u, w, ⟨h1, fv, cap, f, args, h2, h3, h4⟩ => ⟨h1, fv, cap, f, args, h2, h3, h4.mono fun e u' w' h => by
    cases e with
    | returned v => exact Leaves.congr hr ds _ _ h
    | panicked c => exact Leaves.congr hr ds _ _ h
    | outgrown => exact h⟩
section
variable {P : Program} {ops : Array Oper} {Q : Exit → Act → World → Prop} {md : Region.Mode} {ds : List Nat}
theorem any_of_seqD (hs : Region.noSelect ops = true) (hQ : ∀ (i : Nat) (o : Oper), ops[i]? = some o → ∀ c a v w, Q (.panic c) (a.put o.dst v) w → Q (.panic c) a w) : ∀ (r : Ord) (l : Array Bool) (a : Act) (w : World),
    seqOk md ops ds r l = true → seqL P ops Q ds r a w → wpAnyL P md ops Q ds r.len l a w
  | .done, l, a, w, hc, h => by
    simp only [seqOk, beq_iff_eq] at hc
    exact ⟨hc, h⟩
  | .pure i r, l, a, w, hc, h => by
    simp only [seqOk, Bool.and_eq_true] at hc
    obtain ⟨⟨h1, h2⟩, h5⟩ := hc
    obtain ⟨o, v, hi, hy, h'⟩ := h
    exact wpAnyL_firstP hi (Region.noSelect_spec hs) (fun c a w => hQ i o hi c a _ w) r.len l a w (Region.free_spec hi h1) (by simpa using h2) hy (any_of_seqD hs hQ r _ _ _ h5 h')
  | .take i r, l, a, w, hc, h => by
    simp only [seqOk, Bool.and_eq_true] at hc
    obtain ⟨⟨⟨⟨h1, h2⟩, h3⟩, h4⟩, h5⟩ := hc
    obtain ⟨o, v, hi, hy, h'⟩ := h
    refine wpAnyL_first hi (Region.noSelect_spec hs) (fun c a w => hQ i o hi c a _ w) ops.size r.len l a w (Region.free_spec hi h1) (Region.closedB_spec h3) ?_ (by simpa using h2) hy (any_of_seqD hs hQ r _ _ _ h5 h')
    intro d hd hun
    have := List.all_eq_true.1 h4 d hd
    rw [hun] at this
    simpa using this
  | .run i r, l, a, w, hc, h => by
    simp only [seqOk, Bool.and_eq_true, beq_iff_eq] at hc
    refine ⟨fun h0 => ?_, fun j hj => ?_⟩
    · rw [h0] at hc; cases hc.1
    · rw [hc.1] at hj
      obtain rfl := List.mem_singleton.1 hj
      exact wpOp_mono (fun a' w' h3 => ⟨h3.1, any_of_seqD hs hQ r _ _ _ hc.2 h3.2⟩) h
  | .fork i j r s, l, a, w, hc, h => by
    simp only [seqOk, Bool.and_eq_true, beq_iff_eq] at hc
    refine ⟨fun h0 => ?_, fun k hk => ?_⟩
    · rw [h0] at hc; cases hc.1.1
    · rw [hc.1.1] at hk
      simp only [List.mem_cons, List.not_mem_nil, or_false] at hk
      rcases hk with rfl | rfl
      · exact wpOp_mono (fun a' w' h3 => ⟨h3.1, wpAnyL_fuel _ _ _ _ _ (any_of_seqD hs hQ r _ _ _ hc.1.2 h3.2) (Nat.le_max_left _ _)⟩) h.1
      · exact wpOp_mono (fun a' w' h3 => ⟨h3.1, wpAnyL_fuel _ _ _ _ _ (any_of_seqD hs hQ s _ _ _ hc.2 h3.2) (Nat.le_max_right _ _)⟩) h.2

/-- A drawn region whose panics hang on the slots that it does not write. -/
theorem seq_startD {id : Nat} {a : Act} {w : World} (ds : List Nat) (r : Ord) (hm : P.follows .mixedOrders = true)
    (hc : (Region.noSelect ops && seqOk .any ops ds r (Array.replicate ops.size false) && decide (r.len ≤ ops.size)) = true)
    (hQ : ∀ (i : Nat) (o : Oper), ops[i]? = some o → ∀ c a v w, Q (.panic c) (a.put o.dst v) w → Q (.panic c) a w) (h : seqL P ops Q ds r a w.drew) : (Code.region id ops true).wp P Q a w := by
  simp only [Bool.and_eq_true, decide_eq_true_eq] at hc
  exact wp_region_any hm (wpAny_of_L _ _ _ _ (wpAnyL_fuel _ _ _ _ _ (any_of_seqD hc.1.1 hQ r _ a w.drew hc.1.2 h) hc.2))
/-- Its operations write slots above lo alone. -/
theorem seq_startA {id : Nat} {a : Act} {w : World} (lo : Nat) (ds : List Nat) (r : Ord) (hm : P.follows .mixedOrders = true)
    (hc : (Region.noSelect ops && seqOk .any ops ds r (Array.replicate ops.size false) && decide (r.len ≤ ops.size)) = true)
    (hlo : (ops.toList.all fun o => match o.dst with | some t => decide (lo < t) | none => true) = true)
    (hQ : ∀ c a t v w, lo < t → Q (.panic c) (a.put (some t) v) w → Q (.panic c) a w) (h : seqL P ops Q ds r a w.drew) : (Code.region id ops true).wp P Q a w := by
  refine seq_startD ds r hm hc (fun i o hi c a v w hq => ?_) h
  have h1 := List.all_eq_true.1 hlo o (by
    have := List.mem_of_getElem? (by rw [Array.getElem?_toList]; exact hi : ops.toList[i]? = some o)
    exact this)
  cases hd : o.dst with
  | none => rw [hd] at hq; exact hq
  | some t =>
    rw [hd] at hq h1
    exact hQ c a t v w (of_decide_eq_true h1) hq
/-- A call that panics, by its contract. -/
theorem do_call_panic {i : Nat} {o : Oper} {N : Tmp} {a : Act} {w : World} {K : Act → World → Prop} {f : FuncId} {fn : Func} {ars : Array Operand} {ts : Array TypeId} (hi : ops[i]? = some o) (hN : o.dst = some N) (hw : Region.wanted o (yielded ops a.tmps) = true)
    (hop : o.op = .call { callee := .value (.func f), args := ars, argTypes := ts }) (hf : P.funcs[f]? = some fn) (hname : (fn.name == "runtime.NumGoroutine") = false) (hb : fn.body.isSome = true) (args : Array Value)
    (hargs : ars.map a.eval = args)
    (h : Calls P f args w fun e w' => ∃ c, e = .panicked c ∧ Q (.panic c) a w') : wpOp P ops Q i K a w := by
  refine do_ hi hw ?_
  unfold Oper.wp
  rw [call_run hop hf hname hb args hargs w, Oper.upon_enter]
  refine h.mono fun e w'' hh => ?_
  obtain ⟨c, rfl, hk⟩ := hh
  exact hk
end
end Go.Proofs.YtnkkjmbpopodlaaDoor
namespace Go.Proofs.YtnkkjmbpopodlaaDoor
open Go.RowKit Go.Proofs.YtnkkjmbpopodlaaDoorW.PrintWords Go.Proofs.YtnkkjmbpopodlaaDoorW.PrintMore
set_option linter.unusedVariables false
set_option linter.unusedSimpArgs false

/-- One step, so many steps, all bytes, the check. -/
def cs (x : Nat) : Nat := (x / 2) ^^^ (if x % 2 = 1 then 2197175160 else 0)
def css (x : Nat) : Nat → Nat
  | 0 => x
  | k + 1 => cs (css x k)
def cm (x : Nat) (l : List Int) : Nat := l.foldl (fun x b => css (x ^^^ b.toNat) 8) x
def crc (s : Nat) (l : List Int) : Nat := 4294967295 ^^^ cm (4294967295 ^^^ s) l

theorem xor_lt {a b : Nat} (ha : a < 4294967296) (hb : b < 4294967296) : a ^^^ b < 4294967296 := Nat.xor_lt_two_pow (n := 32) ha hb
theorem cs_lt {x : Nat} (h : x < 4294967296) : cs x < 4294967296 := by
  unfold cs
  refine xor_lt (by omega) ?_
  split <;> omega
theorem css_lt {x : Nat} (h : x < 4294967296) : ∀ k, css x k < 4294967296
  | 0 => h
  | k + 1 => cs_lt (css_lt h k)
theorem byte_lt {b : Int} (h : 0 ≤ b ∧ b < 256) : b.toNat < 256 := by omega
theorem cm_lt {x : Nat} (h : x < 4294967296) {l : List Int} (hl : Bytes l) : cm x l < 4294967296 := by
  induction l generalizing x with
  | nil => exact h
  | cons b l ih =>
    have := byte_lt (hl b (by simp))
    exact ih (css_lt (xor_lt h (by omega)) 8) (fun y hy => hl y (by simp [hy]))
theorem crc_lt {s : Nat} (h : s < 4294967296) {l : List Int} (hl : Bytes l) : crc s l < 4294967296 := xor_lt (by omega) (cm_lt (xor_lt (by omega) h) hl)
theorem cm_append (x : Nat) (a b : List Int) : cm x (a ++ b) = cm (cm x a) b := List.foldl_append
theorem cm_snoc (x : Nat) (a : List Int) (b : Int) : cm x (a ++ [b]) = css (cm x a ^^^ b.toNat) 8 := cm_append x a [b]
/-- Four bytes, the lowest first; what is put; what is taken. -/
def le32 (n : Nat) : List Int := [((n % 256 : Nat) : Int), ((n / 256 % 256 : Nat) : Int), ((n / 65536 % 256 : Nat) : Int), ((n / 16777216 % 256 : Nat) : Int)]
theorem le32_bytes (n : Nat) : Bytes (le32 n) := by
  intro x hx
  simp only [le32, List.mem_cons, List.not_mem_nil, or_false] at hx
  rcases hx with rfl | rfl | rfl | rfl <;> omega
def cput (l : List Int) : List Int := l ++ le32 (crc 0 l)
theorem cput_bytes {l : List Int} (h : Bytes l) : Bytes (cput l) := h.append (le32_bytes _)
theorem cput_length (l : List Int) : (cput l).length = l.length + 4 := by simp [cput, le32]
def ctake (l : List Int) : List Int × Int :=
  if l.length < 4 then ([], 2) else if cput (l.take (l.length - 4)) = l then (l.take (l.length - 4), 0) else ([], 7)
theorem ctake_put (l : List Int) : ctake (cput l) = (l, 0) := by
  have h1 : (cput l).take ((cput l).length - 4) = l := by
    rw [cput_length, Nat.add_sub_cancel]
    simp [cput]
  unfold ctake
  rw [if_neg (by rw [cput_length]; omega), h1, if_pos rfl]
theorem ctake_bytes {l : List Int} (h : Bytes l) : Bytes (ctake l).1 := by
  unfold ctake
  split
  · exact Bytes.nil
  · split
    · exact h.take _
    · exact Bytes.nil
end Go.Proofs.YtnkkjmbpopodlaaDoor
namespace Go.Proofs.YtnkkjmbpopodlaaDoor
open Go.RowKit Go.Proofs.YtnkkjmbpopodlaaDoorW.PrintWords Go.Proofs.YtnkkjmbpopodlaaDoorW.PrintMore
set_option linter.unusedVariables false
set_option linter.unusedSimpArgs false
def Ws (xs : List Int) : Prop := ∀ x ∈ xs, 0 ≤ x ∧ x < 4294967296
theorem Ws.nil : Ws [] := fun _ h => by cases h
theorem Ws.append {xs ys : List Int} (h : Ws xs) (k : Ws ys) : Ws (xs ++ ys) := fun x hx => (List.mem_append.1 hx).elim (h x) (k x)
theorem Ws.one {x : Int} (h : 0 ≤ x ∧ x < 4294967296) : Ws [x] := fun y hy => by
  rw [List.mem_singleton.1 hy]
  exact h
theorem Ws.set {xs : List Int} (h : Ws xs) (i : Nat) {x : Int} (hx : 0 ≤ x ∧ x < 4294967296) : Ws (xs.set i x) := fun y hy =>
  (List.mem_or_eq_of_mem_set hy).elim (h y) (fun e => e ▸ hx)
theorem Ws.at_ {xs : List Int} (h : Ws xs) (i : Int) : 0 ≤ rd xs i ∧ rd xs i < 4294967296 := by
  unfold Go.Proofs.YtnkkjmbpopodlaaDoorW.PrintWords.rd
  rw [List.getD_eq_getElem?_getD]
  rcases hx : xs[i.toNat]? with _ | x
  · simp
  · exact h x (List.mem_of_getElem? hx)
abbrev RdW (w : World) (A : Option Addr) (n : Nat) (xs : List Int) : Prop := (Kd.int .u32).C w A n xs
abbrev OwW (w : World) (base : Nat) (v : Value) (xs : List Int) : Prop := (Kd.int .u32).R 93 w base (fun _ => True) v xs
theorem infoW : (Tryd.prog.info? 93).map (fun i => (i.zero, i.size, i.bytes)) = some (some (.int .u32 0), 1, 4) := by kernel_rfl
section
variable {ops : Array Oper} {rest : List Oper} {o : Oper} {a : Act} {Q : Exit → Act → World → Prop}
theorem appW {w0 W : World} (base : Nat) (hgd : o.guard = none) (s x : Operand)
    (ho : o.op = .call { callee := .builtin .append, args := #[s, x], argTypes := #[94, 94] })
    (v : Value) (xs : List Int) (y : Int) (hs : a.eval s = v) (hx : a.eval x = .slice (some ⟨W.heap.size, 0, none⟩) 1 1)
    (HO : OwW W base v xs) (HB : Below base w0 W) (hbase : base ≤ W.heap.size) (hl : xs.length < 35184372088832)
    (h : ∀ v1 w1, OwW w1 base v1 (xs ++ [y]) → Below base w0 w1 → W.grownBy w1 v.ownBlock → (v1.ownBlock = v.ownBlock ∨ ∃ b, v1.ownBlock = some b ∧ W.heap.size ≤ b) → wpList Tryd.prog ops Q rest (a.put o.dst v1) w1) :
    wpList Tryd.prog ops Q (o :: rest) a (W.alloc (.cells #[.int .u32 y] 93)) :=
  Kd.R_append (Kd.int .u32) base hgd s x 94 93 (.int .u32 0) 4 ho Tryd.underlying94 infoW rfl (by decide) (by decide) v xs y [.int .u32 y] (fun _ => True) (fun _ => False) hs hx rfl (fun _ h => h.elim) (fun _ _ => trivial) HO HB hbase
    (by omega) h
theorem appWs {w0 W : World} (base : Nat) (hgd : o.guard = none) (s x : Operand)
    (ho : o.op = .call { callee := .builtin .append, args := #[s, x], argTypes := #[94, 94] })
    (v : Value) (xs ys : List Int) (A : Option Addr) (m c : Nat) (hs : a.eval s = v) (hx : a.eval x = .slice A m c)
    (HO : OwW W base v xs) (HR : RdW W A m ys) (HB : Below base w0 W) (hbase : base ≤ W.heap.size) (hl : xs.length + m ≤ 35184372088832)
    (h : ∀ v1 w1, OwW w1 base v1 (xs ++ ys) → Below base w0 w1 → W.grownBy w1 v.ownBlock → (v1.ownBlock = v.ownBlock ∨ ∃ b, v1.ownBlock = some b ∧ W.heap.size ≤ b) → wpList Tryd.prog ops Q rest (a.put o.dst v1) w1) :
    wpList Tryd.prog ops Q (o :: rest) a W :=
  Kd.R_append_rows (Kd.int .u32) base hgd s x 94 93 (.int .u32 0) 4 ho Tryd.underlying94 infoW rfl (by decide) (by decide) v xs ys A m c (fun _ => True) (fun _ => False) hs hx HO HR (fun _ _ h => h) (fun _ h => h.elim) (fun _ _ => trivial) HB hbase
    (by omega) h
end
theorem OwW.store {w : World} {base g cap : Nat} {xs : List Int} (h : OwW w base (.slice (some ⟨g, 0, none⟩) xs.length cap) xs) (i : Int) (x : Int) :
    OwW (w.setCell ⟨g, i.toNat, none⟩ (.int .u32 x)) base (.slice (some ⟨g, 0, none⟩) xs.length cap) (xs.set i.toNat x) := (Kd.R_put h i x).1
theorem OwW.below {w w1 : World} {base : Nat} {v : Value} {xs : List Int} (h : OwW w base v xs) (hb : Below w.heap.size w w1) : OwW w1 base v xs := Kd.R_below h hb
theorem OwW.parts {w : World} {base n c : Nat} {A : Option Addr} {xs : List Int} (h : OwW w base (.slice A n c) xs) : n ≤ c ∧ RdW w A n xs := by
  obtain ⟨h1, h2, h3⟩ := Kd.R_reads' h
  rw [h1]
  exact ⟨by omega, h3⟩
theorem OwW.place {w : World} {base : Nat} {v : Value} {xs : List Int} (h : OwW w base v xs) (hp : 0 < xs.length) : ∃ g cap, v = .slice (some ⟨g, 0, none⟩) xs.length cap ∧ base ≤ g ∧ g < w.heap.size := by
  obtain ⟨g, cap, he, h1, h2, _⟩ := Kd.R_form h hp
  exact ⟨g, cap, he, h1, h2⟩
theorem OwW.cell {w : World} {base g cap : Nat} {xs : List Int} (h : OwW w base (.slice (some ⟨g, 0, none⟩) xs.length cap) xs) (i : Int) (h0 : 0 ≤ i) (hi : i < xs.length) :
    w.cell? ⟨g, i.toNat, none⟩ = some (.int .u32 (rd xs i)) ∧ w.frozen? ⟨g, i.toNat, none⟩ = false := Kd.R_cell (0 : Int) h i h0 hi
theorem own_litW (W : World) (base : Nat) (xs : List Int) (cs : Array Value) (n : Nat) (hcs : cs = (xs.map (Value.int .u32)).toArray) (hn : n = xs.length) (hb : base ≤ W.heap.size) (hm : xs.length ≤ 9223372036854775807) :
    OwW (W.alloc (.cells cs 93)) base (.slice (some ⟨W.heap.size, 0, none⟩) n n) xs := by
  subst hcs; subst hn
  exact Kd.R_of_own (own_lit W base 93 .u32 xs hb hm) (fun _ _ => trivial)
theorem rdW_at {w : World} {ad : Addr} {n : Nat} {xs : List Int} (h : RdW w (some ad) n xs) (i : Nat) (hi : i < n) : w.cell? (ad.add i) = some (.int .u32 (rd xs i)) := by
  obtain ⟨ad', e, hx⟩ := Kd.at_int h (i : Int) (by omega) (by omega)
  cases e
  exact hx
end Go.Proofs.YtnkkjmbpopodlaaDoor
namespace Go.Proofs.YtnkkjmbpopodlaaDoor
open Go.RowKit Go.Proofs.YtnkkjmbpopodlaaDoorW.PrintWords Go.Proofs.YtnkkjmbpopodlaaDoorW.PrintMore
set_option linter.unusedVariables false
set_option linter.unusedSimpArgs false
/-- A word turned round to the right. -/
def rotN (x k : Nat) : Nat := x / 2 ^ k + (x % 2 ^ k) * 2 ^ (32 - k)
def rot (x : Int) (k : Nat) : Int := ((rotN x.toNat k : Nat) : Int)
theorem rotN_lt {x k : Nat} (hk : k ≤ 32) (h : x < 4294967296) : rotN x k < 4294967296 := by
  unfold rotN
  have h1 : (2 : Nat) ^ k * 2 ^ (32 - k) = 4294967296 := by rw [← Nat.pow_add, show k + (32 - k) = 32 by omega]
  have h2 : x / 2 ^ k < 2 ^ (32 - k) := by rw [Nat.div_lt_iff_lt_mul (Nat.two_pow_pos k), Nat.mul_comm, h1]; exact h
  have h3 : x % 2 ^ k ≤ 2 ^ k - 1 := by have := Nat.mod_lt x (Nat.two_pow_pos k); omega
  have h4 : (x % 2 ^ k) * 2 ^ (32 - k) ≤ (2 ^ k - 1) * 2 ^ (32 - k) := Nat.mul_le_mul_right _ h3
  rw [Nat.sub_mul, h1] at h4
  have h5 : 2 ^ (32 - k) ≤ 4294967296 := by rw [← h1]; exact Nat.le_mul_of_pos_left _ (Nat.two_pow_pos k)
  omega
theorem rot_range {x : Int} {k : Nat} (hk : k ≤ 32) (h0 : 0 ≤ x) (h : x < 4294967296) : 0 ≤ rot x k ∧ rot x k < 4294967296 := by
  have := rotN_lt (x := x.toNat) hk (by omega)
  unfold rot
  omega
def ad (a b : Int) : Int := (a + b) % 4294967296
theorem ad_range (a b : Int) : 0 ≤ ad a b ∧ ad a b < 4294967296 := ⟨Int.emod_nonneg _ (by omega), Int.emod_lt_of_pos _ (by omega)⟩
theorem ad_assoc (a b c : Int) : ad (ad a b) c = ad a (ad b c) := by unfold ad; omega
def xr (a b : Int) : Int := Go.bits .xor .u32 a b
def an (a b : Int) : Int := Go.bits .and .u32 a b
def sg0 (x : Int) : Int := xr (xr (rot x 7) (rot x 18)) (x / 8)
def sg1 (x : Int) : Int := xr (xr (rot x 17) (rot x 19)) (x / 1024)
def bs1 (x : Int) : Int := xr (xr (rot x 6) (rot x 11)) (rot x 25)
def bs0 (x : Int) : Int := xr (xr (rot x 2) (rot x 13)) (rot x 22)
def ch (e f g : Int) : Int := xr (an e f) (an (4294967295 - e) g)
def maj (a b c : Int) : Int := xr (xr (an a b) (an a c)) (an b c)
def word (b : List Int) (i : Int) : Int := rd b i * 16777216 + rd b (i + 1) * 65536 + rd b (i + 2) * 256 + rd b (i + 3)
def wnext (w : List Int) (i : Int) : Int := ad (ad (ad (rd w (i - 16)) (sg0 (rd w (i - 15)))) (rd w (i - 7))) (sg1 (rd w (i - 2)))
def wstep (b w : List Int) (i : Nat) : Int := if i < 16 then word b (4 * (i : Int)) else wnext w (i : Int)
def sched (b : List Int) : Nat → List Int
  | 0 => []
  | i + 1 => sched b i ++ [wstep b (sched b i) i]
theorem sched_len (b : List Int) : ∀ i, (sched b i).length = i
  | 0 => rfl
  | i + 1 => by simp [sched, sched_len b i]
theorem word_range {b : List Int} (h : Bytes b) (i : Int) : 0 ≤ word b i ∧ word b i < 4294967296 := by
  have h0 := h.at_ i
  have h1 := h.at_ (i + 1)
  have h2 := h.at_ (i + 2)
  have h3 := h.at_ (i + 3)
  unfold word
  omega
theorem wstep_range {b w : List Int} (h : Bytes b) (i : Nat) : 0 ≤ wstep b w i ∧ wstep b w i < 4294967296 := by
  unfold wstep
  split
  · exact word_range h _
  · exact ad_range _ _
theorem sched_ws {b : List Int} (h : Bytes b) : ∀ i, Ws (sched b i)
  | 0 => Ws.nil
  | i + 1 => (sched_ws h i).append (Ws.one (wstep_range h i))
def Kc : List Int := [1116352408, 1899447441, 3049323471, 3921009573, 961987163, 1508970993, 2453635748, 2870763221, 3624381080, 310598401, 607225278, 1426881987, 1925078388, 2162078206, 2614888103, 3248222580, 3835390401, 4022224774, 264347078, 604807628, 770255983, 1249150122, 1555081692, 1996064986, 2554220882, 2821834349, 2952996808, 3210313671, 3336571891, 3584528711, 113926993, 338241895, 666307205, 773529912, 1294757372, 1396182291, 1695183700, 1986661051, 2177026350, 2456956037, 2730485921, 2820302411, 3259730800, 3345764771, 3516065817, 3600352804, 4094571909, 275423344, 430227734, 506948616, 659060556, 883997877, 958139571, 1322822218, 1537002063, 1747873779, 1955562222, 2024104815, 2227730452, 2361852424, 2428436474, 2756734187, 3204031479, 3329325298]
def IV : List Int := [1779033703, 3144134277, 1013904242, 2773480762, 1359893119, 2600822924, 528734635, 1541459225]
def tt (v : List Int) (k w : Int) : Int := ad (ad (ad (ad (rd v 7) (bs1 (rd v 4))) (ch (rd v 4) (rd v 5) (rd v 6))) k) w
def uu (v : List Int) : Int := ad (bs0 (rd v 0)) (maj (rd v 0) (rd v 1) (rd v 2))
def rnd (v : List Int) (k w : Int) : List Int := [ad (tt v k w) (uu v), rd v 0, rd v 1, rd v 2, ad (rd v 3) (tt v k w), rd v 4, rd v 5, rd v 6]
def rounds (w h : List Int) : Nat → List Int
  | 0 => h
  | i + 1 => rnd (rounds w h i) (rd Kc i) (rd w i)
theorem rnd_ws {v : List Int} (h : Ws v) (k w : Int) : Ws (rnd v k w) := by
  intro x hx
  simp only [rnd, List.mem_cons, List.not_mem_nil, or_false] at hx
  rcases hx with rfl | rfl | rfl | rfl | rfl | rfl | rfl | rfl
  · exact ad_range _ _
  · exact h.at_ _
  · exact h.at_ _
  · exact h.at_ _
  · exact ad_range _ _
  · exact h.at_ _
  · exact h.at_ _
  · exact h.at_ _
theorem rounds_ws {w h : List Int} (hh : Ws h) : ∀ i, Ws (rounds w h i)
  | 0 => hh
  | i + 1 => rnd_ws (rounds_ws hh i) _ _
theorem rounds_len {w h : List Int} (hh : h.length = 8) : ∀ i, (rounds w h i).length = 8
  | 0 => hh
  | _ + 1 => rfl
/-- The first j of v with h's added. -/
def fins (h v : List Int) : Nat → List Int
  | 0 => v
  | j + 1 => (fins h v j).set j (ad (rd (fins h v j) j) (rd h j))
theorem fins_len (h v : List Int) : ∀ j, (fins h v j).length = v.length
  | 0 => rfl
  | j + 1 => by simp [fins, fins_len h v j]
theorem fins_ws {h v : List Int} (hv : Ws v) : ∀ j, Ws (fins h v j)
  | 0 => hv
  | j + 1 => (fins_ws hv j).set j (ad_range _ _)
/-- The words behind 64 bytes. -/
def comp (h b : List Int) : List Int := fins h (rounds (sched b 64) h 64) 8
theorem comp_len {h b : List Int} (hh : h.length = 8) : (comp h b).length = 8 := by rw [comp, fins_len, rounds_len hh]
theorem comp_ws {h b : List Int} (hh : Ws h) : Ws (comp h b) := fins_ws (rounds_ws hh 64) 8
/-- One turn more. -/
theorem rotN_step (x j : Nat) (hj : j < 25) (h : x < 4294967296) : rotN x j / 2 + (rotN x j % 2) * 2147483648 = rotN x (j + 1) := by
  unfold rotN
  match j, hj with
  | 0, _ => simp only [Nat.reducePow, Nat.reduceSub, Nat.reduceAdd]; omega
  | 1, _ => simp only [Nat.reducePow, Nat.reduceSub, Nat.reduceAdd]; omega
  | 2, _ => simp only [Nat.reducePow, Nat.reduceSub, Nat.reduceAdd]; omega
  | 3, _ => simp only [Nat.reducePow, Nat.reduceSub, Nat.reduceAdd]; omega
  | 4, _ => simp only [Nat.reducePow, Nat.reduceSub, Nat.reduceAdd]; omega
  | 5, _ => simp only [Nat.reducePow, Nat.reduceSub, Nat.reduceAdd]; omega
  | 6, _ => simp only [Nat.reducePow, Nat.reduceSub, Nat.reduceAdd]; omega
  | 7, _ => simp only [Nat.reducePow, Nat.reduceSub, Nat.reduceAdd]; omega
  | 8, _ => simp only [Nat.reducePow, Nat.reduceSub, Nat.reduceAdd]; omega
  | 9, _ => simp only [Nat.reducePow, Nat.reduceSub, Nat.reduceAdd]; omega
  | 10, _ => simp only [Nat.reducePow, Nat.reduceSub, Nat.reduceAdd]; omega
  | 11, _ => simp only [Nat.reducePow, Nat.reduceSub, Nat.reduceAdd]; omega
  | 12, _ => simp only [Nat.reducePow, Nat.reduceSub, Nat.reduceAdd]; omega
  | 13, _ => simp only [Nat.reducePow, Nat.reduceSub, Nat.reduceAdd]; omega
  | 14, _ => simp only [Nat.reducePow, Nat.reduceSub, Nat.reduceAdd]; omega
  | 15, _ => simp only [Nat.reducePow, Nat.reduceSub, Nat.reduceAdd]; omega
  | 16, _ => simp only [Nat.reducePow, Nat.reduceSub, Nat.reduceAdd]; omega
  | 17, _ => simp only [Nat.reducePow, Nat.reduceSub, Nat.reduceAdd]; omega
  | 18, _ => simp only [Nat.reducePow, Nat.reduceSub, Nat.reduceAdd]; omega
  | 19, _ => simp only [Nat.reducePow, Nat.reduceSub, Nat.reduceAdd]; omega
  | 20, _ => simp only [Nat.reducePow, Nat.reduceSub, Nat.reduceAdd]; omega
  | 21, _ => simp only [Nat.reducePow, Nat.reduceSub, Nat.reduceAdd]; omega
  | 22, _ => simp only [Nat.reducePow, Nat.reduceSub, Nat.reduceAdd]; omega
  | 23, _ => simp only [Nat.reducePow, Nat.reduceSub, Nat.reduceAdd]; omega
  | 24, _ => simp only [Nat.reducePow, Nat.reduceSub, Nat.reduceAdd]; omega
  | n + 25, hj => omega
end Go.Proofs.YtnkkjmbpopodlaaDoor
