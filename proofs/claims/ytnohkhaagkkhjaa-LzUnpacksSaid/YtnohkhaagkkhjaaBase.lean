/- Words of this seat's proofs: bytes that are read and made, in short forms over the printed words. Conditions: none; plain lemmas. -/
import Derived.Test.YtnohkhaagkkhjaaProg
import Derived.KernelRfl
import Derived.Test.YtnohkhaagkkhjaaWWords
import Derived.Test.YtnohkhaagkkhjaaWMore
import Derived.Laws.BitsAllLaws
import Derived.Lib.SliceRun
import Derived.WalkSpells
import Derived.Lib.SlBytesConst
import Derived.Deep.RegionHeld3
import Derived.Deep.DeepCutAuto
import Derived.Outline
namespace Go.Proofs.Ytnohkhaagkkhjaa
open Go.RowKit Go.Proofs.YtnohkhaagkkhjaaW.PrintWords Go.Proofs.YtnohkhaagkkhjaaW.PrintMore
set_option linter.unusedVariables false
set_option linter.unusedSimpArgs false

/-- Bytes: each of them from 0 to 255. -/
def Bytes (xs : List Int) : Prop := ∀ x ∈ xs, 0 ≤ x ∧ x < 256
theorem Bytes.nil : Bytes [] := fun _ h => by cases h
theorem Bytes.append {xs ys : List Int} (h : Bytes xs) (k : Bytes ys) : Bytes (xs ++ ys) := fun x hx => (List.mem_append.1 hx).elim (h x) (k x)
theorem Bytes.take {xs : List Int} (h : Bytes xs) (n : Nat) : Bytes (xs.take n) := fun x hx => h x (List.mem_of_mem_take hx)
theorem Bytes.drop {xs : List Int} (h : Bytes xs) (n : Nat) : Bytes (xs.drop n) := fun x hx => h x (List.mem_of_mem_drop hx)
theorem Bytes.one {x : Int} (h0 : 0 ≤ x) (h1 : x < 256) : Bytes [x] := fun y hy => by
  rw [List.mem_singleton.1 hy]
  exact ⟨h0, h1⟩
theorem Bytes.set {xs : List Int} (h : Bytes xs) (i : Nat) {x : Int} (h0 : 0 ≤ x) (h1 : x < 256) : Bytes (xs.set i x) := fun y hy =>
  (List.mem_or_eq_of_mem_set hy).elim (h y) (fun e => e ▸ ⟨h0, h1⟩)
theorem Bytes.at_ {xs : List Int} (h : Bytes xs) (i : Int) : 0 ≤ rd xs i ∧ rd xs i < 256 := by
  unfold Go.Proofs.YtnohkhaagkkhjaaW.PrintWords.rd
  rw [List.getD_eq_getElem?_getD]
  rcases hx : xs[i.toNat]? with _ | x
  · simp
  · exact h x (List.mem_of_getElem? hx)

/-- A slice of bytes that reads xs; one of the call's own. -/
abbrev RdB (w : World) (A : Option Addr) (n : Nat) (xs : List Int) : Prop := (Kd.int .u8).C w A n xs
abbrev OwB (w : World) (base : Nat) (v : Value) (xs : List Int) : Prop := (Kd.int .u8).R 5 w base (fun _ => True) v xs

theorem infoB : (Try.prog.info? 5).map (fun i => (i.zero, i.size, i.bytes)) = some (some (.int .u8 0), 1, 1) := by kernel_rfl

theorem below_tr {B : Nat} {a b c : World} (h : Below B a b) (k : Below b.heap.size b c) (hB : B ≤ b.heap.size) : Below B a c := h.trans (k.mono hB)
theorem below_tr' {a b c : World} (h : Below a.heap.size a b) (k : Below b.heap.size b c) : Below a.heap.size a c := h.trans (k.mono h.size)

section
variable {ops : Array Oper} {rest : List Oper} {o : Oper} {a : Act} {Q : Exit → Act → World → Prop}
/-- append(v, y) of one byte. -/
theorem appB {w0 W : World} (base : Nat) (hgd : o.guard = none) (s x : Operand)
    (ho : o.op = .call { callee := .builtin .append, args := #[s, x], argTypes := #[22, 22] })
    (v : Value) (xs : List Int) (y : Int) (hs : a.eval s = v) (hx : a.eval x = .slice (some ⟨W.heap.size, 0, none⟩) 1 1)
    (HO : OwB W base v xs) (HB : Below base w0 W) (hbase : base ≤ W.heap.size) (hl : xs.length < 140737488355328)
    (h : ∀ v1 w1, OwB w1 base v1 (xs ++ [y]) → Below base w0 w1 → W.grownBy w1 v.ownBlock → (v1.ownBlock = v.ownBlock ∨ ∃ b, v1.ownBlock = some b ∧ W.heap.size ≤ b) → wpList Try.prog ops Q rest (a.put o.dst v1) w1) :
    wpList Try.prog ops Q (o :: rest) a (W.alloc (.cells #[.int .u8 y] 5)) :=
  Kd.R_append (Kd.int .u8) base hgd s x 22 5 (.int .u8 0) 1 ho Try.underlying22 infoB rfl (by decide) (by decide) v xs y [.int .u8 y] (fun _ => True) (fun _ => False) hs hx rfl (fun _ h => h.elim) (fun _ _ => trivial) HO HB hbase
    (by omega) h
/-- append(v, ys...) of bytes that are read. -/
theorem appBs {w0 W : World} (base : Nat) (hgd : o.guard = none) (s x : Operand)
    (ho : o.op = .call { callee := .builtin .append, args := #[s, x], argTypes := #[22, 22] })
    (v : Value) (xs ys : List Int) (A : Option Addr) (m c : Nat) (hs : a.eval s = v) (hx : a.eval x = .slice A m c)
    (HO : OwB W base v xs) (HR : RdB W A m ys) (HB : Below base w0 W) (hbase : base ≤ W.heap.size) (hl : xs.length + m ≤ 140737488355328)
    (h : ∀ v1 w1, OwB w1 base v1 (xs ++ ys) → Below base w0 w1 → W.grownBy w1 v.ownBlock → (v1.ownBlock = v.ownBlock ∨ ∃ b, v1.ownBlock = some b ∧ W.heap.size ≤ b) → wpList Try.prog ops Q rest (a.put o.dst v1) w1) :
    wpList Try.prog ops Q (o :: rest) a W :=
  Kd.R_append_rows (Kd.int .u8) base hgd s x 22 5 (.int .u8 0) 1 ho Try.underlying22 infoB rfl (by decide) (by decide) v xs ys A m c (fun _ => True) (fun _ => False) hs hx HO HR (fun _ _ h => h) (fun _ h => h.elim) (fun _ _ => trivial) HB hbase
    (by omega) h
end

/-- string(b). -/
theorem conv_str {w : World} {A : Option Addr} {n : Nat} {xs : List Int} (h : RdB w A n xs) (c : Nat) :
    (convert 22 9 (.slice A n c)).run Try.prog w = .ok (.string (strOfNums xs)) w := by
  have hr := Kd.reads_of_C (d := (0 : Int)) h
  rcases Nat.eq_zero_or_pos n with h0 | h0
  · obtain rfl : xs = [] := List.eq_nil_of_length_eq_zero (by have := h.1; omega)
    subst h0
    rcases A with _ | ad
    · exact run_convert_bytes_nil w 22 5 Try.underlying22 Try.underlying5 0 c 9 Try.underlying9
    · obtain ⟨b, off, q⟩ := ad
      rw [run_convert_bytes_string w 22 9 5 _ 0 c Try.underlying22 Try.underlying5 Try.underlying9, run_bytesToString w _ 0 c [] (by simp [loadCells, loadCellsFrom])]
      rfl
  · obtain ⟨ad, rfl, hc⟩ := hr.2.2 h0
    rw [run_convert_bytes_string w 22 9 5 _ n c Try.underlying22 Try.underlying5 Try.underlying9, run_bytesToString w ad n c xs ?_, foldl_push_bytes]
    · simp [strOfNums, ByteArray.empty, ByteArray.emptyWithCapacity]
      rfl
    · have := run_loadCells_list (P := Try.prog) w ad (xs.map (Value.int .u8)) (fun j v hj => by
        have hl := hr.1
        rw [List.getElem?_map] at hj
        rcases hx : xs[j]? with _ | x
        · rw [hx] at hj; cases hj
        · rw [hx] at hj
          obtain rfl := Option.some.inj hj
          have hjl := (List.getElem?_eq_some_iff.1 hx).1
          rw [hc j (by omega), List.getD_eq_getElem?_getD, hx]
          rfl)
      simpa [hr.1] using this

theorem strOfNums_inj {xs ys : List Int} (hx : Bytes xs) (hy : Bytes ys) (h : strOfNums xs = strOfNums ys) : xs = ys := by
  have h1 : (strOfNums xs).data.toList = (strOfNums ys).data.toList := by rw [h]
  rw [strOfNums_data, strOfNums_data] at h1
  clear h
  induction xs generalizing ys with
  | nil => cases ys with
    | nil => rfl
    | cons y ys => simp at h1
  | cons x xs ih => cases ys with
    | nil => simp at h1
    | cons y ys =>
      simp only [List.map_cons, List.cons.injEq] at h1
      have a := hx x (by simp)
      have b := hy y (by simp)
      have h2 := congrArg UInt8.toNat h1.1
      simp only [UInt8.toNat_ofNat'] at h2
      have : x = y := by omega
      rw [this, ih (fun z hz => hx z (by simp [hz])) (fun z hz => hy z (by simp [hz])) h1.2]
theorem str_beq {xs ys : List Int} (hx : Bytes xs) (hy : Bytes ys) : ((strOfNums xs).toList == (strOfNums ys).toList) = decide (xs = ys) := by
  rw [Bool.eq_iff_iff, beq_iff_eq, decide_eq_true_iff]
  constructor
  · intro h
    refine strOfNums_inj hx hy ?_
    rw [ByteArray.toList_eq, ByteArray.toList_eq] at h
    have h2 := Array.toList_inj.1 h
    calc strOfNums xs = ⟨(strOfNums xs).data⟩ := rfl
      _ = ⟨(strOfNums ys).data⟩ := by rw [h2]
      _ = strOfNums ys := rfl
  · rintro rfl; rfl

/-- b[:j], b[j:] -/
theorem cutTo {w : World} {A : Option Addr} {n c : Nat} {xs : List Int} (h : RdB w A n xs) (hc : n ≤ c) (j : Int) (h0 : 0 ≤ j) (hj : j ≤ n) :
    (∀ W : World, (Instr.slice 22 (.slice A n c) none (some (.int .i64 j)) none).run Try.prog W = .ok (.slice A j.toNat c) W) ∧ RdB w A j.toNat (xs.take j.toNat) := by
  obtain ⟨i0, hi, _, hsz, _⟩ := info_parts infoB
  exact ⟨cut_to 22 5 .i64 Try.underlying22 hi A n c j h0 hj hc, Kd.C_of_reads ((Kd.reads_of_C (d := (0 : Int)) h).take_ _ (by omega))⟩
theorem cutFrom {w : World} {A : Option Addr} {n c : Nat} {xs : List Int} (h : RdB w A n xs) (hc : n ≤ c) (j : Int) (h0 : 0 ≤ j) (hj : j ≤ n) :
    (∀ W : World, (Instr.slice 22 (.slice A n c) (some (.int .i64 j)) none none).run Try.prog W = .ok (.slice (if c = j.toNat then A else A.map (·.add j.toNat)) (n - j.toNat) (c - j.toNat)) W) ∧ RdB w (if c = j.toNat then A else A.map (·.add j.toNat)) (n - j.toNat) (xs.drop j.toNat) := by
  obtain ⟨i0, hi, _, hsz, _⟩ := info_parts infoB
  refine ⟨?_, Kd.C_of_reads ((Kd.reads_of_C (d := (0 : Int)) h).drop_ _ (by omega) hc)⟩
  have := cut_from (P := Try.prog) 22 5 .i64 Try.underlying22 hi 1 hsz A n c j h0 hj
  simpa using this

/-- A store into a row of one's own; what it leaves alone. -/
theorem OwB.store {w : World} {base g cap : Nat} {xs : List Int} (h : OwB w base (.slice (some ⟨g, 0, none⟩) xs.length cap) xs) (i : Int) (x : Int) :
    OwB (w.setCell ⟨g, i.toNat, none⟩ (.int .u8 x)) base (.slice (some ⟨g, 0, none⟩) xs.length cap) (xs.set i.toNat x) := (Kd.R_put h i x).1
theorem OwB.far {w : World} {base : Nat} {v : Value} {xs : List Int} (h : OwB w base v xs) {p : Addr} (hp : some p.block ≠ v.ownBlock) (u : Value) : OwB (w.setCell p u) base v xs := by
  have h1 : (Kd.int .u8).R 5 w base (fun k => v.ownBlock = some k) v xs := Kd.R_of_own (Kd.own_of_R h) (fun k hk => hk)
  exact Kd.R_mono (Kd.R_far h1 (fun k hk e => hp (by rw [hk, e])) u) (fun _ _ => trivial)
theorem OwB.lt {w : World} {base : Nat} {v : Value} {xs : List Int} (h : OwB w base v xs) (g : Nat) (hg : w.heap.size ≤ g) : some g ≠ v.ownBlock := fun e => by
  have := Kd.R_lt h g e.symm
  omega
theorem OwB.below {w w1 : World} {base : Nat} {v : Value} {xs : List Int} (h : OwB w base v xs) (hb : Below w.heap.size w w1) : OwB w1 base v xs := Kd.R_below h hb
theorem OwB.parts {w : World} {base n c : Nat} {A : Option Addr} {xs : List Int} (h : OwB w base (.slice A n c) xs) : n ≤ c ∧ RdB w A n xs := by
  obtain ⟨h1, h2, h3⟩ := Kd.R_reads' h
  rw [h1]
  exact ⟨by omega, h3⟩
/-- Of an owned row that is not empty: its block, a place of it. -/
theorem OwB.place {w : World} {base : Nat} {v : Value} {xs : List Int} (h : OwB w base v xs) (hp : 0 < xs.length) : ∃ g cap, v = .slice (some ⟨g, 0, none⟩) xs.length cap ∧ base ≤ g ∧ g < w.heap.size := by
  obtain ⟨g, cap, he, h1, h2, _⟩ := Kd.R_form h hp
  exact ⟨g, cap, he, h1, h2⟩
theorem OwB.cell {w : World} {base g cap : Nat} {xs : List Int} (h : OwB w base (.slice (some ⟨g, 0, none⟩) xs.length cap) xs) (i : Int) (h0 : 0 ≤ i) (hi : i < xs.length) :
    w.cell? ⟨g, i.toNat, none⟩ = some (.int .u8 (rd xs i)) ∧ w.frozen? ⟨g, i.toNat, none⟩ = false := Kd.R_cell (0 : Int) h i h0 hi
/-- A literal's row. -/
theorem own_litB (W : World) (base : Nat) (xs : List Int) (cs : Array Value) (n : Nat) (hcs : cs = (xs.map (Value.int .u8)).toArray) (hn : n = xs.length) (hb : base ≤ W.heap.size) (hm : xs.length ≤ 9223372036854775807) :
    OwB (W.alloc (.cells cs 5)) base (.slice (some ⟨W.heap.size, 0, none⟩) n n) xs := by
  subst hcs; subst hn
  exact Kd.R_of_own (own_lit W base 5 .u8 xs hb hm) (fun _ _ => trivial)
/-- A literal's row, read (whatever its mark). -/
theorem rd_lit (W : World) (xs : List Int) (cs : Array Value) (fr : Nat × Nat) (n : Nat) (hcs : cs = (xs.map (Value.int .u8)).toArray) (hn : n = xs.length) (hm : xs.length ≤ 9223372036854775807) :
    RdB (W.alloc (.cells cs 5 fr)) (some ⟨W.heap.size, 0, none⟩) n xs := by
  subst hcs; subst hn
  refine Kd.C_of_reads (d := (0 : Int)) ⟨rfl, hm, fun _ => ⟨_, rfl, fun j hj => ?_⟩⟩
  rw [add_plain, World.cell?_alloc_mark]
  simp [List.getD_eq_getElem?_getD, List.getElem?_eq_getElem hj]
theorem wf_u8 {x : Int} (h : (Lit.int .u8 x).wf = true) : 0 ≤ x ∧ x < 256 := by
  simp [Lit.wf, IntKind.min, IntKind.max, IntKind.signed, IntKind.bits] at h
  omega
theorem wf_u32 {x : Int} (h : (Lit.int .u32 x).wf = true) : 0 ≤ x ∧ x < 4294967296 := by
  simp [Lit.wf, IntKind.min, IntKind.max, IntKind.signed, IntKind.bits] at h
  omega
theorem wf_i64 {x : Int} (h : (Lit.int .i64 x).wf = true) : -9223372036854775808 ≤ x ∧ x ≤ 9223372036854775807 := by
  simp [Lit.wf, IntKind.min, IntKind.max, IntKind.signed, IntKind.bits] at h
  omega
/-- What the frame of a row tells of a slice of bytes that came in. -/
theorem isRow_read {w : World} {a : Option Addr} {len cap : Nat} {zs : List Int}
    (h : (a = none ∧ len = 0 ∧ cap = 0 ∧ zs = []) ∨ ∃ x, a = some x ∧ len ≤ cap ∧ cap ≤ maxLen ∧ zs.length = cap ∧ (∀ i, i < zs.length → w.cell? (x.add i) = some (.int .u8 (zs.getD i 0))) ∧ ∀ n ∈ zs, (Lit.int .u8 n).wf = true) :
    RdB w a len (zs.take len) ∧ len ≤ cap ∧ Bytes (zs.take len) := by
  rcases h with ⟨rfl, rfl, rfl, rfl⟩ | ⟨x, rfl, hl, hm, hz, hc, hw⟩
  · exact ⟨Kd.C_nil _ _, Nat.le_refl _, Bytes.nil⟩
  · refine ⟨Kd.C_of_reads (d := (0 : Int)) ⟨by rw [List.length_take]; omega, by simp only [maxLen] at hm; omega, fun _ => ⟨_, rfl, fun j hj => ?_⟩⟩, hl, ?_⟩
    · rw [hc j (by omega)]
      simp [List.getD_eq_getElem?_getD, List.getElem?_take, hj]
    · intro n hn
      have h2 := hw n (List.mem_of_mem_take hn)
      simp [Lit.wf, IntKind.min, IntKind.max, IntKind.signed, IntKind.bits] at h2
      omega
/-- What is owned is read, and has its form. -/
theorem OwB.reads {w : World} {base : Nat} {v : Value} {xs : List Int} (h : OwB w base v xs) : ∃ A c, v = .slice A xs.length c ∧ xs.length ≤ c ∧ RdB w A xs.length xs := Kd.R_reads h

theorem u32_xor_range (a b : Int) (ha : 0 ≤ a) (ha' : a < 4294967296) (hb : 0 ≤ b) (hb' : b < 4294967296) : 0 ≤ Go.bits .xor .u32 a b ∧ Go.bits .xor .u32 a b < 4294967296 := by
  rw [u32_xor a b ha ha' hb hb']
  have : (a.toNat ^^^ b.toNat) < 2 ^ 32 := Nat.xor_lt_two_pow (by omega) (by omega)
  omega
theorem u8_xor_range (a b : Int) (ha : 0 ≤ a) (ha' : a < 256) (hb : 0 ≤ b) (hb' : b < 256) : 0 ≤ Go.bits .xor .u8 a b ∧ Go.bits .xor .u8 a b < 256 := by
  rw [u8_xor a b ha ha' hb hb']
  have : (a.toNat ^^^ b.toNat) < 2 ^ 8 := Nat.xor_lt_two_pow (by omega) (by omega)
  omega
end Go.Proofs.Ytnohkhaagkkhjaa
