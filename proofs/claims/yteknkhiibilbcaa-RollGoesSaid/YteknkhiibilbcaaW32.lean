/- Words of 32 bits: slices of them that are read and made. Conditions: none; plain lemmas. -/
import Derived.Test.YteknkhiibilbcaaBase
namespace Go.Proofs.Yteknkhiibilbcaa
open Go.RowKit Go.Proofs.YteknkhiibilbcaaW.PrintWords Go.Proofs.YteknkhiibilbcaaW.PrintMore
set_option linter.unusedVariables false
set_option linter.unusedSimpArgs false
def Ws (xs : List Int) : Prop := ∀ x ∈ xs, 0 ≤ x ∧ x < 4294967296
theorem Ws.nil : Ws [] := fun _ h => by cases h
theorem Ws.append {xs ys : List Int} (h : Ws xs) (k : Ws ys) : Ws (xs ++ ys) := fun x hx => (List.mem_append.1 hx).elim (h x) (k x)
theorem Ws.one {x : Int} (h : 0 ≤ x ∧ x < 4294967296) : Ws [x] := fun y hy => by
  rw [List.mem_singleton.1 hy]
  exact h
theorem Ws.set {xs : List Int} (h : Ws xs) (i : Nat) {x : Int} (hx : 0 ≤ x ∧ x < 4294967296) : Ws (xs.set i x) := fun y hy =>
  (List.mem_or_eq_of_mem_set hy).elim (h y) (fun e => e ▸ hx)
theorem Ws.at_ {xs : List Int} (h : Ws xs) (i : Int) : 0 ≤ rd xs i ∧ rd xs i < 4294967296 := by
  unfold Go.Proofs.YteknkhiibilbcaaW.PrintWords.rd
  rw [List.getD_eq_getElem?_getD]
  rcases hx : xs[i.toNat]? with _ | x
  · simp
  · exact h x (List.mem_of_getElem? hx)
abbrev RdW (w : World) (A : Option Addr) (n : Nat) (xs : List Int) : Prop := (Kd.int .u32).C w A n xs
abbrev OwW (w : World) (base : Nat) (v : Value) (xs : List Int) : Prop := (Kd.int .u32).R 22 w base (fun _ => True) v xs
theorem infoW : (Try.prog.info? 22).map (fun i => (i.zero, i.size, i.bytes)) = some (some (.int .u32 0), 1, 4) := by kernel_rfl
section
variable {ops : Array Oper} {rest : List Oper} {o : Oper} {a : Act} {Q : Exit → Act → World → Prop}
theorem appW {w0 W : World} (base : Nat) (hgd : o.guard = none) (s x : Operand)
    (ho : o.op = .call { callee := .builtin .append, args := #[s, x], argTypes := #[36, 36] })
    (v : Value) (xs : List Int) (y : Int) (hs : a.eval s = v) (hx : a.eval x = .slice (some ⟨W.heap.size, 0, none⟩) 1 1)
    (HO : OwW W base v xs) (HB : Below base w0 W) (hbase : base ≤ W.heap.size) (hl : xs.length < 35184372088832)
    (h : ∀ v1 w1, OwW w1 base v1 (xs ++ [y]) → Below base w0 w1 → W.grownBy w1 v.ownBlock → (v1.ownBlock = v.ownBlock ∨ ∃ b, v1.ownBlock = some b ∧ W.heap.size ≤ b) → wpList Try.prog ops Q rest (a.put o.dst v1) w1) :
    wpList Try.prog ops Q (o :: rest) a (W.alloc (.cells #[.int .u32 y] 22)) :=
  Kd.R_append (Kd.int .u32) base hgd s x 36 22 (.int .u32 0) 4 ho Try.underlying36 infoW rfl (by decide) (by decide) v xs y [.int .u32 y] (fun _ => True) (fun _ => False) hs hx rfl (fun _ h => h.elim) (fun _ _ => trivial) HO HB hbase
    (by omega) h
theorem appWs {w0 W : World} (base : Nat) (hgd : o.guard = none) (s x : Operand)
    (ho : o.op = .call { callee := .builtin .append, args := #[s, x], argTypes := #[36, 36] })
    (v : Value) (xs ys : List Int) (A : Option Addr) (m c : Nat) (hs : a.eval s = v) (hx : a.eval x = .slice A m c)
    (HO : OwW W base v xs) (HR : RdW W A m ys) (HB : Below base w0 W) (hbase : base ≤ W.heap.size) (hl : xs.length + m ≤ 35184372088832)
    (h : ∀ v1 w1, OwW w1 base v1 (xs ++ ys) → Below base w0 w1 → W.grownBy w1 v.ownBlock → (v1.ownBlock = v.ownBlock ∨ ∃ b, v1.ownBlock = some b ∧ W.heap.size ≤ b) → wpList Try.prog ops Q rest (a.put o.dst v1) w1) :
    wpList Try.prog ops Q (o :: rest) a W :=
  Kd.R_append_rows (Kd.int .u32) base hgd s x 36 22 (.int .u32 0) 4 ho Try.underlying36 infoW rfl (by decide) (by decide) v xs ys A m c (fun _ => True) (fun _ => False) hs hx HO HR (fun _ _ h => h) (fun _ h => h.elim) (fun _ _ => trivial) HB hbase
    (by omega) h
end
theorem OwW.store {w : World} {base g cap : Nat} {xs : List Int} (h : OwW w base (.slice (some ⟨g, 0, none⟩) xs.length cap) xs) (i : Int) (x : Int) :
    OwW (w.setCell ⟨g, i.toNat, none⟩ (.int .u32 x)) base (.slice (some ⟨g, 0, none⟩) xs.length cap) (xs.set i.toNat x) := (Kd.R_put h i x).1
theorem OwW.below {w w1 : World} {base : Nat} {v : Value} {xs : List Int} (h : OwW w base v xs) (hb : Below w.heap.size w w1) : OwW w1 base v xs := Kd.R_below h hb
theorem OwW.parts {w : World} {base n c : Nat} {A : Option Addr} {xs : List Int} (h : OwW w base (.slice A n c) xs) : n ≤ c ∧ RdW w A n xs := by
  obtain ⟨h1, h2, h3⟩ := Kd.R_reads' h
  rw [h1]
  exact ⟨by omega, h3⟩
theorem OwW.place {w : World} {base : Nat} {v : Value} {xs : List Int} (h : OwW w base v xs) (hp : 0 < xs.length) : ∃ g cap, v = .slice (some ⟨g, 0, none⟩) xs.length cap ∧ base ≤ g ∧ g < w.heap.size := by
  obtain ⟨g, cap, he, h1, h2, _⟩ := Kd.R_form h hp
  exact ⟨g, cap, he, h1, h2⟩
theorem OwW.cell {w : World} {base g cap : Nat} {xs : List Int} (h : OwW w base (.slice (some ⟨g, 0, none⟩) xs.length cap) xs) (i : Int) (h0 : 0 ≤ i) (hi : i < xs.length) :
    w.cell? ⟨g, i.toNat, none⟩ = some (.int .u32 (rd xs i)) ∧ w.frozen? ⟨g, i.toNat, none⟩ = false := Kd.R_cell (0 : Int) h i h0 hi
theorem own_litW (W : World) (base : Nat) (xs : List Int) (cs : Array Value) (n : Nat) (hcs : cs = (xs.map (Value.int .u32)).toArray) (hn : n = xs.length) (hb : base ≤ W.heap.size) (hm : xs.length ≤ 9223372036854775807) :
    OwW (W.alloc (.cells cs 22)) base (.slice (some ⟨W.heap.size, 0, none⟩) n n) xs := by
  subst hcs; subst hn
  exact Kd.R_of_own (own_lit W base 22 .u32 xs hb hm) (fun _ _ => trivial)
theorem OwW.reads {w : World} {base : Nat} {v : Value} {xs : List Int} (h : OwW w base v xs) : ∃ A c, v = .slice A xs.length c ∧ xs.length ≤ c ∧ RdW w A xs.length xs := Kd.R_reads h
theorem rdW_at {w : World} {ad : Addr} {n : Nat} {xs : List Int} (h : RdW w (some ad) n xs) (i : Nat) (hi : i < n) : w.cell? (ad.add i) = some (.int .u32 (rd xs i)) := by
  obtain ⟨ad', e, hx⟩ := Kd.at_int h (i : Int) (by omega) (by omega)
  cases e
  exact hx
theorem rdB_at {w : World} {ad : Addr} {n : Nat} {xs : List Int} (h : RdB w (some ad) n xs) (i : Nat) (hi : i < n) : w.cell? (ad.add i) = some (.int .u8 (rd xs i)) := by
  obtain ⟨ad', e, hx⟩ := Kd.at_int h (i : Int) (by omega) (by omega)
  cases e
  exact hx
end Go.Proofs.Yteknkhiibilbcaa
