/- Rows of slices of bytes: literals, appended to, read. Plain lemmas. -/
import Derived.Test.YtnohkhaagkkhjaaFr
namespace Go.Proofs.Ytnohkhaagkkhjaa
open Go.RowKit Go.Proofs.YtnohkhaagkkhjaaW.PrintWords Go.Proofs.YtnohkhaagkkhjaaW.PrintMore
set_option linter.unusedVariables false
set_option linter.unusedSimpArgs false
abbrev S3 := Option Addr × Nat × Nat
def encS (t : S3) : Value := .slice t.1 t.2.1 t.2.2
theorem encS_one (t : S3) : (encS t).oneCell' = true := rfl
abbrev KS : Kd S3 := Kd.scalar encS encS_one
abbrev OwS (w : World) (v : Value) (xs : List S3) : Prop := KS.R 22 w 0 (fun _ => True) v xs
abbrev RdS (w : World) (A : Option Addr) (n : Nat) (xs : List S3) : Prop := KS.C w A n xs
theorem infoS : (Try.prog.info? 22).map (fun i => (i.zero, i.size, i.bytes)) = some (some (.slice none 0 0), 1, 24) := by kernel_rfl
theorem ownS_lit (W : World) (xs : List S3) (cs : Array Value) (n : Nat) (hcs : cs = (xs.map encS).toArray) (hn : n = xs.length) (hm : xs.length ≤ 9223372036854775807) :
    OwS (W.alloc (.cells cs 22)) (.slice (some ⟨W.heap.size, 0, none⟩) n n) xs := by
  subst hcs; subst hn
  have h := World.ownsRow_lit (base := 0) (e := 22) (size := 1) W (xs.map encS).toArray xs.length (Nat.zero_le _) (by simpa [maxLen] using hm) (by simp)
  have h2 : (W.alloc (.cells (xs.map encS).toArray 22)).ownsRow 0 22 1 (.slice (some ⟨W.heap.size, 0, none⟩) xs.length xs.length) xs.length (xs.map encS) := by simpa using h
  exact Kd.R_of_own h2 (fun _ _ => trivial)
theorem rdS_lit (W : World) (xs : List S3) (cs : Array Value) (n : Nat) (hcs : cs = (xs.map encS).toArray) (hn : n = xs.length) (hm : xs.length ≤ 9223372036854775807) :
    RdS (W.alloc (.cells cs 22)) (some ⟨W.heap.size, 0, none⟩) n xs := by
  subst hcs; subst hn
  refine Kd.C_of_reads (d := ((none, 0, 0) : S3)) ⟨rfl, hm, fun _ => ⟨_, rfl, fun j hj => ?_⟩⟩
  rw [add_plain, World.cell?_alloc_mark]
  simp [List.getD_eq_getElem?_getD, List.getElem?_eq_getElem hj]
theorem rdS_at {w : World} {ad : Addr} {n : Nat} {xs : List S3} (h : RdS w (some ad) n xs) (i : Nat) (hi : i < n) : w.cell? (ad.add i) = some (encS (xs.getD i (none, 0, 0))) := by
  obtain ⟨_, _, hc⟩ := Kd.reads_of_C (d := ((none, 0, 0) : S3)) h
  obtain ⟨ad', he, hx⟩ := hc (by omega)
  injection he with he
  subst he
  exact hx i hi
section
variable {ops : Array Oper} {rest : List Oper} {o : Oper} {a : Act} {Q : Exit → Act → World → Prop}
theorem appS {w0 W : World} (hgd : o.guard = none) (s x : Operand)
    (ho : o.op = .call { callee := .builtin .append, args := #[s, x], argTypes := #[26, 26] })
    (v : Value) (xs ys : List S3) (A : Option Addr) (m c : Nat) (hs : a.eval s = v) (hx : a.eval x = .slice A m c)
    (HO : OwS W v xs) (HR : RdS W A m ys) (HB : Below 0 w0 W) (hl : (xs.length + m) * 24 ≤ 140737488355328)
    (h : ∀ v1 w1, OwS w1 v1 (xs ++ ys) → Below 0 w0 w1 → W.grownBy w1 v.ownBlock → (v1.ownBlock = v.ownBlock ∨ ∃ b, v1.ownBlock = some b ∧ W.heap.size ≤ b) → wpList Try.prog ops Q rest (a.put o.dst v1) w1) :
    wpList Try.prog ops Q (o :: rest) a W :=
  Kd.R_append_rows KS 0 hgd s x 26 22 (.slice none 0 0) 24 ho Try.underlying26 infoS rfl (by decide) (by decide) v xs ys A m c (fun _ => True) (fun _ => False) hs hx HO HR (fun _ _ h => h) (fun _ h => h.elim) (fun _ _ => trivial) HB (Nat.zero_le _) hl h
end
end Go.Proofs.Ytnohkhaagkkhjaa
