/- Plain lemmas and contracts, several texts in one: Lz1, Lz2, Lz3, Lz4, Lz5, LzPure, Lz6. Conditions: their own. -/
import Derived.Test.YtnkkjmbpopodlaaDoorG1
import Derived.Deep.QuietTactic
import Derived.BigQuiet
import Derived.Laws.Cover3
import Derived.RangeFuncBox
namespace Go.Proofs.YtnkkjmbpopodlaaDoor
open Go.RowKit Go.Proofs.YtnkkjmbpopodlaaDoorW.PrintWords Go.Proofs.YtnkkjmbpopodlaaDoorW.PrintMore
set_option linter.unusedVariables false
set_option linter.unusedSimpArgs false
/-- May one go on at n? -/
def goesOn (b : List Int) (i k n : Nat) : Prop := n < 131 ∧ i + n < b.length ∧ rd b ((i + n : Nat) : Int) = rd b ((k + n : Nat) : Int)
instance (b : List Int) (i k n : Nat) : Decidable (goesOn b i k n) := by unfold goesOn; infer_instance
def runF (b : List Int) (i k : Nat) : Nat → Nat → Nat
  | 0, n => n
  | f + 1, n => if goesOn b i k n then runF b i k f (n + 1) else n
/-- How many bytes from i on are those from k on, 131 at most. -/
def runL (b : List Int) (i k : Nat) : Nat := runF b i k 131 0
theorem runF_step {b : List Int} {i k n : Nat} (h : goesOn b i k n) : runF b i k (131 - n) n = runF b i k (131 - (n + 1)) (n + 1) := by
  have hn := h.1
  rw [show 131 - n = (131 - (n + 1)) + 1 by omega, runF, if_pos h]
theorem runF_end {b : List Int} {i k n : Nat} (hn : n ≤ 131) (h : ¬ goesOn b i k n) : runF b i k (131 - n) n = n := by
  by_cases e : n = 131
  · subst e; rfl
  · rw [show 131 - n = (131 - (n + 1)) + 1 by omega, runF, if_neg h]
theorem drewN_below (w : World) (m : Nat) : Below w.heap.size w (w.drewN m) := pw_below_drewN (Below.refl _ _) m
def LongInv (b : List Int) (i k : Nat) (w : World) (v : Value) (wr : World) : Prop := ∃ n : Nat, n ≤ 131 ∧ i + n ≤ b.length + 1 ∧ v = .int .i64 n ∧ runF b i k (131 - n) n = runL b i k ∧ Below w.heap.size w wr
end Go.Proofs.YtnkkjmbpopodlaaDoor
namespace Go.Proofs.YtnkkjmbpopodlaaDoor
open Go.RowKit Go.Proofs.YtnkkjmbpopodlaaDoorW.PrintWords Go.Proofs.YtnkkjmbpopodlaaDoorW.PrintMore
set_option linter.unusedVariables false
set_option linter.unusedSimpArgs false
/-- Rows of numbers. -/
abbrev OwI (w : World) (v : Value) (xs : List Int) : Prop := (Kd.int .i64).R 3 w 0 (fun _ => True) v xs
abbrev RdI (w : World) (A : Option Addr) (n : Nat) (xs : List Int) : Prop := (Kd.int .i64).C w A n xs
section
variable {ops : Array Oper} {Q : Exit → Act → World → Prop} {ds : List Nat}
end
/-- Four bytes from p on. -/
def win (b : List Int) (p : Nat) : List Int := (b.drop p).take 4
/-- Where, ahead of n, these four bytes stand. -/
def occ (b ks : List Int) (n : Nat) : List Int := ((List.range n).filter fun p => decide (win b p = ks)).map Int.ofNat
/-- The map at bm: the places ahead of n, each key's row in S, no two keys' in one. -/
structure LzMap (w : World) (S : Nat → Prop) (g bm : Nat) (b : List Int) (n : Nat) (M : List Int → Option Value) : Prop where
  is : MapIs w bm 4 M
  rows : ∀ ks v, KeyB 4 ks → M ks = some v → OwI w v (occ b ks n) ∧ ∀ k, v.ownBlock = some k → S k ∧ k ≠ g ∧ k ≠ bm
  nil_ : ∀ ks, KeyB 4 ks → M ks = none → occ b ks n = []
  apart : ∀ ks ks' v v' k, KeyB 4 ks → KeyB 4 ks' → M ks = some v → M ks' = some v' → v.ownBlock = some k → v'.ownBlock = some k → ks = ks'
end Go.Proofs.YtnkkjmbpopodlaaDoor
namespace Go.Proofs.YtnkkjmbpopodlaaDoor
open Go.RowKit Go.Proofs.YtnkkjmbpopodlaaDoorW.PrintWords Go.Proofs.YtnkkjmbpopodlaaDoorW.PrintMore
set_option linter.unusedVariables false
set_option linter.unusedSimpArgs false
section
variable {P : Program} {o : Oper} {a : Act}
end
def nOf (w : World) (g : Nat) : Nat := (intOf ((w.cell? ⟨g, 2, none⟩).getD undef)).toNat
end Go.Proofs.YtnkkjmbpopodlaaDoor
namespace Go.Proofs.YtnkkjmbpopodlaaDoor
open Go.RowKit Go.Shelf Go.Proofs.YtnkkjmbpopodlaaDoorW.PrintWords Go.Proofs.YtnkkjmbpopodlaaDoorW.PrintMore
set_option linter.unusedVariables false
set_option linter.unusedSimpArgs false
attribute [local go_sem] Oper.semAt_some
def backAt (zs : List Int) (j : Nat) : Int × Int := (((zs.length - 1 - j : Nat) : Int), rd zs ((zs.length - 1 - j : Nat) : Int))
/-- f 0, f 1, .., f (k - 1). -/
def uptoF {α : Type} (f : Nat → α) (k : Nat) : List α := (List.range k).map f
/-- Two blocks lie as they lay. -/
def KpS (p q : Nat) (W W' : World) : Prop := ∀ k, k = p ∨ k = q → W'.heap[k]? = W.heap[k]?
end Go.Proofs.YtnkkjmbpopodlaaDoor
namespace Go.Proofs.YtnkkjmbpopodlaaDoor
open Go.RowKit Go.Shelf Go.Proofs.YtnkkjmbpopodlaaDoorW.PrintWords Go.Proofs.YtnkkjmbpopodlaaDoorW.PrintMore
set_option linter.unusedVariables false
set_option linter.unusedSimpArgs false
attribute [local go_sem] Oper.semAt_some
/-- One place is looked at. -/
def mstep (b : List Int) (i : Nat) (best : Int × Int) (x : Int × Int) : Int × Int := if best.1 < (runL b i x.2.toNat : Int) then ((runL b i x.2.toNat : Int), (i : Int) - x.2) else best
def mst (b : List Int) (i : Nat) (pre : List (Int × Int)) : Int × Int := pre.foldl (mstep b i) (0, 0)
/-- A place with its number, told by the iterator. -/
abbrev Pos (i : Nat) : Type := { x : Int × Int // 0 ≤ x.2 ∧ x.2 ≤ i }
def encP (i : Nat) (x : Pos i) : Array Value := #[Value.int .i64 x.1.1, Value.int .i64 x.1.2]
def msts (b : List Int) (i : Nat) (pre : List (Pos i)) : Int × Int := mst b i (pre.map fun x => x.1)
/-- What the places zs tell: those from behind, as long as none is too far. -/
def MRes (b : List Int) (i : Nat) (zs : List Int) (r : Int × Int) : Prop :=
  ∃ k, k ≤ zs.length ∧ r = mst b i (uptoF (backAt zs) k) ∧ (∀ p ∈ uptoF (backAt zs) k, (i : Int) - p.2 ≤ 1024) ∧ (k = zs.length ∨ 1024 < (i : Int) - (backAt zs k).2)
theorem occ_range (b ks : List Int) (i : Nat) (j : Int) : 0 ≤ rd (occ b ks i) j ∧ rd (occ b ks i) j ≤ i := by
  unfold Go.Proofs.YtnkkjmbpopodlaaDoorW.PrintWords.rd
  rw [List.getD_eq_getElem?_getD]
  rcases hx : (occ b ks i)[j.toNat]? with _ | x
  · simp
  · have hm := List.mem_of_getElem? hx
    unfold occ at hm
    obtain ⟨p, hp, rfl⟩ := List.mem_map.1 hm
    have := List.mem_range.1 (List.mem_filter.1 hp).1
    simp
    omega
def posAt (b ks : List Int) (i : Nat) (j : Nat) : Pos i := ⟨backAt (occ b ks i) j, occ_range b ks i _⟩
/-- The two variables, and all else as it was. -/
structure MI (w5 : World) (p6 p7 : Nat) (r : Int × Int) (W : World) : Prop where
  n : W.heap[p6]? = some (.cells #[.int .i64 r.1] 3 (0, 0))
  d : W.heap[p7]? = some (.cells #[.int .i64 r.2] 3 (0, 0))
  fr : Fr w5 W (fun k => k = p6 ∨ k = p7)
def Near (i : Nat) (pre : List (Pos i)) : Prop := ∀ p ∈ pre, (i : Int) - p.1.2 ≤ 1024
end Go.Proofs.YtnkkjmbpopodlaaDoor
namespace Go.Proofs.YtnkkjmbpopodlaaDoor
open Go.RowKit Go.Proofs.YtnkkjmbpopodlaaDoorW.PrintWords Go.Proofs.YtnkkjmbpopodlaaDoorW.PrintMore
set_option linter.unusedVariables false
set_option linter.unusedSimpArgs false
theorem runF_all (b : List Int) (i k : Nat) : ∀ f n x, n ≤ x → x < runF b i k f n → goesOn b i k x
  | 0, n, x, h1, h2 => by unfold runF at h2; omega
  | f + 1, n, x, h1, h2 => by
    unfold runF at h2
    split at h2
    · rename_i h
      by_cases e : x = n
      · rw [e]; exact h
      · exact runF_all b i k f (n + 1) x (by omega) h2
    · omega
theorem runL_gt {b : List Int} {i k n : Nat} (h : n < runL b i k) : goesOn b i k n := runF_all b i k 131 0 n (Nat.zero_le _) h
theorem runL_le (b : List Int) (i k : Nat) : runL b i k ≤ 131 := by
  rcases Nat.lt_or_ge 131 (runL b i k) with h | h
  · have := (runL_gt h).1; omega
  · exact h
theorem runL_len (b : List Int) (i k : Nat) (hi : i ≤ b.length) : i + runL b i k ≤ b.length := by
  rcases Nat.eq_zero_or_pos (runL b i k) with h | h
  · omega
  · have := (runL_gt (b := b) (i := i) (k := k) (n := runL b i k - 1) (by omega)).2.1
    omega
theorem rd_getD (b : List Int) (n : Nat) : rd b (n : Int) = b[n]?.getD 0 := by
  unfold Go.Proofs.YtnkkjmbpopodlaaDoorW.PrintWords.rd
  rw [Int.toNat_natCast, List.getD_eq_getElem?_getD]
/-- One distance is tried. -/
def rstep (b : List Int) (i : Nat) (best : Int × Int) (j : Nat) : Int × Int := if 3 < runL b i (i - (j + 1)) ∧ best.1 < (runL b i (i - (j + 1)) : Int) then ((runL b i (i - (j + 1)) : Int), (j : Int) + 1) else best
/-- The match at a place. -/
def lzM (b : List Int) (i : Nat) : Int × Int := (List.range (min i 1024)).foldl (rstep b i) (0, 0)
end Go.Proofs.YtnkkjmbpopodlaaDoor
namespace Go.Proofs.YtnkkjmbpopodlaaDoor
open Go.RowKit Go.Shelf Go.Proofs.YtnkkjmbpopodlaaDoorW.PrintWords Go.Proofs.YtnkkjmbpopodlaaDoorW.PrintMore
set_option linter.unusedVariables false
set_option linter.unusedSimpArgs false
/-- The match at any place, none outside. -/
def lzMI (b : List Int) (i : Int) : Int × Int := if 0 ≤ i ∧ i < b.length then lzM b i.toNat else (0, 0)
end Go.Proofs.YtnkkjmbpopodlaaDoor
