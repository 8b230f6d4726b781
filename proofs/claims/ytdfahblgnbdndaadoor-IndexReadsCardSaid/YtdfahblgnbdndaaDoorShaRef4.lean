/- Contract: lighterageref02.Sum. Conditions: its own. -/
import Derived.Test.YtdfahblgnbdndaaDoorShaRef2
import Derived.Test.YtdfahblgnbdndaaDoorG2
namespace Go.Proofs.YtdfahblgnbdndaaDoor
open Go.RowKit Go.Proofs.YtdfahblgnbdndaaDoorW.PrintWords Go.Proofs.YtdfahblgnbdndaaDoorW.PrintMore
set_option linter.unusedVariables false
set_option linter.unusedSimpArgs false
def hs (all : List Int) : Nat → List Int
  | 0 => IV
  | j + 1 => comp (hs all j) ((all.drop (64 * j)).take 64)
theorem hs_len (all : List Int) : ∀ j, (hs all j).length = 8
  | 0 => rfl
  | j + 1 => comp_len (hs_len all j)
theorem IV_ws : Ws IV := by
  have : (IV.all fun x => decide (0 ≤ x ∧ x < 4294967296)) = true := by decide +kernel
  intro x hx
  exact of_decide_eq_true (List.all_eq_true.1 this x hx)
theorem hs_ws (all : List Int) : ∀ j, Ws (hs all j)
  | 0 => IV_ws
  | j + 1 => comp_ws (hs_ws all j)
def dgt (h : List Int) : List Int := (List.range 32).map fun i => rd h ((i / 4 : Nat) : Int) / 256 ^ (3 - i % 4) % 256
theorem dgt_len (h : List Int) : (dgt h).length = 32 := by simp [dgt]
theorem rd_dgt (h : List Int) (k : Nat) (hk : k < 32) : rd (dgt h) k = rd h ((k / 4 : Nat) : Int) / 256 ^ (3 - k % 4) % 256 := by
  have h0 : (dgt h)[k]? = some (rd h ((k / 4 : Nat) : Int) / 256 ^ (3 - k % 4) % 256) := by
    unfold dgt
    rw [List.getElem?_map, List.getElem?_range hk]
    rfl
  show (dgt h).getD ((k : Int).toNat) 0 = _
  rw [Int.toNat_natCast, List.getD_eq_getElem?_getD, h0]
  rfl
theorem dgt_bytes (h : List Int) : Bytes (dgt h) := by
  intro x hx
  obtain ⟨i, _, rfl⟩ := List.mem_map.1 hx
  exact ⟨Int.emod_nonneg _ (by omega), Int.emod_lt_of_pos _ (by omega)⟩
/-- The digest. -/
def shaL (xs : List Int) : List Int := dgt (hs (whole xs) ((whole xs).length / 64))
theorem shaL_len (xs : List Int) : (shaL xs).length = 32 := dgt_len _
theorem shaL_bytes (xs : List Int) : Bytes (shaL xs) := dgt_bytes _
end Go.Proofs.YtdfahblgnbdndaaDoor
