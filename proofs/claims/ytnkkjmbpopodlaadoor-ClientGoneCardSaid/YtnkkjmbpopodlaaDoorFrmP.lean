/- Frames: what opens to what. Plain laws. -/
import Derived.Test.YtnkkjmbpopodlaaDoorG11
namespace Go.Proofs.YtnkkjmbpopodlaaDoor
open Go.RowKit Go.Proofs.YtnkkjmbpopodlaaDoorW.PrintWords Go.Proofs.YtnkkjmbpopodlaaDoorW.PrintMore
set_option linter.unusedVariables false
set_option linter.unusedSimpArgs false
def frm (m : Int) (k : Nat) (B t : List Int) : List Int := [76, m] ++ le32 k ++ B ++ t
def openF (most m : Int) (k : Nat) (B t : List Int) : UR := if most < k then ⟨[], 3⟩ else
  if m = 1 then (if (unp k B).E ≠ 0 then ⟨[], 2⟩ else if (unp k B).B.length ≠ k then ⟨[], 2⟩ else if le32 (crc 0 (unp k B).B) ≠ t then ⟨[], 7⟩ else ⟨(unp k B).B, 0⟩)
  else if B.length ≠ k then ⟨[], 2⟩ else if le32 (crc 0 B) ≠ t then ⟨[], 7⟩ else ⟨B, 0⟩
theorem frm_len {m : Int} {k : Nat} {B t : List Int} (ht : t.length = 4) : (frm m k B t).length = 10 + B.length := by simp [frm, le32, ht]; omega
theorem frm_rd1 {m : Int} {k : Nat} {B t : List Int} : rd (frm m k B t) 1 = m := rfl
theorem frm_num {m : Int} {k : Nat} {B t : List Int} (ht : t.length = 4) (hk : k < 4294967296) (h0 : 0 ≤ m) (h1 : m ≤ 1) : lenL (frm m k B t) = some k := by
  have hl := frm_len (m := m) (k := k) (B := B) ht
  have e0 : rd (frm m k B t) 0 = 76 := rfl
  have e2 : rd (frm m k B t) 2 = ((k % 256 : Nat) : Int) := rfl
  have e3 : rd (frm m k B t) 3 = ((k / 256 % 256 : Nat) : Int) := rfl
  have e4 : rd (frm m k B t) 4 = ((k / 65536 % 256 : Nat) : Int) := rfl
  have e5 : rd (frm m k B t) 5 = ((k / 16777216 % 256 : Nat) : Int) := rfl
  unfold lenL
  rw [e0, e2, e3, e4, e5, frm_rd1, if_neg (by omega)]
  simp only [Int.toNat_natCast, Option.some.injEq]
  omega
theorem frm_drop {m : Int} {k : Nat} {B t : List Int} (ht : t.length = 4) : (frm m k B t).drop ((frm m k B t).length - 4) = t := by
  rw [frm_len ht]
  unfold frm
  rw [List.drop_append, List.drop_eq_nil_of_le (by simp [le32]; omega)]
  simp [le32, show 10 + B.length - 4 - (B.length + 6) = 0 by omega]
theorem frm_mid {m : Int} {k : Nat} {B t : List Int} (ht : t.length = 4) : midL (frm m k B t) 6 ((frm m k B t).length - 4) = B := by
  rw [frm_len ht]
  unfold frm midL
  rw [List.take_append_of_le_length (by simp [le32]; omega), List.take_of_length_le (by simp [le32]; omega)]
  rfl
theorem open_frm {most m : Int} {k : Nat} {B t : List Int} (ht : t.length = 4) (hk : k < 4294967296) (h0 : 0 ≤ m) (h1 : m ≤ 1) : openL most (frm m k B t) = openF most m k B t := by
  unfold openL openF
  rw [frm_num ht hk h0 h1]
  dsimp only
  rw [frm_rd1, frm_mid ht]
  unfold openT
  rw [frm_drop ht]
theorem le32_len (n : Nat) : (le32 n).length = 4 := by simp [le32]
theorem openF_plain (most : Int) (b : List Int) : openF most 0 b.length b (le32 (crc 0 b)) = if most < b.length then ⟨[], 3⟩ else ⟨b, 0⟩ := by
  unfold openF
  split
  · rfl
  · simp
theorem openF_unp (most : Int) (b p : List Int) (h : unp b.length p = ⟨b, 0⟩) : openF most 1 b.length p (le32 (crc 0 b)) = if most < b.length then ⟨[], 3⟩ else ⟨b, 0⟩ := by
  unfold openF
  split
  · rfl
  · rw [h]
    simp
theorem seal_frm (b : List Int) : sealL b = frm (sealM b) b.length (sealB b) (le32 (crc 0 b)) := rfl
theorem sealM_range (b : List Int) : 0 ≤ sealM b ∧ sealM b ≤ 1 := by unfold sealM; split <;> omega
theorem unp_self (b : List Int) : unp b.length (packL b) = ⟨b, 0⟩ := by rw [unp_pack _ (by omega), if_pos (by omega)]
theorem open_seal (most : Int) {b : List Int} (hb : b.length < 4294967296) : openL most (sealL b) = if most < b.length then ⟨[], 3⟩ else ⟨b, 0⟩ := by
  rw [seal_frm, open_frm (le32_len _) hb (sealM_range b).1 (sealM_range b).2]
  unfold sealM sealB
  split
  · exact openF_unp most b _ (unp_self b)
  · exact openF_plain most b
theorem seal_len (b : List Int) : (sealL b).length = 10 + (sealB b).length := frm_len (le32_len _)
theorem sealB_le (b : List Int) : (sealB b).length ≤ b.length := by
  unfold sealB
  by_cases h : isP b
  · rw [if_pos h]
    unfold isP at h
    omega
  · rw [if_neg h]
    exact Nat.le_refl _
theorem sealB_bytes {b : List Int} (hb : Bytes b) : Bytes (sealB b) := by unfold sealB; split <;> first | exact packL_bytes hb | exact hb
theorem seal_bytes {b : List Int} (hb : Bytes b) : Bytes (sealL b) := by
  have h1 : Bytes [76, sealM b] := by
    intro x hx
    have := sealM_range b
    simp at hx
    omega
  exact ((h1.append (le32_bytes _)).append (sealB_bytes hb)).append (le32_bytes _)
end Go.Proofs.YtnkkjmbpopodlaaDoor
