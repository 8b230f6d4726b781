/- Frames: what opens to what. Plain laws. -/
import Derived.Test.YtcbcoaafdggniaaFrm9
import Derived.Test.YtcbcoaafdggniaaFrm7
namespace Go.Proofs.Ytcbcoaafdggniaa
open Go.RowKit Go.Proofs.YtcbcoaafdggniaaW.PrintWords Go.Proofs.YtcbcoaafdggniaaW.PrintMore
set_option linter.unusedVariables false
set_option linter.unusedSimpArgs false
def frm (m : Int) (k : Nat) (B t : List Int) : List Int := [76, m] ++ le32 k ++ B ++ t
def openF (most m : Int) (k : Nat) (B t : List Int) : UR := if most < k then ⟨[], 3⟩ else
  if m = 1 then (if (unp k B).E ≠ 0 then ⟨[], 2⟩ else if (unp k B).B.length ≠ k then ⟨[], 2⟩ else if le32 (crc 0 (unp k B).B) ≠ t then ⟨[], 7⟩ else ⟨(unp k B).B, 0⟩)
  else if B.length ≠ k then ⟨[], 2⟩ else if le32 (crc 0 B) ≠ t then ⟨[], 7⟩ else ⟨B, 0⟩
theorem frm_len {m : Int} {k : Nat} {B t : List Int} (ht : t.length = 4) : (frm m k B t).length = 10 + B.length := by simp [frm, le32, ht]; omega
theorem frm_rd1 {m : Int} {k : Nat} {B t : List Int} : rd (frm m k B t) 1 = m := rfl
theorem frm_num {m : Int} {k : Nat} {B t : List Int} (ht : t.length = 4) (hk : k < 4294967296) (h0 : 0 ≤ m) (h1 : m ≤ 1) : lenL (frm m k B t) = some k := by
  have hl := frm_len (m := m) (k := k) (B := B) ht
  have e0 : rd (frm m k B t) 0 = 76 := rfl
  have e2 : rd (frm m k B t) 2 = ((k % 256 : Nat) : Int) := rfl
  have e3 : rd (frm m k B t) 3 = ((k / 256 % 256 : Nat) : Int) := rfl
  have e4 : rd (frm m k B t) 4 = ((k / 65536 % 256 : Nat) : Int) := rfl
  have e5 : rd (frm m k B t) 5 = ((k / 16777216 % 256 : Nat) : Int) := rfl
  unfold lenL
  rw [e0, e2, e3, e4, e5, frm_rd1, if_neg (by omega)]
  simp only [Int.toNat_natCast, Option.some.injEq]
  omega
theorem frm_drop {m : Int} {k : Nat} {B t : List Int} (ht : t.length = 4) : (frm m k B t).drop ((frm m k B t).length - 4) = t := by
  rw [frm_len ht]
  unfold frm
  rw [List.drop_append, List.drop_eq_nil_of_le (by simp [le32]; omega)]
  simp [le32, show 10 + B.length - 4 - (B.length + 6) = 0 by omega]
theorem frm_mid {m : Int} {k : Nat} {B t : List Int} (ht : t.length = 4) : midL (frm m k B t) 6 ((frm m k B t).length - 4) = B := by
  rw [frm_len ht]
  unfold frm midL
  rw [List.take_append_of_le_length (by simp [le32]; omega), List.take_of_length_le (by simp [le32]; omega)]
  rfl
theorem open_frm {most m : Int} {k : Nat} {B t : List Int} (ht : t.length = 4) (hk : k < 4294967296) (h0 : 0 ≤ m) (h1 : m ≤ 1) : openL most (frm m k B t) = openF most m k B t := by
  unfold openL openF
  rw [frm_num ht hk h0 h1]
  dsimp only
  rw [frm_rd1, frm_mid ht]
  unfold openT
  rw [frm_drop ht]
theorem packed_frm {m : Int} {k : Nat} {B t : List Int} (ht : t.length = 4) (hk : k < 4294967296) (h0 : 0 ≤ m) (h1 : m ≤ 1) : packedB (frm m k B t) = (m == 1) := by
  unfold packedB
  rw [frm_num ht hk h0 h1]
  rfl
theorem le32_len (n : Nat) : (le32 n).length = 4 := by simp [le32]
theorem openF_plain (most : Int) (b : List Int) : openF most 0 b.length b (le32 (crc 0 b)) = if most < b.length then ⟨[], 3⟩ else ⟨b, 0⟩ := by
  unfold openF
  split
  · rfl
  · simp
theorem openF_unp (most : Int) (b p : List Int) (h : unp b.length p = ⟨b, 0⟩) : openF most 1 b.length p (le32 (crc 0 b)) = if most < b.length then ⟨[], 3⟩ else ⟨b, 0⟩ := by
  unfold openF
  split
  · rfl
  · rw [h]
    simp
theorem seal_frm (b : List Int) : sealL b = frm (sealM b) b.length (sealB b) (le32 (crc 0 b)) := rfl
theorem sealM_range (b : List Int) : 0 ≤ sealM b ∧ sealM b ≤ 1 := by unfold sealM; split <;> omega
theorem unp_self (b : List Int) : unp b.length (packL b) = ⟨b, 0⟩ := by rw [unp_pack _ (by omega), if_pos (by omega)]
theorem open_seal (most : Int) {b : List Int} (hb : b.length < 4294967296) : openL most (sealL b) = if most < b.length then ⟨[], 3⟩ else ⟨b, 0⟩ := by
  rw [seal_frm, open_frm (le32_len _) hb (sealM_range b).1 (sealM_range b).2]
  unfold sealM sealB
  split
  · exact openF_unp most b _ (unp_self b)
  · exact openF_plain most b
theorem seal_len (b : List Int) : (sealL b).length = 10 + (sealB b).length := frm_len (le32_len _)
theorem sealB_le (b : List Int) : (sealB b).length ≤ b.length := by
  unfold sealB
  by_cases h : isP b
  · rw [if_pos h]
    unfold isP at h
    omega
  · rw [if_neg h]
    exact Nat.le_refl _
theorem packed_seal {b : List Int} (hb : b.length < 4294967296) : packedB (sealL b) = decide ((sealL b).length < b.length + 10) := by
  rw [seal_frm, packed_frm (le32_len _) hb (sealM_range b).1 (sealM_range b).2, ← seal_frm, seal_len]
  unfold sealM sealB
  by_cases h : isP b
  · rw [if_pos h, if_pos h]
    unfold isP at h
    simp
    omega
  · rw [if_neg h, if_neg h]
    simp
    omega
theorem num_seal {b : List Int} (hb : b.length < 4294967296) : lenL (sealL b) = some b.length := frm_num (le32_len _) hb (sealM_range b).1 (sealM_range b).2
theorem sealB_bytes {b : List Int} (hb : Bytes b) : Bytes (sealB b) := by unfold sealB; split <;> first | exact packL_bytes hb | exact hb
theorem seal_bytes {b : List Int} (hb : Bytes b) : Bytes (sealL b) := by
  have h1 : Bytes [76, sealM b] := by
    intro x hx
    have := sealM_range b
    simp at hx
    omega
  exact ((h1.append (le32_bytes _)).append (sealB_bytes hb)).append (le32_bytes _)
/-- One byte behind the number is another one, in a frame that is not packed. -/
theorem open_turned {b : List Int} (hb : Bytes b) (hl : b.length ≤ 40) (hp : ¬ isP b) (k : Nat) (hk : k < b.length + 4) {c : Int} (hc : 0 ≤ c ∧ c < 256) (hne : rd (sealL b) ((6 + k : Nat) : Int) ≠ c) : openL 100 ((sealL b).set (6 + k) c) = ⟨[], 7⟩ := by
  have hcr := crc_lt (s := 0) (by omega) hb
  have hs : sealL b = frm 0 b.length b (le32 (crc 0 b)) := by rw [seal_frm]; unfold sealM sealB; rw [if_neg hp, if_neg hp]
  rw [hs] at hne ⊢
  by_cases h : k < b.length
  · have e : (frm 0 b.length b (le32 (crc 0 b))).set (6 + k) c = frm 0 b.length (b.set k c) (le32 (crc 0 b)) := by
      unfold frm
      rw [List.set_append_left _ _ (by simp [le32]; omega), List.set_append_right _ _ (by simp [le32])]
      simp [le32]
    have e1 : rd (frm 0 b.length b (le32 (crc 0 b))) ((6 + k : Nat) : Int) = rd b (k : Int) := by
      rw [rd_getD, rd_getD]
      unfold frm
      rw [List.getElem?_append_left (by simp [le32]; omega), List.getElem?_append_right (by simp [le32])]
      simp [le32]
    rw [e, open_frm (le32_len _) (by omega) (by omega) (by omega)]
    unfold openF
    rw [if_neg (by omega), if_neg (by omega), if_neg (by simp), if_pos]
    intro h2
    rw [e1] at hne
    exact crc_set (a := 0) (by omega) hb k h hc hne (le32_inj (crc_lt (by omega) (hb.set k hc.1 hc.2)) hcr h2)
  · have e : (frm 0 b.length b (le32 (crc 0 b))).set (6 + k) c = frm 0 b.length b ((le32 (crc 0 b)).set (k - b.length) c) := by
      unfold frm
      rw [List.set_append_right _ _ (by simp [le32]; omega)]
      congr 2
      simp [le32]
      omega
    have e1 : rd (frm 0 b.length b (le32 (crc 0 b))) ((6 + k : Nat) : Int) = rd (le32 (crc 0 b)) ((k - b.length : Nat) : Int) := by
      rw [rd_getD, rd_getD]
      unfold frm
      rw [List.getElem?_append_right (by simp [le32]; omega)]
      congr 2
      simp [le32]
      omega
    rw [e, open_frm (by simp [le32]) (by omega) (by omega) (by omega)]
    unfold openF
    rw [if_neg (by omega), if_neg (by omega), if_neg (by simp), if_pos]
    intro h2
    rw [e1, h2, rd_getD, List.getElem?_set_self (by simp [le32]; omega)] at hne
    exact hne rfl
end Go.Proofs.Ytcbcoaafdggniaa
