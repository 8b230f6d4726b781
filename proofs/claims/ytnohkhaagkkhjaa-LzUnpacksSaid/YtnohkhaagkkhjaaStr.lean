/- Strings and their bytes. Plain lemmas. -/
import Derived.Test.YtnohkhaagkkhjaaBase
namespace Go.Proofs.Ytnohkhaagkkhjaa
open Go.RowKit Go.Proofs.YtnohkhaagkkhjaaW.PrintWords Go.Proofs.YtnohkhaagkkhjaaW.PrintMore
set_option linter.unusedVariables false
set_option linter.unusedSimpArgs false
theorem ba_ext {a b : ByteArray} (h : a.data.toList = b.data.toList) : a = b := by
  have h2 := Array.toList_inj.1 h
  calc a = ⟨a.data⟩ := rfl
    _ = ⟨b.data⟩ := by rw [h2]
    _ = b := rfl
theorem bytesOf_str {xs : List Int} (h : Bytes xs) : bytesOf (strOfNums xs) = xs := by
  unfold bytesOf
  rw [strOfNums_data, List.map_map]
  conv => rhs; rw [← List.map_id xs]
  refine List.map_congr_left fun x hx => ?_
  obtain ⟨h0, h1⟩ := h x hx
  simp only [Function.comp, UInt8.toNat_ofNat', id]
  omega
theorem str_bytesOf (b : ByteArray) : strOfNums (bytesOf b) = b := by
  apply ba_ext
  rw [strOfNums_data]
  unfold bytesOf
  rw [List.map_map]
  conv => rhs; rw [← List.map_id b.data.toList]
  refine List.map_congr_left fun x hx => ?_
  simp
theorem bytesOf_bytes (b : ByteArray) : Bytes (bytesOf b) := by
  intro x hx
  obtain ⟨y, _, rfl⟩ := List.mem_map.1 hx
  have := y.toNat_lt
  omega
theorem bytesOf_inj {a b : ByteArray} (h : bytesOf a = bytesOf b) : a = b := by rw [← str_bytesOf a, h, str_bytesOf]
theorem size_str (xs : List Int) : (strOfNums xs).size = xs.length := by
  rw [← data_length, strOfNums_data, List.length_map]
theorem bytesOf_len (b : ByteArray) : (bytesOf b).length = b.size := bytesOf_length b
theorem extract_str (b : ByteArray) (m : Nat) : b.extract 0 m = strOfNums ((bytesOf b).take m) := by
  apply bytesOf_inj
  rw [bytesOf_str ((bytesOf_bytes b).take m)]
  unfold bytesOf
  rw [← List.map_take, ByteArray.data_extract, Array.toList_extract]
  simp [List.extract]
theorem bytes_beq (a b : ByteArray) : (a.toList == b.toList) = decide (a = b) := by
  rw [Bool.eq_iff_iff, beq_iff_eq, decide_eq_true_iff]
  constructor
  · intro h
    rw [ByteArray.toList_eq, ByteArray.toList_eq] at h
    exact ba_ext h
  · rintro rfl; rfl
end Go.Proofs.Ytnohkhaagkkhjaa
