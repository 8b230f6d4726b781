/- Items: a digest and a size; rows of them. Plain lemmas. -/
import Derived.Test.YtdfahblgnbdndaaDoorFlat
import Derived.Test.YtdfahblgnbdndaaDoorShaRef4
namespace Go.Proofs.YtdfahblgnbdndaaDoor
open Go.RowKit Go.Proofs.YtdfahblgnbdndaaDoorW.PrintWords Go.Proofs.YtdfahblgnbdndaaDoorW.PrintMore
set_option linter.unusedVariables false
set_option linter.unusedSimpArgs false
set_option maxRecDepth 100000
abbrev Itm := List Int × Int
def icells (x : Itm) : List Value := Nm x.1 ++ [.int .i64 x.2]
theorem icells_len {x : Itm} (h : x.1.length = 32) : (icells x).length = 33 := by simp [icells, Nm, h]
theorem icells_one (x : Itm) : ∀ v ∈ icells x, v.oneCell' = true := by
  intro v hv
  rcases List.mem_append.1 hv with hv | hv
  · exact Nm_one _ v hv
  · rw [List.mem_singleton.1 hv]; rfl
abbrev KI : Kd Itm := Kf 33 (fun x => x.1.length = 32) icells (fun _ h => icells_len h) icells_one
abbrev OwI (w : World) (base : Nat) (v : Value) (xs : List Itm) : Prop := KI.R 41 w base (fun _ => True) v xs
abbrev RdI (w : World) (A : Option Addr) (n : Nat) (xs : List Itm) : Prop := KI.C w A n xs
def zI : Value := .agg ((List.replicate 32 (Value.int .u8 0)) ++ [Value.int .i64 0]).toArray
theorem infoI : (Tryd.prog.info? 41).map (fun i => (i.zero, i.size, i.bytes)) = some (some zI, 33, 40) := by kernel_rfl
theorem zI_size : zI.cells.size = 33 := by kernel_rfl
theorem size_it {x : Itm} (h : x.1.length = 32) : (Tryd.prog.info? 41).map (·.size) = some (icells x).length := by rw [icells_len h]; kernel_rfl
theorem built_it (nm : List Int) (n : Int) (hn : nm.length = 32) : Tryd.prog.built 41 [(0, .agg (Nm nm).toArray), (1, .int .i64 n)] = some (icells (nm, n)).toArray := by
  obtain ⟨x0, x1, x2, x3, x4, x5, x6, x7, x8, x9, x10, x11, x12, x13, x14, x15, x16, x17, x18, x19, x20, x21, x22, x23, x24, x25, x26, x27, x28, x29, x30, x31, rfl⟩ := l32 nm hn
  kernel_rfl
theorem it_name {w : World} {x : Itm} (hn : x.1.length = 32) : (part 26 (icells x).toArray 0).run Tryd.prog w = .ok (.agg (Nm x.1).toArray) w := by
  obtain ⟨i, hi, hs⟩ : ∃ i, Tryd.prog.info? 26 = some i ∧ i.size = 32 := by
    have : (Tryd.prog.info? 26).map (·.size) = some 32 := by kernel_rfl
    exact Option.map_eq_some_iff.1 this
  rw [part_row Tryd.underlying26 rfl hi, hs, List.extract_toArray]
  have : (icells x).extract 0 (0 + 32) = Nm x.1 := by
    show (icells x).take 32 = _
    unfold icells
    rw [List.take_left' (by rw [Nm_len, hn])]
  rw [this]
theorem it_last {x : Itm} (hn : x.1.length = 32) : (icells x).toArray[32]? = some (.int .i64 x.2) := by
  rw [List.getElem?_toArray]
  unfold icells
  rw [List.getElem?_append_right (by rw [Nm_len]; omega), Nm_len, hn]
  rfl
theorem it_eq {w : World} {x y : Itm} (hx : x.1.length = 32) (hy : y.1.length = 32) : (Op.equalIn 10000 41 (.agg (icells x).toArray) (.agg (icells y).toArray)).run Tryd.prog w = .ok (decide (x.1 = y.1) && (x.2 == y.2)) w := by
  refine eqA_of (d := 9999) Tryd.underlying41 Tryd.stoodInHeld41 ?_
  refine eqf_cons rfl (it_name hx) (it_name hy) (digest_eq (d := 9997) hx hy) ?_
  exact eqf_last rfl (part_one Tryd.underlying3 rfl (it_last hx)) (part_one Tryd.underlying3 rfl (it_last hy)) (run_equalIn_int w 9998 _ _ _ _ _ Tryd.underlying3)
theorem it_neq {w : World} {x y : Itm} (hx : x.1.length = 32) (hy : y.1.length = 32) : (binOp .neq 41 (.agg (icells x).toArray) (.agg (icells y).toArray)).run Tryd.prog w = .ok (.bool (!decide (x = y))) w := by
  rw [run_neq_struct, it_eq hx hy]
  obtain ⟨a, b⟩ := x
  obtain ⟨c, d⟩ := y
  by_cases h1 : a = c <;> by_cases h2 : b = d <;> simp [h1, h2, Result.andThen]
theorem it_eql {w : World} {x y : Itm} (hx : x.1.length = 32) (hy : y.1.length = 32) : (binOp .eql 41 (.agg (icells x).toArray) (.agg (icells y).toArray)).run Tryd.prog w = .ok (.bool (decide (x = y))) w := by
  rw [run_eql_struct, it_eq hx hy]
  obtain ⟨a, b⟩ := x
  obtain ⟨c, d⟩ := y
  by_cases h1 : a = c <;> by_cases h2 : b = d <;> simp [h1, h2, Result.andThen]
/-- The items of chunks. -/
def itsOf (CH : List (List Int)) : List Itm := CH.map fun c => (shaL c, (c.length : Int))
theorem itsOf_len (CH : List (List Int)) : (itsOf CH).length = CH.length := by simp [itsOf]
end Go.Proofs.YtdfahblgnbdndaaDoor
