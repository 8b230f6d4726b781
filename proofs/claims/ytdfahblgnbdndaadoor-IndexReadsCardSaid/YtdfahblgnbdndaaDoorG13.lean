/- Plain lemmas and contracts, several texts in one: OpenD, OpenX. Conditions: their own. -/
import Derived.Test.YtdfahblgnbdndaaDoorG2
import Derived.OpenShut
import Derived.ChangeSame
import Derived.ShutString
import Derived.Test.YtdfahblgnbdndaaDoorG12
namespace Go.Proofs.YtdfahblgnbdndaaDoor
open Go.RowKit Go.Proofs.YtdfahblgnbdndaaDoorW.PrintWords Go.Proofs.YtdfahblgnbdndaaDoorW.PrintMore
open Go.ChangeShapes Go.WideShapes
set_option linter.unusedVariables false
set_option linter.constructorNameAsVariable false
set_option maxRecDepth 20000
set_option linter.unusedSimpArgs false
section
variable {H : Type} {enc : TypeId × Value → H} {w : World} {base : Nat} {spare : Nat → Bool} {held : Bool}
theorem cells1 : Tryd.prog.cellsOf 5 = 1 := by kernel_rfl
theorem cells32 : Tryd.prog.cellsOf 26 = 32 := by kernel_rfl
def numAt : Option Value → Int
  | some (Value.int _ n) => n
  | _ => 0
theorem trod_dig {fuel : Nat} {cs : List Value} {x : DataW H × List MemPlace} (h : DataW.trod enc Tryd.prog w base spare held fuel 26 cs = some x) : ∃ nm : List Int, cs = Nm nm ∧ nm.length = 32 ∧ Bytes nm := by
  obtain ⟨xs, m, _, _, hl, hn, hi⟩ := DataW.trod_array Tryd.underlying26 h
  rw [cells32] at hl
  simp only [cells1, Nat.mul_one] at hi
  have hat : ∀ i, i < 32 → ∃ n : Int, cs[i]? = some (.int .u8 n) ∧ 0 ≤ n ∧ n < 256 := fun i hlt => by
    have h1 := hi i hlt
    rw [List.getElem?_eq_getElem (by omega)] at h1
    obtain ⟨n, hc, _, hw⟩ := DataW.trod_int Tryd.underlying5 h1
    rw [List.drop_eq_getElem_cons (by omega), List.take_succ_cons] at hc
    have hc2 : cs[i]'(by omega) = .int .u8 n := (List.cons.inj hc).1
    exact ⟨n, by rw [List.getElem?_eq_getElem (by omega), hc2], wf_u8 hw⟩
  refine ⟨(List.range 32).map (fun i => numAt (cs[i]?)), ?_, by simp, ?_⟩
  · apply List.ext_getElem?
    intro i
    rcases Nat.lt_or_ge i 32 with hlt | hge
    · obtain ⟨n, h1, _⟩ := hat i hlt
      simp only [Nm, List.getElem?_map, List.getElem?_range hlt, Option.map_some, h1, numAt]
    · rw [List.getElem?_eq_none (by omega), List.getElem?_eq_none (by simp [Nm]; omega)]
  · intro x hx
    obtain ⟨i, hir, rfl⟩ := List.mem_map.1 hx
    obtain ⟨n, h1, h2⟩ := hat i (List.mem_range.1 hir)
    simp only [h1, numAt]
    exact h2
end
end Go.Proofs.YtdfahblgnbdndaaDoor
namespace Go.Proofs.YtdfahblgnbdndaaDoor
open Go.RowKit Go.Proofs.YtdfahblgnbdndaaDoorW.PrintWords Go.Proofs.YtdfahblgnbdndaaDoorW.PrintMore
open Go.ChangeShapes Go.WideShapes
set_option linter.unusedVariables false
set_option linter.constructorNameAsVariable false
set_option maxRecDepth 20000
set_option linter.unusedSimpArgs false
section
variable {H : Type} {enc : TypeId × Value → H} {w : World} {base : Nat} {spare : Nat → Bool} {held : Bool}
theorem cells33 : Tryd.prog.cellsOf 41 = 33 := by kernel_rfl
theorem cellsN : Tryd.prog.cellsOf 3 = 1 := by kernel_rfl
theorem cellsP : Tryd.prog.cellsOf 24 = 3 := by kernel_rfl
theorem cellsS : Tryd.prog.cellsOf 27 = 1 := by kernel_rfl
theorem cells36 : Tryd.prog.cellsOf 38 = 36 := by kernel_rfl
def Wf64 (x : Int) : Prop := -9223372036854775808 ≤ x ∧ x ≤ 9223372036854775807
theorem trod_item {fuel : Nat} {cs : List Value} {x : DataW H × List MemPlace} (hsz : cs.length = 33) (h : DataW.trod enc Tryd.prog w base spare held fuel 41 cs = some x) : ∃ (nm : List Int) (s : Int), cs = icells (nm, s) ∧ nm.length = 32 ∧ Bytes nm ∧ Wf64 s := by
  obtain ⟨xs, n, _, _, hl, hn, hi⟩ := DataW.trod_struct Tryd.underlying41 h
  have hn2 : xs.length = 2 := hn
  have f0 := hi 0 _ rfl
  have f1 := hi 1 _ rfl
  rw [List.getElem?_eq_getElem (by omega)] at f0 f1
  obtain ⟨nm, c0, hnl, hnb⟩ := trod_dig f0
  obtain ⟨s, c1, _, w1⟩ := DataW.trod_int Tryd.underlying3 f1
  change List.take (Tryd.prog.cellsOf 26) (List.drop 0 cs) = _ at c0
  change List.take (Tryd.prog.cellsOf 3) (List.drop 32 cs) = _ at c1
  rw [cells32] at c0
  rw [cellsN] at c1
  have d1 : (cs.drop 32).take 1 = [Value.int .i64 s] := c1
  refine ⟨nm, s, ?_, hnl, hnb, wf_i64 w1⟩
  have a1 : (cs.drop 32).take 1 = cs.drop 32 := List.take_of_length_le (by rw [List.length_drop]; omega)
  rw [a1] at d1
  rw [List.drop_zero] at c0
  unfold icells
  rw [← c0, ← d1, List.take_append_drop]
theorem trod_params {fuel : Nat} {cs : List Value} {x : DataW H × List MemPlace} (hsz : cs.length = 3) (h : DataW.trod enc Tryd.prog w base spare held fuel 24 cs = some x) : ∃ a b c : Int, cs = P3 a b c ∧ Wf64 a ∧ Wf64 b ∧ Wf64 c := by
  obtain ⟨xs, n, _, _, hl, hn, hi⟩ := DataW.trod_struct Tryd.underlying24 h
  have hn3 : xs.length = 3 := hn
  have f0 := hi 0 _ rfl
  have f1 := hi 1 _ rfl
  have f2 := hi 2 _ rfl
  rw [List.getElem?_eq_getElem (by omega)] at f0 f1 f2
  obtain ⟨a, c0, _, w0⟩ := DataW.trod_int Tryd.underlying3 f0
  obtain ⟨b, c1, _, w1⟩ := DataW.trod_int Tryd.underlying3 f1
  obtain ⟨c, c2, _, w2⟩ := DataW.trod_int Tryd.underlying3 f2
  change List.take (Tryd.prog.cellsOf 3) (List.drop 0 cs) = _ at c0
  change List.take (Tryd.prog.cellsOf 3) (List.drop 1 cs) = _ at c1
  change List.take (Tryd.prog.cellsOf 3) (List.drop 2 cs) = _ at c2
  rw [cellsN] at c0 c1 c2
  have d0 : (cs.drop 0).take 1 = [Value.int .i64 a] := c0
  have d1 : (cs.drop 1).take 1 = [Value.int .i64 b] := c1
  have d2 : (cs.drop 2).take 1 = [Value.int .i64 c] := c2
  refine ⟨a, b, c, ?_, wf_i64 w0, wf_i64 w1, wf_i64 w2⟩
  match cs, hsz with
  | [x, y, z], _ =>
    simp at d0 d1 d2
    rw [d0, d1, d2]
    rfl
theorem trod_items {fuel : Nat} {cs : List Value} {x : DataW H × List MemPlace} (h : DataW.trod enc Tryd.prog w base spare held fuel 27 cs = some x) : ∃ (A : Option Addr) (n cp : Nat) (its : List Itm), cs = [.slice A n cp] ∧ RdI w A n its ∧ n ≤ cp ∧ cp ≤ maxLen ∧ ∀ x ∈ its, Bytes x.1 ∧ Wf64 x.2 := by
  rcases DataW.trod_slice Tryd.underlying27 h with ⟨hcs, _⟩ | ⟨a, l, cp, elems, rest, n, _, hcs, _, hb, hl, hm, hlen, hel, _, _⟩
  · exact ⟨none, 0, 0, [], hcs, ⟨rfl, by omega, fun h => absurd h (by omega)⟩, Nat.le_refl _, by unfold maxLen; omega, fun x hx => by cases hx⟩
  · rw [cells33] at hel
    have hex : ∀ i, ∃ X : Itm, i < l → (X.1.length = 32 ∧ Bytes X.1 ∧ Wf64 X.2 ∧ ∀ j u, (icells X)[j]? = some u → w.cell? (a.add (i * 33 + j)) = some u) := fun i => by
      by_cases hi : i < l
      · have h1 := hel i hi
        rw [List.getElem?_eq_getElem (by omega), Option.bind_eq_some_iff] at h1
        obtain ⟨cs1, hc, ht1⟩ := h1
        obtain ⟨_, hcl, hcell⟩ := World.cells?_some hc
        obtain ⟨nm, s, e, hnl, hnb, hws⟩ := trod_item hcl ht1
        refine ⟨(nm, s), fun _ => ⟨hnl, hnb, hws, fun j u hu => ?_⟩⟩
        have hj : j < 33 := by have := (List.getElem?_eq_some_iff.1 hu).1; rwa [icells_len hnl] at this
        rw [← add_add, hcell j hj, e]
        exact hu
      · exact ⟨([], 0), fun h => absurd h hi⟩
    obtain ⟨f, hf⟩ := Classical.axiomOfChoice hex
    refine ⟨some a, l, cp, (List.range l).map f, hcs, ⟨by simp, by simp only [maxLen] at hm; omega, fun hp => ⟨a, rfl, fun j p hj => ?_⟩⟩, hl, hm, fun x hx => ?_⟩
    · rw [List.getElem?_map] at hj
      rcases Nat.lt_or_ge j l with hjl | hjl
      · rw [List.getElem?_range hjl] at hj
        obtain rfl := Option.some.inj hj
        obtain ⟨h1, _, _, h4⟩ := hf j hjl
        exact ⟨icells (f j), icells_len h1, ⟨h1, rfl⟩, h4⟩
      · rw [List.getElem?_eq_none (by simpa using hjl)] at hj
        cases hj
    · obtain ⟨i, hi, rfl⟩ := List.mem_map.1 hx
      obtain ⟨_, h2, h3, _⟩ := hf i (List.mem_range.1 hi)
      exact ⟨h2, h3⟩
theorem trod_X {fuel : Nat} {cs : List Value} {x : DataW H × List MemPlace} (hsz : cs.length = 36) (h : DataW.trod enc Tryd.prog w base spare held fuel 38 cs = some x) : ∃ (a b c : Int) (im : List Int) (A : Option Addr) (n cp : Nat) (its : List Itm), cs = Xc a b c im (.slice A n cp) ∧ Wf64 a ∧ Wf64 b ∧ Wf64 c ∧ im.length = 32 ∧ Bytes im ∧ RdI w A n its ∧ n ≤ cp ∧ cp ≤ maxLen ∧ ∀ x ∈ its, Bytes x.1 ∧ Wf64 x.2 := by
  obtain ⟨xs, n, _, _, hl, hn, hi⟩ := DataW.trod_struct Tryd.underlying38 h
  have hn3 : xs.length = 3 := hn
  have f0 := hi 0 _ rfl
  have f1 := hi 1 _ rfl
  have f2 := hi 2 _ rfl
  rw [List.getElem?_eq_getElem (by omega)] at f0 f1 f2
  change DataW.trod enc Tryd.prog w base spare held n 24 (List.take (Tryd.prog.cellsOf 24) (List.drop 0 cs)) = _ at f0
  change DataW.trod enc Tryd.prog w base spare held n 26 (List.take (Tryd.prog.cellsOf 26) (List.drop 3 cs)) = _ at f1
  change DataW.trod enc Tryd.prog w base spare held n 27 (List.take (Tryd.prog.cellsOf 27) (List.drop 35 cs)) = _ at f2
  rw [cellsP, List.drop_zero] at f0
  rw [cells32] at f1
  rw [cellsS] at f2
  obtain ⟨a, b, c, e0, w0, w1, w2⟩ := trod_params (by rw [List.length_take]; omega) f0
  obtain ⟨im, e1, hil, hib⟩ := trod_dig f1
  obtain ⟨A, m, cp, its, e2, hr, hmc, hcm, hall⟩ := trod_items f2
  refine ⟨a, b, c, im, A, m, cp, its, ?_, w0, w1, w2, hil, hib, hr, hmc, hcm, hall⟩
  have a1 : (cs.drop 35).take 1 = cs.drop 35 := List.take_of_length_le (by rw [List.length_drop]; omega)
  have a2 : (cs.drop 3).take 32 ++ cs.drop 35 = cs.drop 3 := by
    have := List.take_append_drop 32 (cs.drop 3)
    rwa [List.drop_drop] at this
  rw [a1] at e2
  rw [e1, e2] at a2
  have := List.take_append_drop 3 cs
  rw [e0, ← a2] at this
  exact this.symm
theorem open_X {r : Reach} {b0 : Nat} {v : Value} {d : DataW H} {p : List MemPlace} (hv : Value.okWide Tryd.prog w r b0 38 v) (h : DataW.Trod enc Tryd.prog w base spare held 38 v d p) :
    ∃ (a b c : Int) (im : List Int) (A : Option Addr) (n cp : Nat) (its : List Itm), v = .agg (Xc a b c im (.slice A n cp)).toArray ∧ Wf64 a ∧ Wf64 b ∧ Wf64 c ∧ im.length = 32 ∧ Bytes im ∧ RdI w A n its ∧ n ≤ cp ∧ cp ≤ maxLen ∧ ∀ x ∈ its, Bytes x.1 ∧ Wf64 x.2 := by
  obtain ⟨C, rfl, hsz⟩ := okWide_struct Tryd.underlying38 hv
  rw [cells36] at hsz
  obtain ⟨fuel, hf⟩ := h
  obtain ⟨l⟩ := C
  obtain ⟨a, b, c, im, A, n, cp, its, e, rest⟩ := trod_X (by exact hsz) hf
  have e' : l = Xc a b c im (.slice A n cp) := e
  exact ⟨a, b, c, im, A, n, cp, its, by rw [e'], rest⟩
end
end Go.Proofs.YtdfahblgnbdndaaDoor
