/- lighterageref01.SameInts, same, lives. Conditions: their own. -/
import Derived.Test.YtdfahblgnbdndaaDoorCut8
import Derived.Lib.SlBytesConst
namespace Go.Proofs.YtdfahblgnbdndaaDoor
open Go.RowKit Go.Shelf Go.Proofs.YtdfahblgnbdndaaDoorW.PrintWords Go.Proofs.YtdfahblgnbdndaaDoorW.PrintMore
set_option linter.unusedVariables false
set_option linter.unusedSimpArgs false
theorem rdN_at {w : World} {ad : Addr} {n : Nat} {xs : List Int} (h : RdN w (some ad) n xs) (i : Nat) (hi : i < n) : w.cell? (ad.add i) = some (.int .i64 (xs.getD i 0)) := by
  obtain ⟨_, _, hc⟩ := Kd.reads_of_C (d := (0 : Int)) h
  obtain ⟨ad', he, hx⟩ := hc (by omega)
  injection he with he
  subst he
  exact hx i hi
theorem rdN_lit (W : World) (xs : List Int) (cs : Array Value) (fr : Nat × Nat) (n : Nat) (hcs : cs = (xs.map (Value.int .i64)).toArray) (hn : n = xs.length) (hm : xs.length ≤ 9223372036854775807) :
    RdN (W.alloc (.cells cs 3 fr)) (some ⟨W.heap.size, 0, none⟩) n xs := by
  subst hcs; subst hn
  refine Kd.C_of_reads (d := (0 : Int)) ⟨rfl, hm, fun _ => ⟨_, rfl, fun j hj => ?_⟩⟩
  rw [add_plain, World.cell?_alloc_mark]
  simp [List.getD_eq_getElem?_getD, List.getElem?_eq_getElem hj]
theorem rdN_some {w : World} {A : Option Addr} {n : Nat} {xs : List Int} (h : RdN w A n xs) (hp : 0 < n) : ∃ ad, A = some ad := by
  obtain ⟨ad, he, _⟩ := (Kd.reads_of_C (d := (0 : Int)) h).2.2 hp
  exact ⟨ad, he⟩
theorem rdS_some {w : World} {A : Option Addr} {n : Nat} {xs : List S3} (h : RdS w A n xs) (hp : 0 < n) : ∃ ad, A = some ad := by
  obtain ⟨ad, he, _⟩ := (Kd.reads_of_C (d := ((none, 0, 0) : S3)) h).2.2 hp
  exact ⟨ad, he⟩
theorem chR_at {w : World} {ad : Addr} {n : Nat} {L : List (S3 × List Int)} (h : ChR w L) (hr : RdS w (some ad) n (L.map (·.1))) (k : Nat) (hk : k < n) :
    ∃ A c, w.cell? (ad.add k) = some (.slice A ((L.map (·.2)).getD k []).length c) ∧ RdB w A ((L.map (·.2)).getD k []).length ((L.map (·.2)).getD k []) ∧ ((L.map (·.2)).getD k []).length ≤ c := by
  have hn : k < L.length := by have := hr.1; simp at this; omega
  have hc := rdS_at hr k hk
  have e1 : (L.map (·.1)).getD k (none, 0, 0) = L[k].1 := by simp [List.getD_eq_getElem?_getD, hn]
  have e2 : (L.map (·.2)).getD k [] = L[k].2 := by simp [List.getD_eq_getElem?_getD, hn]
  obtain ⟨h1, h2, h3, _⟩ := h _ (List.getElem_mem hn)
  rw [e1] at hc
  rw [e2]
  refine ⟨_, _, hc.trans ?_, h1, h3⟩
  rw [← h2]
  rfl
theorem lives_val : lens (al 2 2 (pw 2) [] [97, 98, 99, 100, 101]) = [2, 2, 1] := by decide +kernel
theorem lives_len : (al 2 2 (pw 2) [] [97, 98, 99, 100, 101]).length = 3 := by decide +kernel
end Go.Proofs.YtdfahblgnbdndaaDoor
