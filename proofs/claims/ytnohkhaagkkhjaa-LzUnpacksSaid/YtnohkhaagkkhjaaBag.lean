/- What is known of memory: which blocks hold what, all of them younger than the call's beginning. Plain lemmas. -/
import Derived.Test.YtnohkhaagkkhjaaRowsOf
namespace Go.Proofs.Ytnohkhaagkkhjaa
open Go.RowKit Go.Proofs.YtnohkhaagkkhjaaW.PrintWords Go.Proofs.YtnohkhaagkkhjaaW.PrintMore
set_option linter.unusedVariables false
structure Bag (w0 w : World) (L : List (Nat × Obj)) : Prop where
  holds : ∀ x ∈ L, w.heap[x.1]? = some x.2
  nodup : (L.map (·.1)).Nodup
  below : Below w0.heap.size w0 w
  ge : ∀ x ∈ L, w0.heap.size ≤ x.1
theorem Bag.at {w0 w : World} {L : List (Nat × Obj)} (h : Bag w0 w L) (i : Nat) {g : Nat} {o : Obj} (hi : L[i]? = some (g, o)) : w.heap[g]? = some o := h.holds (g, o) (List.mem_of_getElem? hi)
theorem Bag.nil (w : World) : Bag w w [] := ⟨(fun x h => absurd h List.not_mem_nil), List.nodup_nil, Below.refl _ _, (fun x h => absurd h List.not_mem_nil)⟩
theorem Bag.call {w0 w w1 : World} {L : List (Nat × Obj)} (h : Bag w0 w L) (k : Below w.heap.size w w1) : Bag w0 w1 L :=
  ⟨fun x hx => blk_below k (h.holds x hx), h.nodup, h.below.trans (k.mono h.below.size), h.ge⟩
theorem Bag.drew {w0 w : World} {L : List (Nat × Obj)} (h : Bag w0 w L) : Bag w0 w.drew L := ⟨h.holds, h.nodup, Below.drew h.below, h.ge⟩
theorem Bag.new {w0 w w1 : World} {L : List (Nat × Obj)} {g : Nat} {o : Obj} (h : Bag w0 w L) (k : NewBlk w w1 g o) : Bag w0 w1 (L ++ [(g, o)]) := by
  refine ⟨fun x hx => ?_, ?_, h.below.trans (k.below.mono h.below.size), fun x hx => ?_⟩
  · rcases List.mem_append.1 hx with hx | hx
    · exact k.blk (h.holds x hx)
    · obtain rfl := List.mem_singleton.1 hx
      exact k.at_
  · rw [List.map_append]
    refine List.nodup_append.2 ⟨h.nodup, by simp, ?_⟩
    intro a ha b hb
    obtain ⟨x, hx, rfl⟩ := List.mem_map.1 ha
    obtain ⟨y, hy, rfl⟩ := List.mem_map.1 hb
    obtain rfl := List.mem_singleton.1 hy
    have := blk_lt (h.holds x hx)
    have := k.ge
    show x.1 ≠ g
    omega
  · rcases List.mem_append.1 hx with hx | hx
    · exact h.ge x hx
    · obtain rfl := List.mem_singleton.1 hx
      exact Nat.le_trans h.below.size k.ge
theorem Bag.set {w0 w w1 : World} {L : List (Nat × Obj)} (h : Bag w0 w L) (i : Nat) {g : Nat} {o o' : Obj} (hi : L[i]? = some (g, o')) (k : SetBlk w w1 g o) : Bag w0 w1 (L.set i (g, o)) := by
  have hlt := (List.getElem?_eq_some_iff.1 hi).1
  have hge := h.ge (g, o') (List.mem_of_getElem? hi)
  refine ⟨fun x hx => ?_, ?_, h.below.trans (k.below hge), fun x hx => ?_⟩
  · obtain ⟨j, hj⟩ := List.mem_iff_getElem?.1 hx
    by_cases hij : j = i
    · subst hij
      rw [List.getElem?_set_self hlt] at hj
      obtain rfl := Option.some.inj hj
      exact k.at_
    · rw [List.getElem?_set_ne (Ne.symm hij)] at hj
      refine k.blk ?_ (h.holds x (List.mem_of_getElem? hj))
      intro he
      have h1 : (L.map (·.1))[j]? = some g := by rw [List.getElem?_map, hj, ← he]; rfl
      have h2 : (L.map (·.1))[i]? = some g := by rw [List.getElem?_map, hi]; rfl
      have hjl : j < (L.map (·.1)).length := (List.getElem?_eq_some_iff.1 h1).1
      exact hij ((List.getElem?_inj hjl h.nodup).1 (h1.trans h2.symm))
  · have : (L.set i (g, o)).map (·.1) = L.map (·.1) := by
      rw [List.map_set]
      have h2 : (L.map (·.1))[i]? = some g := by rw [List.getElem?_map, hi]; rfl
      obtain ⟨hl, he⟩ := List.getElem?_eq_some_iff.1 h2
      rw [← he]
      exact List.set_getElem_self hl
    rw [this]
    exact h.nodup
  · obtain ⟨j, hj⟩ := List.mem_iff_getElem?.1 hx
    by_cases hij : j = i
    · subst hij
      rw [List.getElem?_set_self hlt] at hj
      obtain rfl := Option.some.inj hj
      exact hge
    · rw [List.getElem?_set_ne (Ne.symm hij)] at hj
      exact h.ge x (List.mem_of_getElem? hj)
/-- A parameter in memory. -/
theorem Bag.box {w0 w : World} {L : List (Nat × Obj)} (h : Bag w0 w L) (cs : Array Value) (t : TypeId) : Bag w0 (w.alloc (.cells cs t)) (L ++ [(w.heap.size, .cells cs t (0, 0))]) :=
  h.new ⟨(Below.refl _ _).alloc (Nat.le_refl _) _, blk_new w _, Nat.le_refl _⟩
/-- A row of one's own is read wherever the blocks from base on are as they were. -/
theorem rd_far {w w1 : World} {base n c : Nat} {A : Option Addr} {xs : List Int} (hO : OwB w base (.slice A n c) xs) (h : ∀ k, base ≤ k → k < w.heap.size → w1.heap[k]? = w.heap[k]?) : RdB w1 A n xs := by
  obtain ⟨hnc, hr⟩ := OwB.parts hO
  have hr' := Kd.reads_of_C (d := (0 : Int)) hr
  refine Kd.C_of_reads (d := (0 : Int)) ⟨hr'.1, hr'.2.1, fun hp => ?_⟩
  obtain ⟨ad, he, hc⟩ := hr'.2.2 hp
  obtain ⟨g, cap, hv, hb, hl⟩ := OwB.place hO (by have := hr'.1; omega)
  refine ⟨ad, he, fun j hj => ?_⟩
  rw [← hc j hj]
  have hA : A = some ⟨g, 0, none⟩ := by
    injection hv
  rw [he] at hA
  injection hA with hA
  subst hA
  rw [add_plain]
  unfold World.cell?
  rw [h g hb hl]
end Go.Proofs.Ytnohkhaagkkhjaa
