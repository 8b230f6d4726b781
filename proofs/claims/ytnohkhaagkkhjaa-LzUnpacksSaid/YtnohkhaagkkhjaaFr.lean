/- What a call leaves alone: all old blocks but those of a set. Plain lemmas. -/
import Derived.Test.YtnohkhaagkkhjaaMem
namespace Go.Proofs.Ytnohkhaagkkhjaa
open Go.RowKit Go.Proofs.YtnohkhaagkkhjaaW.PrintWords Go.Proofs.YtnohkhaagkkhjaaW.PrintMore
set_option linter.unusedVariables false
/-- What a call leaves alone: all old blocks but those of S. -/
structure Fr (w w' : World) (S : Nat → Prop) : Prop where
  os : w'.os = w.os
  tape : w'.tape = w.tape
  output : w'.output = w.output
  size : w.heap.size ≤ w'.heap.size
  block : ∀ k, k < w.heap.size → ¬ S k → w'.heap[k]? = w.heap[k]?
theorem Fr.refl (w : World) (S : Nat → Prop) : Fr w w S := ⟨rfl, rfl, rfl, Nat.le_refl _, fun _ _ _ => rfl⟩
theorem Fr.call {w w1 w2 : World} {S : Nat → Prop} (h : Fr w w1 S) (k : Below w1.heap.size w1 w2) : Fr w w2 S :=
  ⟨k.os.trans h.os, k.tape.trans h.tape, k.output.trans h.output, Nat.le_trans h.size k.size, fun i hi hS => (k.block i (by have := h.size; omega)).trans (h.block i hi hS)⟩
theorem Fr.drew {w w1 : World} {S : Nat → Prop} (h : Fr w w1 S) : Fr w w1.drew S := h.call (Below.drew (Below.refl _ _))
theorem Fr.set {w w1 w2 : World} {S : Nat → Prop} {g : Nat} {o : Obj} (h : Fr w w1 S) (k : SetBlk w1 w2 g o) (hg : S g ∨ w.heap.size ≤ g) : Fr w w2 S := by
  have hb := k.below (Nat.le_refl g)
  refine ⟨hb.os.trans h.os, hb.tape.trans h.tape, hb.output.trans h.output, Nat.le_trans h.size hb.size, fun i hi hS => ?_⟩
  rw [k.else_ i (fun e => by subst e; exact hg.elim hS (fun hg => by omega)), h.block i hi hS]
theorem Fr.grown {w w1 w2 : World} {S : Nat → Prop} {r : Option Nat} (h : Fr w w1 S) (k : w1.grownBy w2 r) (hr : ∀ i, r = some i → S i ∨ w.heap.size ≤ i) : Fr w w2 S :=
  ⟨k.os.trans h.os, k.tape.trans h.tape, k.output.trans h.output, Nat.le_trans h.size k.size, fun i hi hS => (k.block i (by have := h.size; omega) (fun e => (hr i e.symm).elim hS (fun h1 => by omega))).trans (h.block i hi hS)⟩
theorem Fr.below {w w' : World} {S : Nat → Prop} {B : Nat} (h : Fr w w' S) (hS : ∀ k, S k → B ≤ k) (hB : B ≤ w.heap.size) : Below B w w' :=
  ⟨h.os, h.tape, h.output, h.size, fun k hk => h.block k (by omega) (fun hk2 => by have := hS k hk2; omega)⟩
theorem Fr.mono {w w' : World} {S T : Nat → Prop} (h : Fr w w' S) (hS : ∀ k, S k → T k) : Fr w w' T := ⟨h.os, h.tape, h.output, h.size, fun k hk hT => h.block k hk fun hs => hT (hS k hs)⟩
theorem Fr.trans {w w1 w2 : World} {S : Nat → Prop} (h : Fr w w1 S) (k : Fr w1 w2 S) : Fr w w2 S :=
  ⟨k.os.trans h.os, k.tape.trans h.tape, k.output.trans h.output, Nat.le_trans h.size k.size, fun i hi hS => (k.block i (by have := h.size; omega) hS).trans (h.block i hi hS)⟩
/-- The second call may turn what was new behind the first, too. -/
theorem Fr.next {w w1 w2 : World} {S T : Nat → Prop} (h : Fr w w1 S) (k : Fr w1 w2 T) (hT : ∀ i, T i → S i ∨ w.heap.size ≤ i) : Fr w w2 S :=
  ⟨k.os.trans h.os, k.tape.trans h.tape, k.output.trans h.output, Nat.le_trans h.size k.size, fun i hi hS => (k.block i (by have := h.size; omega) (fun ht => (hT i ht).elim hS (fun h1 => by omega))).trans (h.block i hi hS)⟩
theorem Fr.later {w w1 : World} {S : Nat → Prop} (k : Below w.heap.size w w1) : Fr w w1 S := (Fr.refl w S).call k
theorem Fr.own {α : Type} {enc : α → Value} {h1 : ∀ x, (enc x).oneCell' = true} {e b : Nat} {ok : Nat → Prop} {w w1 : World} {v : Value} {xs : List α} {S : Nat → Prop} (h : Fr w w1 S) (hO : (Kd.scalar enc h1).R e w b ok v xs) (hS : ∀ k, v.ownBlock = some k → ¬ S k) : (Kd.scalar enc h1).R e w1 b ok v xs :=
  Kd.R_of_own (own_move (Kd.own_of_R hO) (fun k hk => h.block k (own_lt (Kd.own_of_R hO) k hk) (hS k hk))) hO.1
theorem Fr.ownB {b : Nat} {w w1 : World} {v : Value} {xs : List Int} {S : Nat → Prop} (h : Fr w w1 S) (hO : OwB w b v xs) (hS : ∀ k, v.ownBlock = some k → ¬ S k) : OwB w1 b v xs := Fr.own h hO hS
theorem cell_lt' {w : World} {p : Addr} {v : Value} (h : w.cell? p = some v) : p.block < w.heap.size := by
  rcases Nat.lt_or_ge p.block w.heap.size with hl | hl
  · exact hl
  · have h1 : w.heap[p.block]? = none := by simp [hl]
    unfold World.cell? at h
    rw [h1] at h
    cases h
theorem add_blk (a : Addr) (j : Nat) : (a.add j).block = a.block := by unfold Addr.add; split <;> rfl
theorem Fr.cell {w w1 : World} {S : Nat → Prop} (h : Fr w w1 S) {p : Addr} {v : Value} (hc : w.cell? p = some v) (hS : ¬ S p.block) : w1.cell? p = some v := by
  rw [World.cell?_of_block (h.block p.block (cell_lt' hc) hS)]
  exact hc
theorem Fr.rdB {w w1 : World} {S : Nat → Prop} {A : Option Addr} {n : Nat} {xs : List Int} (h : Fr w w1 S) (hr : RdB w A n xs) (hout : ∀ ad, A = some ad → 0 < n → ¬ S ad.block) : RdB w1 A n xs := by
  have hr' := Kd.reads_of_C (d := (0 : Int)) hr
  refine Kd.C_of_reads (d := (0 : Int)) ⟨hr'.1, hr'.2.1, fun hp => ?_⟩
  obtain ⟨ad, he, hc⟩ := hr'.2.2 hp
  exact ⟨ad, he, fun j hj => h.cell (hc j hj) (by rw [add_blk]; exact hout ad he hp)⟩
theorem rdB_lt {w : World} {ad : Addr} {n : Nat} {xs : List Int} (h : RdB w (some ad) n xs) (hp : 0 < n) : ad.block < w.heap.size := by
  obtain ⟨ad', he, hc⟩ := (Kd.reads_of_C (d := (0 : Int)) h).2.2 hp
  injection he with he
  subst he
  have := cell_lt' (hc 0 hp)
  rwa [add_blk] at this
end Go.Proofs.Ytnohkhaagkkhjaa
