/- b[i:j]; rows of one's own while older blocks turn. Plain lemmas. -/
import Derived.Test.YtnohkhaagkkhjaaRegion
import Derived.Test.YtnohkhaagkkhjaaBag
namespace Go.Proofs.Ytnohkhaagkkhjaa
open Go.RowKit Go.Proofs.YtnohkhaagkkhjaaW.PrintWords Go.Proofs.YtnohkhaagkkhjaaW.PrintMore
set_option linter.unusedVariables false
def midL (xs : List Int) (i j : Nat) : List Int := (xs.take j).drop i
theorem midL_len {xs : List Int} {i j : Nat} (h : j ≤ xs.length) : (midL xs i j).length = j - i := by unfold midL; rw [List.length_drop, List.length_take]; omega
theorem cutMid {w : World} {A : Option Addr} {n c : Nat} {xs : List Int} (h : RdB w A n xs) (hc : n ≤ c) (i j : Int) (h0 : 0 ≤ i) (h1 : i ≤ j) (h2 : j ≤ n) :
    (∀ W : World, (Instr.slice 22 (.slice A n c) (some (.int .i64 i)) (some (.int .i64 j)) none).run Try.prog W = .ok (.slice (if c = i.toNat then A else A.map (·.add i.toNat)) (j.toNat - i.toNat) (c - i.toNat)) W) ∧
    RdB w (if c = i.toNat then A else A.map (·.add i.toNat)) (j.toNat - i.toNat) (midL xs i.toNat j.toNat) := by
  obtain ⟨i0, hi, _, hsz, _⟩ := info_parts infoB
  obtain rfl : xs.length = n := h.1
  refine ⟨?_, ?_⟩
  · have := cut_mid (P := Try.prog) 22 5 .i64 .i64 Try.underlying22 hi 1 hsz A xs.length c i j h0 h1 h2 hc
    simpa using this
  · have := Kd.C_mid (k := Kd.int .u8) (lo := i.toNat) (hi := j.toNat) h (by omega) (by omega) hc
    rw [show (List.drop i.toNat (List.take j.toNat xs)).length = j.toNat - i.toNat from midL_len (by omega)] at this
    rw [show i.toNat * (Kd.int .u8).sz = i.toNat from Nat.mul_one _] at this
    exact this
/-- From base on, what stood in w stands in w1. -/
def Far (base : Nat) (w w1 : World) : Prop := w.heap.size ≤ w1.heap.size ∧ ∀ k, base ≤ k → k < w.heap.size → w1.heap[k]? = w.heap[k]?
theorem Far.refl (base : Nat) (w : World) : Far base w w := ⟨Nat.le_refl _, fun _ _ _ => rfl⟩
theorem Far.trans {base : Nat} {a b c : World} (h : Far base a b) (k : Far base b c) : Far base a c := ⟨Nat.le_trans h.1 k.1, fun i hi hl => (k.2 i hi (Nat.lt_of_lt_of_le hl h.1)).trans (h.2 i hi hl)⟩
theorem Far.set {base g : Nat} {w w1 : World} {o : Obj} (h : SetBlk w w1 g o) (hg : g < base) : Far base w w1 := ⟨by rw [h.size]; exact Nat.le_refl _, fun k hk _ => h.else_ k (by omega)⟩
theorem Far.later {base : Nat} {w w1 : World} (h : Later w w1) : Far base w w1 := ⟨Later.size h, fun k _ hl => Below.block h k hl⟩
theorem Far.rd {base b n c : Nat} {w w1 : World} {A : Option Addr} {xs : List Int} (h : Far base w w1) (hb : base ≤ b) (hO : OwB w b (.slice A n c) xs) : RdB w1 A n xs := rd_far hO (fun k hk hl => h.2 k (Nat.le_trans hb hk) hl)
theorem Far.own {α : Type} {d : Kd α} {e base b : Nat} {ok : Nat → Prop} {w w1 : World} {v : Value} {xs : List α} (h : Far base w w1) (hb : base ≤ b) (hO : d.R e w b ok v xs) : d.R e w1 b ok v xs :=
  Kd.R_mono (Kd.R_step (Kd.R_bound hO) (fun k hk hl => h.2 k (Nat.le_trans hb hk.2.1) hl)) (fun k hk => hk.1)
theorem midL_snoc {xs : List Int} {i j : Nat} (h1 : i ≤ j) (h2 : j < xs.length) : midL xs i (j + 1) = midL xs i j ++ [rd xs j] := by
  unfold midL
  rw [List.take_add_one, List.getElem?_eq_getElem h2, List.drop_append_of_le_length (by rw [List.length_take]; omega)]
  unfold Go.Proofs.YtnohkhaagkkhjaaW.PrintWords.rd
  rw [Int.toNat_natCast, List.getD_eq_getElem?_getD, List.getElem?_eq_getElem h2]
  rfl
theorem midL_self (xs : List Int) (i : Nat) : midL xs i i = [] := by unfold midL; rw [List.drop_eq_nil_of_le]; rw [List.length_take]; omega
theorem Bytes.mid {xs : List Int} (h : Bytes xs) (i j : Nat) : Bytes (midL xs i j) := (h.take j).drop i
end Go.Proofs.Ytnohkhaagkkhjaa
