/- What arguments tell; what unpacks; rows that are given. Plain lemmas. -/
import Derived.Test.YtcbcoaafdggniaaLzUn3
import Derived.Test.YtcbcoaafdggniaaG1
namespace Go.Proofs.Ytcbcoaafdggniaa
open Go.RowKit Go.Shelf Go.Proofs.YtcbcoaafdggniaaW.PrintWords Go.Proofs.YtcbcoaafdggniaaW.PrintMore
set_option linter.unusedVariables false
set_option linter.unusedSimpArgs false
theorem isRowN_read {w : World} {a : Option Addr} {len cap : Nat} {zs : List Int}
    (h : (a = none ∧ len = 0 ∧ cap = 0 ∧ zs = []) ∨ ∃ x, a = some x ∧ len ≤ cap ∧ cap ≤ maxLen ∧ zs.length = cap ∧ (∀ i, i < zs.length → w.cell? (x.add i) = some (.int .i64 (zs.getD i 0))) ∧ ∀ n ∈ zs, (Lit.int .i64 n).wf = true) :
    RdN w a len (zs.take len) ∧ len ≤ cap ∧ (∀ x ∈ zs.take len, -9223372036854775808 ≤ x ∧ x ≤ 9223372036854775807) := by
  rcases h with ⟨rfl, rfl, rfl, rfl⟩ | ⟨x, rfl, hl, hm, hz, hc, hw⟩
  · exact ⟨Kd.C_nil _ _, Nat.le_refl _, by simp⟩
  · refine ⟨Kd.C_of_reads (d := (0 : Int)) ⟨by rw [List.length_take]; omega, by simp only [maxLen] at hm; omega, fun _ => ⟨_, rfl, fun j hj => ?_⟩⟩, hl, ?_⟩
    · rw [hc j (by omega)]
      simp [List.getD_eq_getElem?_getD, List.getElem?_take, hj]
    · intro n hn
      exact wf_i64 (hw n (List.mem_of_mem_take hn))
/-- Bytes that are given. -/
structure Gv (w : World) (B : Option Addr) (d : Nat) (X : List Int) (m : Nat) : Prop where
  rd : RdB w B X.length X
  le : X.length ≤ d
  by_ : Bytes X
  len : X.length ≤ m
  at_ : 0 < X.length → ∃ g o, B = some ⟨g, o, none⟩
theorem Gv.later {w w1 : World} {B : Option Addr} {d : Nat} {X : List Int} {m : Nat} (h : Gv w B d X m) (k : Later w w1) : Gv w1 B d X m := ⟨Kd.C_below h.rd k, h.le, h.by_, h.len, h.at_⟩
theorem OwB.gv {w : World} {base d m : Nat} {B : Option Addr} {X : List Int} (h : OwB w base (.slice B X.length d) X) (hb : Bytes X) (hm : X.length ≤ m) : Gv w B d X m := by
  obtain ⟨A', d', he, hd, hr⟩ := OwB.reads h
  injection he with e1 e2 e3
  subst e1; subst e3
  refine ⟨hr, hd, hb, hm, fun hp => ?_⟩
  obtain ⟨g, c, e, _, _⟩ := OwB.place h hp
  injection e with e
  exact ⟨g, 0, e⟩
theorem UnPost.get {w w' : World} {X : List Int} {E : Int} {e : Ending} (h : UnPost w ⟨X, E⟩ e w') : ∃ A d, e = .returned (.tuple #[.slice A X.length d, .int .i64 E]) ∧ OwB w' w.heap.size (.slice A X.length d) X ∧ RdB w' A X.length X ∧ Bytes X ∧ X.length ≤ d ∧ Below w.heap.size w w' := by
  obtain ⟨⟨v, he, hO, hb⟩, hB⟩ := h
  obtain ⟨A, d, rfl, hd, hr⟩ := hO.reads
  exact ⟨A, d, he, hO, hr, hb, hd, hB⟩
end Go.Proofs.Ytcbcoaafdggniaa
