/- frame.Open: what it tells (openL), its ends behind the deferred closure. Conditions: its cells. -/
import Derived.Test.YtcbcoaafdggniaaFrm8
import Derived.Test.YtcbcoaafdggniaaLzUn3
import Derived.Test.YtcbcoaafdggniaaG1
namespace Go.Proofs.Ytcbcoaafdggniaa
open Go.RowKit Go.Shelf Go.Proofs.YtcbcoaafdggniaaW.PrintWords Go.Proofs.YtcbcoaafdggniaaW.PrintMore
set_option linter.unusedVariables false
set_option linter.unusedSimpArgs false
def openT (n : Nat) (b f : List Int) : UR := if b.length ≠ n then ⟨[], 2⟩ else if le32 (crc 0 b) ≠ f.drop (f.length - 4) then ⟨[], 7⟩ else ⟨b, 0⟩
/-- A frame's bytes, or the error. -/
def openL (most : Int) (f : List Int) : UR := match lenL f with
  | none => ⟨[], 2⟩
  | some n => if most < n then ⟨[], 3⟩ else
    if rd f 1 = 1 then (if (unp n (midL f 6 (f.length - 4))).E ≠ 0 then ⟨[], 2⟩ else openT n (unp n (midL f 6 (f.length - 4))).B f)
    else openT n (midL f 6 (f.length - 4)) f
/-- The two named results' cells. -/
structure St (w0 : World) (v : Value) (e : Int) (w : World) : Prop where
  b : w.heap[w0.heap.size]? = some (.cells #[v] 22 (0, 0))
  e : w.heap[w0.heap.size + 1]? = some (.cells #[.int .i64 e] 28 (0, 0))
  below : Below w0.heap.size w0 w
theorem St.lt {w0 w : World} {v : Value} {e : Int} (h : St w0 v e w) : w0.heap.size + 1 < w.heap.size := (Array.getElem?_eq_some_iff.1 h.e).1
theorem St.call {w0 w w1 : World} {v : Value} {e : Int} (h : St w0 v e w) (k : Below w.heap.size w w1) : St w0 v e w1 :=
  ⟨Later.heap k h.b, Later.heap k h.e, below_tr h.below k h.below.size⟩
theorem St.drew {w0 w : World} {v : Value} {e : Int} (h : St w0 v e w) : St w0 v e w.drew := h.call (Below.drew (Below.refl _ _))
theorem St.setB {w0 w : World} {v : Value} {e : Int} (h : St w0 v e w) (u : Value) : St w0 u e (w.setCell ⟨w0.heap.size, 0, none⟩ u) :=
  ⟨blk_set h.b 0 u, blk_far h.e (p := ⟨w0.heap.size, 0, none⟩) (Nat.succ_ne_self _) u, h.below.setCell (p := ⟨w0.heap.size, 0, none⟩) (Nat.le_refl _) u⟩
theorem St.setE {w0 w : World} {v : Value} {e : Int} (h : St w0 v e w) (x : Int) : St w0 v x (w.setCell ⟨w0.heap.size + 1, 0, none⟩ (.int .i64 x)) :=
  ⟨blk_far h.b (p := ⟨w0.heap.size + 1, 0, none⟩) (Nat.ne_of_lt (Nat.lt_succ_self _)) _, blk_set h.e 0 _, h.below.setCell (p := ⟨w0.heap.size + 1, 0, none⟩) (Nat.le_succ _) _⟩
theorem St.new (w : World) (v : Value) (e : Int) : St w v e ((w.alloc (.cells #[v] 22)).alloc (.cells #[.int .i64 e] 28)) := by
  have h1 : (w.alloc (.cells #[v] 22)).heap.size = w.heap.size + 1 := by simp
  refine ⟨Later.heap (below_alloc (Below.refl _ _) _) (Array.getElem?_push_size : (w.heap.push _)[w.heap.size]? = _), ?_, below_alloc (below_alloc (Below.refl _ _) _) _⟩
  rw [← h1]
  exact (Array.getElem?_push_size : ((w.alloc (.cells #[v] 22)).heap.push _)[_]? = _)
theorem St.cb {w0 w : World} {v : Value} {e : Int} (h : St w0 v e w) : w.cell? ⟨w0.heap.size, 0, none⟩ = some v := blk_cell h.b 0
theorem St.ce {w0 w : World} {v : Value} {e : Int} (h : St w0 v e w) : w.cell? ⟨w0.heap.size + 1, 0, none⟩ = some (.int .i64 e) := blk_cell h.e 0
theorem St.fb {w0 w : World} {v : Value} {e : Int} (h : St w0 v e w) : w.frozen? ⟨w0.heap.size, 0, none⟩ = false := blk_frozen h.b 0
theorem St.fe {w0 w : World} {v : Value} {e : Int} (h : St w0 v e w) : w.frozen? ⟨w0.heap.size + 1, 0, none⟩ = false := blk_frozen h.e 0
theorem St.ownB {w0 w w1 : World} {v u : Value} {e : Int} {b : List Int} (h : St w0 v e w) (hO : OwB w1 w.heap.size u b) (x : Value) : OwB (w1.setCell ⟨w0.heap.size, 0, none⟩ x) w.heap.size u b :=
  OwB.far hO (fun hk => by have h2 : w.heap.size ≤ w0.heap.size := Kd.R_base hO _ hk.symm; have := h.lt; omega) x
theorem St.ownE {w0 w w1 : World} {v u : Value} {e : Int} {b : List Int} (h : St w0 v e w) (hO : OwB w1 w.heap.size u b) (x : Value) : OwB (w1.setCell ⟨w0.heap.size + 1, 0, none⟩ x) w.heap.size u b :=
  OwB.far hO (fun hk => by have h2 : w.heap.size ≤ w0.heap.size + 1 := Kd.R_base hO _ hk.symm; have := h.lt; omega) x
theorem res_open {tmps : Array Value} {w0 w : World} {v : Value} {e : Int} (h : St w0 v e w) (hp : tmps.getD 4 undef = .pointer (some ⟨w0.heap.size, 0, none⟩)) (hq : tmps.getD 5 undef = .pointer (some ⟨w0.heap.size + 1, 0, none⟩)) :
    (results Try.f11 tmps).run Try.prog w = .ok (.tuple #[v, .int .i64 e]) w := by
  have hp' : tmps[4]?.getD undef = .pointer (some ⟨w0.heap.size, 0, none⟩) := by simpa using hp
  have hq' : tmps[5]?.getD undef = .pointer (some ⟨w0.heap.size + 1, 0, none⟩) := by simpa using hq
  have c1 := h.cb
  have c2 := h.ce
  simp [results, Try.results11, hp', hq', go_sem, c1, c2]
theorem open_put {R : Ending → World → Prop} {ds : List Deferred} {c : List PanicEntry} {tmps : Array Value} {t : Nat} (v : Value) {w : World} (ht : 5 < t) (h : Leaves Try.prog Try.f11 (tmps.setIfInBounds t v) R ds (.panicking c) w) : Leaves Try.prog Try.f11 tmps R ds (.panicking c) w := by
  refine Leaves.congr (fun w => ?_) ds _ w h
  have h4 : (tmps.setIfInBounds t v)[4]? = tmps[4]? := Array.getElem?_setIfInBounds_ne (by omega)
  have h5 : (tmps.setIfInBounds t v)[5]? = tmps[5]? := Array.getElem?_setIfInBounds_ne (by omega)
  simp [results, Try.results11, h4, h5]
theorem open_panics {tmps : Array Value} {w0 w : World} {v : Value} {e x : Int} (h : St w0 v e w) (h1 : v.oneCell' = true) (hp : tmps.getD 4 undef = .pointer (some ⟨w0.heap.size, 0, none⟩)) (hq : tmps.getD 5 undef = .pointer (some ⟨w0.heap.size + 1, 0, none⟩)) :
    Leaves Try.prog Try.f11 tmps (fun e w' => UnPost w0 ⟨[], x⟩ e w') [⟨.fn (.func 24) #[.pointer (some ⟨w0.heap.size, 0, none⟩), .pointer (some ⟨w0.heap.size + 1, 0, none⟩)], #[]⟩]
      (.panicking [{ v := .iface 47 (.agg #[.int .i64 x]), recovered := false }]) w := by
  refine leaves_cons (f := 24) (args := #[.pointer (some ⟨w0.heap.size, 0, none⟩), .pointer (some ⟨w0.heap.size + 1, 0, none⟩)]) (by simp) (by simp [go_sem]) ?_
  refine (catch_bad w0.heap.size x e v h1 w h.b h.e).mono ?_
  rintro e u' w' ⟨rfl, rfl, hB, hb, he⟩
  have hS : St w0 (.slice none 0 0) x w' := ⟨hb, he, h.below.trans hB⟩
  refine ⟨.tuple #[.slice none 0 0, .int .i64 x], res_open hS hp hq, ⟨⟨_, rfl, Kd.R_nil _ _ _ _ _, Bytes.nil⟩, hS.below⟩⟩
theorem open_returns {tmps : Array Value} {w0 w : World} {v : Value} {b : List Int} (h : St w0 v 0 w) (hO : OwB w w0.heap.size v b) (hb : Bytes b) (hp : tmps.getD 4 undef = .pointer (some ⟨w0.heap.size, 0, none⟩)) (hq : tmps.getD 5 undef = .pointer (some ⟨w0.heap.size + 1, 0, none⟩)) :
    Leaves Try.prog Try.f11 tmps (fun e w' => UnPost w0 ⟨b, 0⟩ e w') [⟨.fn (.func 24) #[.pointer (some ⟨w0.heap.size, 0, none⟩), .pointer (some ⟨w0.heap.size + 1, 0, none⟩)], #[]⟩] .returning w := by
  refine leaves_cons (f := 24) (args := #[.pointer (some ⟨w0.heap.size, 0, none⟩), .pointer (some ⟨w0.heap.size + 1, 0, none⟩)]) (by simp) (by simp [go_sem]) ?_
  refine (catch_idle ⟨w0.heap.size, 0, none⟩ ⟨w0.heap.size + 1, 0, none⟩ w).mono ?_
  rintro e u' w' ⟨rfl, rfl, hB⟩
  exact ⟨.tuple #[v, .int .i64 0], res_open (h.call hB) hp hq, ⟨⟨_, rfl, OwB.below hO hB, hb⟩, (h.call hB).below⟩⟩
end Go.Proofs.Ytcbcoaafdggniaa
