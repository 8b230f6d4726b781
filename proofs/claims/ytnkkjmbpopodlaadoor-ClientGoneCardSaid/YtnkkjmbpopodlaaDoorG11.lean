/- Plain lemmas and contracts, several texts in one: Frm7, Frm8, Frm9. Conditions: their own. -/
import Derived.Test.YtnkkjmbpopodlaaDoorG10
import Derived.Test.YtnkkjmbpopodlaaDoorG8
import Derived.Test.YtnkkjmbpopodlaaDoorG1
import Derived.Laws.Pointers
namespace Go.Proofs.YtnkkjmbpopodlaaDoor
open Go.RowKit Go.Shelf Go.Proofs.YtnkkjmbpopodlaaDoorW.PrintWords Go.Proofs.YtnkkjmbpopodlaaDoorW.PrintMore
set_option linter.unusedVariables false
set_option linter.unusedSimpArgs false
def isP (b : List Int) : Prop := (packL b).length < b.length
instance (b : List Int) : Decidable (isP b) := by unfold isP; infer_instance
def sealM (b : List Int) : Int := if isP b then 1 else 0
def sealB (b : List Int) : List Int := if isP b then packL b else b
/-- A frame. -/
def sealL (b : List Int) : List Int := [76, sealM b] ++ le32 b.length ++ sealB b ++ le32 (crc 0 b)
theorem rd_lit2 {W : World} {n0 : Nat} (h0 : W.heap.size = n0) (xs : List Int) (cs : Array Value) (fr : Nat × Nat) (n : Nat) (hcs : cs = (xs.map (Value.int .u8)).toArray) (hn : n = xs.length) (hm : xs.length ≤ 9223372036854775807) :
    RdB (W.alloc (.cells cs 5 fr)) (some ⟨n0, 0, none⟩) n xs := by
  subst h0
  exact rd_lit W xs cs fr n hcs hn hm
end Go.Proofs.YtnkkjmbpopodlaaDoor
namespace Go.Proofs.YtnkkjmbpopodlaaDoor
open Go.RowKit Go.Shelf Go.Proofs.YtnkkjmbpopodlaaDoorW.PrintWords Go.Proofs.YtnkkjmbpopodlaaDoorW.PrintMore
set_option linter.unusedVariables false
set_option linter.unusedSimpArgs false
theorem assert_nil (W : World) : (Instr.typeAssert .nilIface 20 119 true).run Tryd.prog W = .ok (.tuple #[.agg #[.int .i64 0], .bool false]) W := by
  simp [Instr.typeAssert, go_sem]
theorem assert_bad (x : Int) (W : World) : (Instr.typeAssert (.iface 119 (.agg #[.int .i64 x])) 20 119 true).run Tryd.prog W = .ok (.tuple #[.agg #[.int .i64 x], .bool true]) W := by
  simp [Instr.typeAssert, go_sem]
theorem catch_idle (p q : Addr) (w : World) :
    CallsD Tryd.prog 68 #[.pointer (some p), .pointer (some q)] .returning w fun e u' w' => e = .returned (.tuple #[]) ∧ u' = .returning ∧ Below w.heap.size w w' := by
  refine callsD_of_wpS Tryd.func68 rfl fun c₀ cs hu => ?_
  simp only [Tryd.ntmps68, List.size_toArray, List.length_cons, List.length_nil, Nat.reduceAdd, Nat.reduceSub, Array.replicate_succ, Array.replicate_zero, List.push_toArray, List.append_toArray, List.nil_append, List.cons_append]
  refine wpS_recover (v := .nilIface) (cs' := c₀ :: cs) rfl (by rfl) (by rfl) (.inr ⟨by simp [recoverD, hu], rfl, rfl⟩) ?_ ?_
  · rintro ⟨a, w, u, h, _⟩
    cases h
  have hta := assert_nil
  go_wp2
  exact ⟨rfl, .returning, by cases c₀; simp_all, _, results_none rfl _ _ _, rfl, rfl, below_alloc (Below.refl _ _) _⟩
theorem catch_bad (g : Nat) (x : Int) (e0 : Int) (v0 : Value) (h1 : v0.oneCell' = true) (w : World) (hc : w.heap[g]? = some (.cells #[v0] 37 (0, 0))) (hd : w.heap[g + 1]? = some (.cells #[.int .i64 e0] 31 (0, 0))) :
    CallsD Tryd.prog 68 #[.pointer (some ⟨g, 0, none⟩), .pointer (some ⟨g + 1, 0, none⟩)] (.panicking [{ v := .iface 119 (.agg #[.int .i64 x]), recovered := false }]) w fun e u' w' =>
      e = .returned (.tuple #[]) ∧ u' = .panicking [{ v := .iface 119 (.agg #[.int .i64 x]), recovered := true }] ∧ Below g w w' ∧
      w'.heap[g]? = some (.cells #[.slice none 0 0] 37 (0, 0)) ∧ w'.heap[g + 1]? = some (.cells #[.int .i64 x] 31 (0, 0)) := by
  refine callsD_of_wpS Tryd.func68 rfl fun c₀ cs hu => ?_
  simp only [Tryd.ntmps68, List.size_toArray, List.length_cons, List.length_nil, Nat.reduceAdd, Nat.reduceSub, Array.replicate_succ, Array.replicate_zero, List.push_toArray, List.append_toArray, List.nil_append, List.cons_append]
  refine wpS_recover (v := .iface 119 (.agg #[.int .i64 x])) (cs' := { c₀ with mode := .panicking [{ v := .iface 119 (.agg #[.int .i64 x]), recovered := true }] } :: cs) rfl (by rfl) (by rfl) (.inl (by simp [recoverD, hu])) ?_ ?_
  · rintro ⟨a, w, u, h, _⟩
    cases h
  have hta := assert_bad
  go_wp2
  have hg : g < w.heap.size := (Array.getElem?_eq_some_iff.1 hc).1
  have hg1 : g + 1 < w.heap.size := (Array.getElem?_eq_some_iff.1 hd).1
  have c1 : w.cell? ⟨g, 0, none⟩ = some v0 := blk_cell hc 0
  have c2 : w.cell? ⟨g + 1, 0, none⟩ = some (.int .i64 e0) := blk_cell hd 0
  have f1 := blk_frozen hc 0
  have f2 := blk_frozen hd 0
  go_region
  have hs1 := blk_far (blk_set hc 0 (.slice none 0 0)) (p := ⟨g + 1, 0, none⟩) (Nat.ne_of_lt (Nat.lt_succ_self g)) (.int .i64 x)
  have hs2 := blk_set (blk_far hd (p := ⟨g, 0, none⟩) (Nat.succ_ne_self g) (.slice none 0 0)) 0 (.int .i64 x)
  exact ⟨rfl, _, rfl, _, results_none rfl _ _ _, rfl, rfl, Below.drew (Below.trans (((Below.refl g w).setCell (p := ⟨g, 0, none⟩) (Nat.le_refl g) _).setCell (p := ⟨g + 1, 0, none⟩) (Nat.le_succ g) _) (Below.mono (below_alloc (Below.refl _ _) _) (by simp; omega))), (Later.heap (below_alloc (Below.refl _ _) _) hs1 :), (Later.heap (below_alloc (Below.refl _ _) _) hs2 :)⟩
end Go.Proofs.YtnkkjmbpopodlaaDoor
namespace Go.Proofs.YtnkkjmbpopodlaaDoor
open Go.RowKit Go.Shelf Go.Proofs.YtnkkjmbpopodlaaDoorW.PrintWords Go.Proofs.YtnkkjmbpopodlaaDoorW.PrintMore
set_option linter.unusedVariables false
set_option linter.unusedSimpArgs false
def openT (n : Nat) (b f : List Int) : UR := if b.length ≠ n then ⟨[], 2⟩ else if le32 (crc 0 b) ≠ f.drop (f.length - 4) then ⟨[], 7⟩ else ⟨b, 0⟩
/-- A frame's bytes, or the error. -/
def openL (most : Int) (f : List Int) : UR := match lenL f with
  | none => ⟨[], 2⟩
  | some n => if most < n then ⟨[], 3⟩ else
    if rd f 1 = 1 then (if (unp n (midL f 6 (f.length - 4))).E ≠ 0 then ⟨[], 2⟩ else openT n (unp n (midL f 6 (f.length - 4))).B f)
    else openT n (midL f 6 (f.length - 4)) f
/-- The two named results' cells. -/
structure St (w0 : World) (v : Value) (e : Int) (w : World) : Prop where
  b : w.heap[w0.heap.size]? = some (.cells #[v] 37 (0, 0))
  e : w.heap[w0.heap.size + 1]? = some (.cells #[.int .i64 e] 31 (0, 0))
  below : Below w0.heap.size w0 w
theorem St.lt {w0 w : World} {v : Value} {e : Int} (h : St w0 v e w) : w0.heap.size + 1 < w.heap.size := (Array.getElem?_eq_some_iff.1 h.e).1
theorem St.call {w0 w w1 : World} {v : Value} {e : Int} (h : St w0 v e w) (k : Below w.heap.size w w1) : St w0 v e w1 :=
  ⟨Later.heap k h.b, Later.heap k h.e, below_tr h.below k h.below.size⟩
theorem St.drew {w0 w : World} {v : Value} {e : Int} (h : St w0 v e w) : St w0 v e w.drew := h.call (Below.drew (Below.refl _ _))
theorem St.setB {w0 w : World} {v : Value} {e : Int} (h : St w0 v e w) (u : Value) : St w0 u e (w.setCell ⟨w0.heap.size, 0, none⟩ u) :=
  ⟨blk_set h.b 0 u, blk_far h.e (p := ⟨w0.heap.size, 0, none⟩) (Nat.succ_ne_self _) u, h.below.setCell (p := ⟨w0.heap.size, 0, none⟩) (Nat.le_refl _) u⟩
theorem St.setE {w0 w : World} {v : Value} {e : Int} (h : St w0 v e w) (x : Int) : St w0 v x (w.setCell ⟨w0.heap.size + 1, 0, none⟩ (.int .i64 x)) :=
  ⟨blk_far h.b (p := ⟨w0.heap.size + 1, 0, none⟩) (Nat.ne_of_lt (Nat.lt_succ_self _)) _, blk_set h.e 0 _, h.below.setCell (p := ⟨w0.heap.size + 1, 0, none⟩) (Nat.le_succ _) _⟩
theorem St.new (w : World) (v : Value) (e : Int) : St w v e ((w.alloc (.cells #[v] 37)).alloc (.cells #[.int .i64 e] 31)) := by
  have h1 : (w.alloc (.cells #[v] 37)).heap.size = w.heap.size + 1 := by simp
  refine ⟨Later.heap (below_alloc (Below.refl _ _) _) (Array.getElem?_push_size : (w.heap.push _)[w.heap.size]? = _), ?_, below_alloc (below_alloc (Below.refl _ _) _) _⟩
  rw [← h1]
  exact (Array.getElem?_push_size : ((w.alloc (.cells #[v] 37)).heap.push _)[_]? = _)
theorem St.cb {w0 w : World} {v : Value} {e : Int} (h : St w0 v e w) : w.cell? ⟨w0.heap.size, 0, none⟩ = some v := blk_cell h.b 0
theorem St.ce {w0 w : World} {v : Value} {e : Int} (h : St w0 v e w) : w.cell? ⟨w0.heap.size + 1, 0, none⟩ = some (.int .i64 e) := blk_cell h.e 0
theorem St.fb {w0 w : World} {v : Value} {e : Int} (h : St w0 v e w) : w.frozen? ⟨w0.heap.size, 0, none⟩ = false := blk_frozen h.b 0
theorem St.fe {w0 w : World} {v : Value} {e : Int} (h : St w0 v e w) : w.frozen? ⟨w0.heap.size + 1, 0, none⟩ = false := blk_frozen h.e 0
theorem St.ownB {w0 w w1 : World} {v u : Value} {e : Int} {b : List Int} (h : St w0 v e w) (hO : OwB w1 w.heap.size u b) (x : Value) : OwB (w1.setCell ⟨w0.heap.size, 0, none⟩ x) w.heap.size u b :=
  OwB.far hO (fun hk => by have h2 : w.heap.size ≤ w0.heap.size := Kd.R_base hO _ hk.symm; have := h.lt; omega) x
theorem St.ownE {w0 w w1 : World} {v u : Value} {e : Int} {b : List Int} (h : St w0 v e w) (hO : OwB w1 w.heap.size u b) (x : Value) : OwB (w1.setCell ⟨w0.heap.size + 1, 0, none⟩ x) w.heap.size u b :=
  OwB.far hO (fun hk => by have h2 : w.heap.size ≤ w0.heap.size + 1 := Kd.R_base hO _ hk.symm; have := h.lt; omega) x
theorem res_open {tmps : Array Value} {w0 w : World} {v : Value} {e : Int} (h : St w0 v e w) (hp : tmps.getD 4 undef = .pointer (some ⟨w0.heap.size, 0, none⟩)) (hq : tmps.getD 5 undef = .pointer (some ⟨w0.heap.size + 1, 0, none⟩)) :
    (results Tryd.f43 tmps).run Tryd.prog w = .ok (.tuple #[v, .int .i64 e]) w := by
  have hp' : tmps[4]?.getD undef = .pointer (some ⟨w0.heap.size, 0, none⟩) := by simpa using hp
  have hq' : tmps[5]?.getD undef = .pointer (some ⟨w0.heap.size + 1, 0, none⟩) := by simpa using hq
  have c1 := h.cb
  have c2 := h.ce
  simp [results, Tryd.results43, hp', hq', go_sem, c1, c2]
theorem open_put {R : Ending → World → Prop} {ds : List Deferred} {c : List PanicEntry} {tmps : Array Value} {t : Nat} (v : Value) {w : World} (ht : 5 < t) (h : Leaves Tryd.prog Tryd.f43 (tmps.setIfInBounds t v) R ds (.panicking c) w) : Leaves Tryd.prog Tryd.f43 tmps R ds (.panicking c) w := by
  refine Leaves.congr (fun w => ?_) ds _ w h
  have h4 : (tmps.setIfInBounds t v)[4]? = tmps[4]? := Array.getElem?_setIfInBounds_ne (by omega)
  have h5 : (tmps.setIfInBounds t v)[5]? = tmps[5]? := Array.getElem?_setIfInBounds_ne (by omega)
  simp [results, Tryd.results43, h4, h5]
theorem open_panics {tmps : Array Value} {w0 w : World} {v : Value} {e x : Int} (h : St w0 v e w) (h1 : v.oneCell' = true) (hp : tmps.getD 4 undef = .pointer (some ⟨w0.heap.size, 0, none⟩)) (hq : tmps.getD 5 undef = .pointer (some ⟨w0.heap.size + 1, 0, none⟩)) :
    Leaves Tryd.prog Tryd.f43 tmps (fun e w' => UnPost w0 ⟨[], x⟩ e w') [⟨.fn (.func 68) #[.pointer (some ⟨w0.heap.size, 0, none⟩), .pointer (some ⟨w0.heap.size + 1, 0, none⟩)], #[]⟩]
      (.panicking [{ v := .iface 119 (.agg #[.int .i64 x]), recovered := false }]) w := by
  refine leaves_cons (f := 68) (args := #[.pointer (some ⟨w0.heap.size, 0, none⟩), .pointer (some ⟨w0.heap.size + 1, 0, none⟩)]) (by simp) (by simp [go_sem]) ?_
  refine (catch_bad w0.heap.size x e v h1 w h.b h.e).mono ?_
  rintro e u' w' ⟨rfl, rfl, hB, hb, he⟩
  have hS : St w0 (.slice none 0 0) x w' := ⟨hb, he, h.below.trans hB⟩
  refine ⟨.tuple #[.slice none 0 0, .int .i64 x], res_open hS hp hq, ⟨⟨_, rfl, Kd.R_nil _ _ _ _ _, Bytes.nil⟩, hS.below⟩⟩
theorem open_returns {tmps : Array Value} {w0 w : World} {v : Value} {b : List Int} (h : St w0 v 0 w) (hO : OwB w w0.heap.size v b) (hb : Bytes b) (hp : tmps.getD 4 undef = .pointer (some ⟨w0.heap.size, 0, none⟩)) (hq : tmps.getD 5 undef = .pointer (some ⟨w0.heap.size + 1, 0, none⟩)) :
    Leaves Tryd.prog Tryd.f43 tmps (fun e w' => UnPost w0 ⟨b, 0⟩ e w') [⟨.fn (.func 68) #[.pointer (some ⟨w0.heap.size, 0, none⟩), .pointer (some ⟨w0.heap.size + 1, 0, none⟩)], #[]⟩] .returning w := by
  refine leaves_cons (f := 68) (args := #[.pointer (some ⟨w0.heap.size, 0, none⟩), .pointer (some ⟨w0.heap.size + 1, 0, none⟩)]) (by simp) (by simp [go_sem]) ?_
  refine (catch_idle ⟨w0.heap.size, 0, none⟩ ⟨w0.heap.size + 1, 0, none⟩ w).mono ?_
  rintro e u' w' ⟨rfl, rfl, hB⟩
  exact ⟨.tuple #[v, .int .i64 0], res_open (h.call hB) hp hq, ⟨⟨_, rfl, OwB.below hO hB, hb⟩, (h.call hB).below⟩⟩
end Go.Proofs.YtnkkjmbpopodlaaDoor
