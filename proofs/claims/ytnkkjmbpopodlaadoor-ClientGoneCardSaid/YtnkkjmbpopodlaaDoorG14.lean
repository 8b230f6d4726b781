/- Plain lemmas and contracts, several texts in one: Dg, ClM, Cl1, Cl2, Cl3. Conditions: their own. -/
import Derived.Test.YtnkkjmbpopodlaaDoorG2
import Derived.Test.YtnkkjmbpopodlaaDoorG12
namespace Go.Proofs.YtnkkjmbpopodlaaDoor
open Go.RowKit Go.Proofs.YtnkkjmbpopodlaaDoorW.PrintWords Go.Proofs.YtnkkjmbpopodlaaDoorW.PrintMore
set_option linter.unusedVariables false
set_option linter.unusedSimpArgs false
theorem Nm_len32 {x : List Int} (h : x.length = 32) : (Nm x).length = 32 := by rw [Nm_len]; exact h
/-- Digests, 32 cells each. -/
abbrev KDg : Kd (List Int) := Kf 32 (fun x => x.length = 32) Nm (fun _ h => Nm_len32 h) Nm_one
abbrev OwD (w : World) (base : Nat) (v : Value) (xs : List (List Int)) : Prop := KDg.R 40 w base (fun _ => True) v xs
abbrev RdD (w : World) (A : Option Addr) (n : Nat) (xs : List (List Int)) : Prop := KDg.C w A n xs
theorem dg_neq {w : World} {nm nm' : List Int} (hn : nm.length = 32) (hn' : nm'.length = 32) :
    (binOp .neq 40 (.agg (Nm nm).toArray) (.agg (Nm nm').toArray)).run Tryd.prog w = .ok (.bool (!decide (nm = nm'))) w := by
  rw [run_neq_struct, digest_eq (d := 9998) hn hn']; rfl
end Go.Proofs.YtnkkjmbpopodlaaDoor
namespace Go.Proofs.YtnkkjmbpopodlaaDoor
open Go.RowKit Go.Proofs.YtnkkjmbpopodlaaDoorW.PrintWords Go.Proofs.YtnkkjmbpopodlaaDoorW.PrintMore
set_option linter.unusedVariables false
set_option linter.unusedSimpArgs false
set_option maxRecDepth 100000
/-- A digest that is wanted: 0 neither, 1 askedN for, 2 done; the last Ask's number, when it is due, how often. -/
structure Wt where
  nm : List Int
  st : Int
  seq : Int
  due : Int
  asks : Int
deriving DecidableEq, Inhabited
/-- A client. -/
structure Cl where
  L : List Wt
  window : Int
  timeout : Int
  tries : Int
  seq : Int
  e : Int
def Wt.new (nm : List Int) : Wt := ⟨nm, 0, 0, 0, 0⟩
/-- Where the first stands that is such a one; -1: there is none. -/
def fst {α : Type} (p : α → Bool) : List α → Int
  | [] => -1
  | x :: l => if p x then 0 else if fst p l < 0 then -1 else fst p l + 1
theorem fst_range {α : Type} (p : α → Bool) (l : List α) : -1 ≤ fst p l ∧ fst p l < l.length := by
  induction l with
  | nil => simp [fst]
  | cons x l ih => unfold fst; simp only [List.length_cons]; split <;> (try split) <;> omega
theorem fst_none {α : Type} {p : α → Bool} {l : List α} : (∀ x ∈ l, p x = false) → fst p l = -1 := by
  induction l with
  | nil => intro _; rfl
  | cons x l ih =>
    intro h
    unfold fst
    rw [h x (by simp), ih (fun y hy => h y (by simp [hy]))]
    rfl
theorem fst_some {α : Type} {p : α → Bool} {l : List α} {k : Nat} {d : α} (hk : k < l.length) (h : ∀ x ∈ l.take k, p x = false) (hp : p (l.getD k d) = true) : fst p l = k := by
  induction l generalizing k with
  | nil => simp at hk
  | cons x l ih =>
    unfold fst
    cases k with
    | zero =>
      rw [show p x = true from hp, if_pos rfl]; rfl
    | succ k =>
      rw [h x (by simp), ih (k := k) (by simpa using hk) (fun y hy => h y (by simp [hy])) (by simpa using hp)]
      simp
      omega
theorem fst_any {α : Type} (p : α → Bool) (l : List α) : decide (0 ≤ fst p l) = l.any p := by
  induction l with
  | nil => rfl
  | cons x l ih =>
    unfold fst
    rw [List.any_cons, ← ih]
    rcases hpx : p x with _ | _
    · by_cases h3 : fst p l < 0
      · simp [h3] <;> omega
      · simp [h3] <;> omega
    · simp
def fnd (L : List Wt) (nm : List Int) : Int := fst (fun x => decide (x.nm = nm)) L
def newL (L : List Wt) : List (List Int) → List Wt
  | [] => L
  | n :: ns => newL (if fnd L n < 0 then L ++ [Wt.new n] else L) ns
theorem newL_snoc (L : List Wt) (ns : List (List Int)) (n : List Int) : newL L (ns ++ [n]) = if fnd (newL L ns) n < 0 then newL L ns ++ [Wt.new n] else newL L ns := by
  induction ns generalizing L with
  | nil => rfl
  | cons m ns ih => exact ih _
theorem newL_take {ns : List (List Int)} {k : Nat} (h : k < ns.length) : newL [] (ns.take (k + 1)) = if fnd (newL [] (ns.take k)) (ns.getD k []) < 0 then newL [] (ns.take k) ++ [Wt.new (ns.getD k [])] else newL [] (ns.take k) := by
  have e : ns.take (k + 1) = ns.take k ++ [ns.getD k []] := by rw [List.take_add_one, List.getD_eq_getElem?_getD, List.getElem?_eq_getElem h]; rfl
  rw [e, newL_snoc]
theorem newL_len (L : List Wt) (ns : List (List Int)) : (newL L ns).length ≤ L.length + ns.length := by
  induction ns generalizing L with
  | nil => simp [newL]
  | cons m ns ih =>
    have := ih (if fnd L m < 0 then L ++ [Wt.new m] else L)
    unfold newL
    split at this <;> (simp at this ⊢; rename_i h; simp [h]; omega)
/-- One is askedN for. -/
def askW (x : Wt) (s d : Int) : Wt := ⟨x.nm, 1, s, d, x.asks + 1⟩
def wd (L : List Wt) (i : Nat) : Wt := L.getD i default
def askC (c : Cl) (i : Nat) (t : Int) : Cl := { c with seq := c.seq + 1, L := c.L.set i (askW (wd c.L i) (c.seq + 1) (t + c.timeout)) }
/-- The bytes of an Ask. -/
def askB (s : Int) (nm : List Int) : List Int := cput (wbody 1 s nm [])
/-- How many are askedN for. -/
def askedN (L : List Wt) : Nat := (L.filter fun x => x.st == 1).length
def leftL (L : List Wt) : List (List Int) := (L.filter fun x => x.st != 2).map (·.nm)
/-- Is one due? -/
def late (t : Int) (x : Wt) : Bool := x.st == 1 && decide (x.due ≤ t)
def lostC (c : Cl) (t : Int) : Bool := c.L.any fun x => late t x && decide (c.tries ≤ x.asks)
/-- The rounds of Step's loops: those that are due again; those that are not askedN for. -/
def oneC (t : Int) (b : Bool) (c : Cl) (k : Nat) : Cl := if b then askC c k t else c
def oneB (b : Bool) (c : Cl) (k : Nat) : List (List Int) := if b then [askB (c.seq + 1) (wd c.L k).nm] else []
def b1 (t : Int) (c : Cl) (k : Nat) : Bool := late t (wd c.L k)
def b2 (c : Cl) (k : Nat) : Bool := (wd c.L k).st == 0 && decide ((askedN c.L : Int) < c.window)
def p1 (t : Int) (c : Cl) : Nat → Cl × List (List Int)
  | 0 => (c, [])
  | k + 1 => (oneC t (b1 t (p1 t c k).1 k) (p1 t c k).1 k, (p1 t c k).2 ++ oneB (b1 t (p1 t c k).1 k) (p1 t c k).1 k)
def p2 (t : Int) (c : Cl) (o : List (List Int)) : Nat → Cl × List (List Int)
  | 0 => (c, o)
  | k + 1 => (oneC t (b2 (p2 t c o k).1 k) (p2 t c o k).1 k, (p2 t c o k).2 ++ oneB (b2 (p2 t c o k).1 k) (p2 t c o k).1 k)
def stepC (c : Cl) (t : Int) : Cl × List (List Int) :=
  if c.e ≠ 0 then (c, []) else if lostC c t then ({ c with e := 10 }, []) else p2 t (p1 t c c.L.length).1 (p1 t c c.L.length).2 c.L.length
/-- What holds of each that is wanted. -/
def Wt.ok (m : Int) (x : Wt) : Prop := x.nm.length = 32 ∧ Bytes x.nm ∧ 0 ≤ x.seq ∧ x.seq ≤ m ∧ 0 ≤ x.asks ∧ x.asks ≤ m ∧ (x.st = 0 ∧ x.asks = 0 ∨ x.st = 1 ∧ 0 < x.asks ∨ x.st = 2)
structure Cl.ok (c : Cl) : Prop where
  all : ∀ x ∈ c.L, x.ok c.seq
  w0 : 1 ≤ c.window
  w1 : c.window ≤ 8
  t0 : 1 ≤ c.timeout
  t1 : c.timeout ≤ 1000
  r0 : 1 ≤ c.tries
  r1 : c.tries ≤ 16
  s0 : 0 ≤ c.seq
  l1 : c.L.length ≤ 1024
theorem Wt.ok.mono {m n : Int} {x : Wt} (h : x.ok m) (hm : m ≤ n) : x.ok n := by
  obtain ⟨h1, h2, h3, h4, h5, h6, h7⟩ := h
  exact ⟨h1, h2, h3, by omega, h5, by omega, h7⟩
theorem wd_mem {L : List Wt} {i : Nat} (h : i < L.length) : wd L i ∈ L := by
  unfold wd
  rw [List.getD_eq_getElem?_getD, List.getElem?_eq_getElem h]
  exact List.getElem_mem _
theorem Cl.ok.at {c : Cl} (h : c.ok) {i : Nat} (hi : i < c.L.length) : (wd c.L i).ok c.seq := h.all _ (wd_mem hi)
theorem ask_ok {c : Cl} (h : c.ok) {i : Nat} (hi : i < c.L.length) (t : Int) : (askC c i t).ok := by
  have h1 := h.at hi
  obtain ⟨a1, a2, a3, a4, a5, a6, a7⟩ := h1
  have hs := h.s0
  refine ⟨fun x hx => ?_, h.w0, h.w1, h.t0, h.t1, h.r0, h.r1, by show 0 ≤ c.seq + 1; omega, by show (c.L.set _ _).length ≤ _; rw [List.length_set]; exact h.l1⟩
  show x.ok (c.seq + 1)
  rcases List.mem_or_eq_of_mem_set hx with hx | rfl
  · exact (h.all x hx).mono (by omega)
  · exact ⟨a1, a2, by show 0 ≤ c.seq + 1; omega, by show c.seq + 1 ≤ c.seq + 1; omega, by show 0 ≤ (wd c.L i).asks + 1; omega, by show (wd c.L i).asks + 1 ≤ c.seq + 1; omega, .inr (.inl ⟨rfl, by show 0 < (wd c.L i).asks + 1; omega⟩)⟩
theorem ask_len (c : Cl) (i : Nat) (t : Int) : (askC c i t).L.length = c.L.length := List.length_set
/-- What a Step's round may turn. -/
structure Grow (c c' : Cl) (n : Nat) : Prop where
  len : c'.L.length = c.L.length
  win : c'.window = c.window
  tim : c'.timeout = c.timeout
  tri : c'.tries = c.tries
  err : c'.e = c.e
  lo : c.seq ≤ c'.seq
  hi : c'.seq ≤ c.seq + n
theorem Grow.refl (c : Cl) : Grow c c 0 := ⟨rfl, rfl, rfl, rfl, rfl, Int.le_refl _, by omega⟩
theorem Grow.one {c c' : Cl} {n : Nat} (h : Grow c c' n) (t : Int) (b : Bool) (k : Nat) : Grow c (oneC t b c' k) (n + 1) := by
  obtain ⟨h1, h2, h3, h4, h5, h6, h7⟩ := h
  unfold oneC
  cases b with
  | false => exact ⟨h1, h2, h3, h4, h5, h6, by simp; omega⟩
  | true => exact ⟨(ask_len _ _ _).trans h1, h2, h3, h4, h5, by show c.seq ≤ c'.seq + 1; omega, by show c'.seq + 1 ≤ _; omega⟩
theorem one_ok {c : Cl} (h : c.ok) {k : Nat} (hk : k < c.L.length) (t : Int) (b : Bool) : (oneC t b c k).ok := by
  cases b with
  | false => exact h
  | true => exact ask_ok h hk t
theorem p1_grow (t : Int) (c : Cl) : ∀ k, Grow c (p1 t c k).1 k
  | 0 => Grow.refl c
  | k + 1 => (p1_grow t c k).one t _ k
theorem p1_ok (t : Int) {c : Cl} (h : c.ok) : ∀ k, k ≤ c.L.length → (p1 t c k).1.ok
  | 0, _ => h
  | k + 1, hk => one_ok (p1_ok t h k (by omega)) (by rw [(p1_grow t c k).len]; omega) t _
theorem p2_grow (t : Int) (c : Cl) (o : List (List Int)) : ∀ k, Grow c (p2 t c o k).1 k
  | 0 => Grow.refl c
  | k + 1 => (p2_grow t c o k).one t _ k
theorem p2_ok (t : Int) {c : Cl} (o : List (List Int)) (h : c.ok) : ∀ k, k ≤ c.L.length → (p2 t c o k).1.ok
  | 0, _ => h
  | k + 1, hk => one_ok (p2_ok t o h k (by omega)) (by rw [(p2_grow t c o k).len]; omega) t _
/-- What is in memory of one that is wanted: the program's, the document's. -/
def pcells (x : Wt) : List Value := Nm x.nm ++ [.bool (x.st == 2), .int .i64 x.asks, .int .i64 x.seq, .int .i64 x.due]
def rcells (x : Wt) : List Value := Nm x.nm ++ [.int .i64 x.st, .int .i64 x.seq, .int .i64 x.due, .int .i64 x.asks]
theorem pcells_len {x : Wt} (h : x.nm.length = 32) : (pcells x).length = 36 := by simp [pcells, Nm, h]
theorem rcells_len {x : Wt} (h : x.nm.length = 32) : (rcells x).length = 36 := by simp [rcells, Nm, h]
theorem pcells_one (x : Wt) : ∀ v ∈ pcells x, v.oneCell' = true := by
  intro v hv
  rcases List.mem_append.1 hv with hv | hv
  · exact Nm_one _ v hv
  · simp only [List.mem_cons, List.not_mem_nil, or_false] at hv
    rcases hv with rfl | rfl | rfl | rfl <;> rfl
theorem rcells_one (x : Wt) : ∀ v ∈ rcells x, v.oneCell' = true := by
  intro v hv
  rcases List.mem_append.1 hv with hv | hv
  · exact Nm_one _ v hv
  · simp only [List.mem_cons, List.not_mem_nil, or_false] at hv
    rcases hv with rfl | rfl | rfl | rfl <;> rfl
theorem four_at (nm : List Int) (a b c d : Value) (h : nm.length = 32) : (Nm nm ++ [a, b, c, d])[32]? = some a ∧ (Nm nm ++ [a, b, c, d])[33]? = some b ∧ (Nm nm ++ [a, b, c, d])[34]? = some c ∧ (Nm nm ++ [a, b, c, d])[35]? = some d ∧ ∀ (j : Nat) (u : Value), (Nm nm)[j]? = some u → (Nm nm ++ [a, b, c, d])[j]? = some u := by
  refine ⟨?_, ?_, ?_, ?_, fun j u hu => ?_⟩
  · rw [List.getElem?_append_right (by rw [Nm_len]; omega), Nm_len, h]; rfl
  · rw [List.getElem?_append_right (by rw [Nm_len]; omega), Nm_len, h]; rfl
  · rw [List.getElem?_append_right (by rw [Nm_len]; omega), Nm_len, h]; rfl
  · rw [List.getElem?_append_right (by rw [Nm_len]; omega), Nm_len, h]; rfl
  · rw [List.getElem?_append_left (List.getElem?_eq_some_iff.1 hu).1]; exact hu
abbrev KP : Kd Wt := Kf 36 (fun x => x.nm.length = 32) pcells (fun _ h => pcells_len h) pcells_one
abbrev KV : Kd Wt := Kf 36 (fun x => x.nm.length = 32) rcells (fun _ h => rcells_len h) rcells_one
abbrev OwP (w : World) (base : Nat) (v : Value) (xs : List Wt) : Prop := KP.R 87 w base (fun _ => True) v xs
abbrev RdP (w : World) (A : Option Addr) (n : Nat) (xs : List Wt) : Prop := KP.C w A n xs
abbrev OwV (w : World) (base : Nat) (v : Value) (xs : List Wt) : Prop := KV.R 110 w base (fun _ => True) v xs
abbrev RdV (w : World) (A : Option Addr) (n : Nat) (xs : List Wt) : Prop := KV.C w A n xs
def zP : Value := .agg (pcells (Wt.new (List.replicate 32 0))).toArray
def zV : Value := .agg (rcells (Wt.new (List.replicate 32 0))).toArray
theorem infoP : (Tryd.prog.info? 87).map (fun i => (i.zero, i.size, i.bytes)) = some (some zP, 36, 64) := by kernel_rfl
theorem infoV : (Tryd.prog.info? 110).map (fun i => (i.zero, i.size, i.bytes)) = some (some zV, 36, 64) := by kernel_rfl
theorem zP_size : zP.cells.size = 36 := by kernel_rfl
theorem zV_size : zV.cells.size = 36 := by kernel_rfl
theorem size_p {x : Wt} (h : x.nm.length = 32) : (Tryd.prog.info? 87).map (·.size) = some (pcells x).length := by rw [pcells_len h]; kernel_rfl
theorem built_p (nm : List Int) (hn : nm.length = 32) : Tryd.prog.built 87 [(0, .agg (Nm nm).toArray)] = some (pcells (Wt.new nm)).toArray := by
  obtain ⟨x0, x1, x2, x3, x4, x5, x6, x7, x8, x9, x10, x11, x12, x13, x14, x15, x16, x17, x18, x19, x20, x21, x22, x23, x24, x25, x26, x27, x28, x29, x30, x31, rfl⟩ := l32 nm hn
  kernel_rfl
theorem built_v (nm : List Int) (hn : nm.length = 32) : Tryd.prog.built 110 [(0, .agg (Nm nm).toArray)] = some (rcells (Wt.new nm)).toArray := by
  obtain ⟨x0, x1, x2, x3, x4, x5, x6, x7, x8, x9, x10, x11, x12, x13, x14, x15, x16, x17, x18, x19, x20, x21, x22, x23, x24, x25, x26, x27, x28, x29, x30, x31, rfl⟩ := l32 nm hn
  kernel_rfl
end Go.Proofs.YtnkkjmbpopodlaaDoor
namespace Go.Proofs.YtnkkjmbpopodlaaDoor
open Go.RowKit Go.Proofs.YtnkkjmbpopodlaaDoorW.PrintWords Go.Proofs.YtnkkjmbpopodlaaDoorW.PrintMore
set_option linter.unusedVariables false
set_option linter.unusedSimpArgs false
theorem row1_exec {P : Program} {o : Oper} {a : Act} {w : World} {t e : TypeId} (parts : Array (Nat × Operand)) (ho : o.op = .buildSlice t 1 parts) {z : Value} {size by_ : Nat} (hu : P.underlying t = some (.slice e)) (hinfo : (P.info? e).map (fun i => (i.zero, i.size, i.bytes)) = some (some z, size, by_)) (cs : List Value) (hl : cs.length = size) (hb : size ≤ 2 ^ 24) (hp : size ≠ 0)
    (hparts : (parts.toList.map fun (i, x) => (i, a.eval x)) = [(0, Value.agg cs.toArray)]) : (execOp a.eval o).run P w = .ok (.value (.slice (some ⟨w.heap.size, 0, none⟩) 1 1)) (w.alloc (.cells cs.toArray e)) := by
  obtain ⟨it, hi, hz, hs, _⟩ := info_parts hinfo
  have := rows_exec (P := P) (o := o) (a := a) (w := w) 1 parts ho hu hi hz hs [cs] (by simpa using hl) (by simpa using hb) (by simpa using hp) rfl (by rw [hparts]; rfl)
  simpa using this
theorem results_cell1 {P : Program} {fn : Func} {p : Tmp} {ty : TypeId} (h : fn.results = #[.cell p ty]) (tmps : Array Value) (w : World) (g : Nat) (t : TypeId) (cs : Array Value) (fr : Nat × Nat) (d : TypeDesc)
    (hp : tmps.getD p undef = .pointer (some ⟨g, 0, none⟩)) (hg : w.heap[g]? = some (.cells cs t fr))
    (hu : P.underlying ty = some d) (hd : (match d with | .struct _ | .array _ _ => true | _ => false) = true) (hi : (P.info? ty).map (·.size) = some cs.size) :
    (results fn tmps).run P w = .ok (.agg cs) w := by
  have hp' : tmps[p]?.getD undef = .pointer (some ⟨g, 0, none⟩) := by simpa using hp
  simp [results, h, hp', asAddr, run_loadVar_row w g t ty cs fr d hg hu hd hi]
theorem at_w1 {P : Program} {s : Code} {Q : Exit → Act → World → Prop} {a : Act} {w W : World} (hw : w = W) (h : s.wp P Q a w) : s.wp P Q a W := hw ▸ h
theorem infoDg : (Tryd.prog.info? 40).map (fun i => (i.zero, i.size, i.bytes)) = some (some (.agg (Nm Z32).toArray), 32, 32) := by kernel_rfl
section
variable {ops : Array Oper} {rest : List Oper} {o : Oper} {a : Act} {Q : Exit → Act → World → Prop} {w : World}
theorem new_dg {o1 o2 : Oper} {N : Tmp} (hg1 : o1.guard = none) (hg2 : o2.guard = none) (hd1 : o1.dst = some N) (ho1 : o1.op = .alloc 40) (y : Operand) (ho2 : o2.op = .store 40 (.tmp N) y) (hN : N < a.tmps.size) {nm : List Int}
    (hy : (a.put (some N) (.pointer (some ⟨w.heap.size, 0, none⟩))).eval y = .agg (Nm nm).toArray) (hn : nm.length = 32)
    (h : ∀ w1 g, NewBlk w w1 g (.cells (Nm nm).toArray 40 (0, 0)) → wpList Tryd.prog ops Q rest ((a.put (some N) (.pointer (some ⟨g, 0, none⟩))).put o2.dst undef) w1) : wpList Tryd.prog ops Q (o1 :: o2 :: rest) a w := by
  obtain ⟨it, hi, hz, hs, _⟩ := info_parts infoDg
  exact new_var hg1 hg2 hd1 _ ho1 y ho2 hN hy hi hz (by rw [Nm_len, hn]; rfl) (by rw [hs, Nm_len, hn]) (Nm_one nm) h
theorem new_p {o1 o2 : Oper} {N : Tmp} (hg1 : o1.guard = none) (hg2 : o2.guard = none) (hd1 : o1.dst = some N) (ho1 : o1.op = .alloc 87) (y : Operand) (ho2 : o2.op = .store 87 (.tmp N) y) (hN : N < a.tmps.size) {x : Wt}
    (hy : (a.put (some N) (.pointer (some ⟨w.heap.size, 0, none⟩))).eval y = .agg (pcells x).toArray) (hn : x.nm.length = 32)
    (h : ∀ w1 g, NewBlk w w1 g (.cells (pcells x).toArray 87 (0, 0)) → wpList Tryd.prog ops Q rest ((a.put (some N) (.pointer (some ⟨g, 0, none⟩))).put o2.dst undef) w1) : wpList Tryd.prog ops Q (o1 :: o2 :: rest) a w := by
  obtain ⟨it, hi, hz, hs, _⟩ := info_parts infoP
  exact new_var hg1 hg2 hd1 _ ho1 y ho2 hN hy hi hz (by rw [zP_size, pcells_len hn]) (by rw [hs, pcells_len hn]) (pcells_one x) h
/-- append(v, names...) of digests. -/
theorem appD {w0 W : World} (base : Nat) (hgd : o.guard = none) (s x : Operand)
    (ho : o.op = .call { callee := .builtin .append, args := #[s, x], argTypes := #[28, 28] })
    (v : Value) (xs ys : List (List Int)) (A : Option Addr) (m c : Nat) (hs : a.eval s = v) (hx : a.eval x = .slice A m c)
    (HO : OwD W base v xs) (HR : RdD W A m ys) (HB : Below base w0 W) (hbase : base ≤ W.heap.size) (hl : (xs.length + m) * 32 ≤ 140737488355328)
    (h : ∀ v1 w1, OwD w1 base v1 (xs ++ ys) → Below base w0 w1 → W.grownBy w1 v.ownBlock → (v1.ownBlock = v.ownBlock ∨ ∃ b, v1.ownBlock = some b ∧ W.heap.size ≤ b) → wpList Tryd.prog ops Q rest (a.put o.dst v1) w1) :
    wpList Tryd.prog ops Q (o :: rest) a W :=
  Kd.R_append_rows KDg base hgd s x 28 40 (.agg (Nm Z32).toArray) 32 ho Tryd.underlying28 infoDg (by rfl) (by decide) (by decide) v xs ys A m c (fun _ => True) (fun _ => False) hs hx HO HR (fun _ _ h => h) (fun _ h => h.elim) (fun _ _ => trivial) HB hbase hl h
end
theorem rd_one {w : World} {g T : Nat} {nm : List Int} (h : w.heap[g]? = some (.cells (Nm nm).toArray T (0, 0))) (hn : nm.length = 32) : RdD w (some ⟨g, 0, none⟩) 1 [nm] := by
  refine ⟨rfl, by omega, fun _ => ⟨_, rfl, fun j p hj => ?_⟩⟩
  cases j with
  | succ j => simp at hj
  | zero =>
    obtain rfl := Option.some.inj hj
    refine ⟨Nm nm, Nm_len32 hn, ⟨hn, rfl⟩, fun i u hu => ?_⟩
    rw [show KDg.sz = 32 from rfl, Nat.zero_mul, Nat.zero_add, add_plain, blk_cell h, List.getElem?_toArray]
    exact hu
/-- The cells of one that is wanted, in a block of its own. -/
theorem four_cells {w : World} {g T : Nat} {nm : List Int} {a b c d : Value} {fr : Nat × Nat} (h : w.heap[g]? = some (.cells (Nm nm ++ [a, b, c, d]).toArray T fr)) (hn : nm.length = 32) :
    w.cell? ⟨g, 32, none⟩ = some a ∧ w.cell? ⟨g, 33, none⟩ = some b ∧ w.cell? ⟨g, 34, none⟩ = some c ∧ w.cell? ⟨g, 35, none⟩ = some d ∧ w.rangeAt g 0 (Nm nm) := by
  obtain ⟨h0, h1, h2, h3, h4⟩ := four_at nm a b c d hn
  have hc := fun j => cell_of_row w g j _ T fr h
  refine ⟨?_, ?_, ?_, ?_, fun j u hu => ?_⟩
  · rw [hc, List.getElem?_toArray]; exact h0
  · rw [hc, List.getElem?_toArray]; exact h1
  · rw [hc, List.getElem?_toArray]; exact h2
  · rw [hc, List.getElem?_toArray]; exact h3
  · rw [hc, Nat.zero_add, List.getElem?_toArray]; exact h4 j u hu
theorem four_dig {w : World} {g T : Nat} {nm : List Int} {a b c d : Value} {fr : Nat × Nat} (h : w.heap[g]? = some (.cells (Nm nm ++ [a, b, c, d]).toArray T fr)) (hn : nm.length = 32) :
    (Instr.loadAt 40 (.pointer (some ⟨g, 0, none⟩))).run Tryd.prog w = .ok (.agg (Nm nm).toArray) w :=
  run_loadAt_mid _ _ 0 _ (Nm nm) _ (four_cells h hn).2.2.2.2 Tryd.underlying40 rfl (size_d nm hn)
theorem p_dig {w : World} {g T : Nat} {x : Wt} {fr : Nat × Nat} (h : w.heap[g]? = some (.cells (pcells x).toArray T fr)) (hn : x.nm.length = 32) :
    (Instr.loadAt 40 (.pointer (some ⟨g, 0, none⟩))).run Tryd.prog w = .ok (.agg (Nm x.nm).toArray) w := four_dig h hn
theorem p_cells {w : World} {g T : Nat} {x : Wt} {fr : Nat × Nat} (h : w.heap[g]? = some (.cells (pcells x).toArray T fr)) (hn : x.nm.length = 32) :
    w.cell? ⟨g, 32, none⟩ = some (.bool (x.st == 2)) ∧ w.cell? ⟨g, 33, none⟩ = some (.int .i64 x.asks) ∧ w.cell? ⟨g, 34, none⟩ = some (.int .i64 x.seq) ∧ w.cell? ⟨g, 35, none⟩ = some (.int .i64 x.due) := by
  obtain ⟨a, b, c, d, _⟩ := four_cells h hn
  exact ⟨a, b, c, d⟩
/-- A client in memory: its block, its timeout's, its row of its own. -/
def Cc (c : Cl) (v : Value) (tb : Nat) : Array Value := #[v, .int .i64 c.window, .int .i64 c.tries, .int .i64 c.seq, .func (.func 59) #[] #[.pointer (some ⟨tb, 0, none⟩)], .int .i64 c.e]
structure PCl (w : World) (B g tb : Nat) (c : Cl) (v : Value) : Prop where
  blk : w.heap[g]? = some (.cells (Cc c v tb) 85 (0, 0))
  tim : w.heap[tb]? = some (.cells #[.int .i64 c.timeout] 3 (0, 0))
  own : OwP w B v c.L
  hg : B ≤ g
  ht : B ≤ tb
theorem PCl.below {w w1 : World} {B g tb : Nat} {c : Cl} {v : Value} (h : PCl w B g tb c v) (k : Below w.heap.size w w1) : PCl w1 B g tb c v :=
  ⟨Later.heap k h.blk, Later.heap k h.tim, Kd.R_below h.own k, h.hg, h.ht⟩
theorem PCl.reads {w : World} {B g tb : Nat} {c : Cl} {v : Value} (h : PCl w B g tb c v) : ∃ A cp, v = .slice A c.L.length cp ∧ c.L.length ≤ cp ∧ RdP w A c.L.length c.L := Kd.R_reads h.own
theorem PCl.cells {w : World} {B g tb : Nat} {c : Cl} {v : Value} (h : PCl w B g tb c v) :
    w.cell? ⟨g, 0, none⟩ = some v ∧ w.cell? ⟨g, 1, none⟩ = some (.int .i64 c.window) ∧ w.cell? ⟨g, 2, none⟩ = some (.int .i64 c.tries) ∧ w.cell? ⟨g, 3, none⟩ = some (.int .i64 c.seq) ∧
    w.cell? ⟨g, 4, none⟩ = some (.func (.func 59) #[] #[.pointer (some ⟨tb, 0, none⟩)]) ∧ w.cell? ⟨g, 5, none⟩ = some (.int .i64 c.e) ∧ w.cell? ⟨tb, 0, none⟩ = some (.int .i64 c.timeout) := by
  refine ⟨?_, ?_, ?_, ?_, ?_, ?_, ?_⟩
  case _ => rw [blk_cell h.blk]; rfl
  case _ => rw [blk_cell h.blk]; rfl
  case _ => rw [blk_cell h.blk]; rfl
  case _ => rw [blk_cell h.blk]; rfl
  case _ => rw [blk_cell h.blk]; rfl
  case _ => rw [blk_cell h.blk]; rfl
  case _ => rw [blk_cell h.tim]; rfl
/-- Who looks for a name. -/
theorem find1_calls (x : Wt) (nm : List Int) (q : Nat) (C : Array Value) (w : World) (hC : C = (pcells x).toArray) (hx : x.nm.length = 32) (hn : nm.length = 32) (hq : w.heap[q]? = some (.cells (Nm nm).toArray 40 (0, 0))) :
    Calls Tryd.prog 67 #[.agg C, .pointer (some ⟨q, 0, none⟩)] w fun e w' => e = .returned (.bool (decide (x.nm = nm))) ∧ Below w.heap.size w w' := by
  have HF : Aside0 ((w.alloc (.cells C 87)).heap[w.heap.size]? = some (.cells (pcells x).toArray 87 (0, 0))) := ⟨by rw [hC]; exact blk_new w _⟩
  have HQ : Aside0 ((w.alloc (.cells C 87)).heap[q]? = some (.cells (Nm nm).toArray 40 (0, 0))) := ⟨Later.heap (below_alloc (Below.refl _ w) _) hq⟩
  have hgd : Tryd.prog.eqGuardType Tryd.prog.depth 40 = false := by kernel_rfl
  have HX := Aside0.mk hx
  have HN := Aside0.mk hn
  clear hC hq hx hn
  go_enter Tryd.func67, Tryd.ntmps67
  go_wp2_with (first
    | ((with_reducible refine at_ld 40 (.tmp 4) ?_); refine load_arm rfl 40 (.tmp 4) rfl rfl (p_dig HF.out HX.out) ?_; simp only [Act.put, List.setIfInBounds_toArray, List.set_cons_zero, List.set_cons_succ])
    | ((with_reducible refine at_ld 40 (.tmp 1) ?_); refine load_arm rfl 40 (.tmp 1) rfl rfl (ld_row HQ.out 40 _ Tryd.underlying40 rfl (by rw [List.size_toArray]; exact size_d nm HN.out)) ?_; simp only [Act.put, List.setIfInBounds_toArray, List.set_cons_zero, List.set_cons_succ])
    | ((with_reducible refine at_bin .eql 40 ?_); refine val_arm (v := (.bool (decide (x.nm = nm)))) (by rfl) (bin_run .eql 40 (.tmp 5) (.tmp 6) 40 rfl (p := (.agg (Nm x.nm).toArray)) (q := (.agg (Nm nm).toArray)) rfl rfl (run_eqGuard_agg _ .eql _ _ _ _ _ hgd) (d_eql HX.out HN.out)) ?_)
    | fail)
  go_ret
  exact ⟨rfl, below_alloc (Below.refl _ w) _⟩
set_option maxRecDepth 20000 in
theorem ifn1_calls (A : Option Addr) (n cp : Nat) (xs : List Wt) (p : Wt → Bool) (K : Array Value) (w : World) (h : RdP w A n xs) (hn : n ≤ 1048576)
    (hF : ∀ x ∈ xs, ∀ W, Below w.heap.size w W → Calls Tryd.prog 67 (#[.agg (pcells x).toArray] ++ K) W fun e W' => e = .returned (.bool (p x)) ∧ Below W.heap.size W W') :
    Calls Tryd.prog 66 #[.slice A n cp, .func (.func 67) #[] K] w fun e w' => e = .returned (.int .i64 (fst p xs)) ∧ Below w.heap.size w w' := by
  have HX := Aside0.mk h
  obtain rfl : xs.length = n := h.1
  have HF := Aside0.mk hF
  clear h hF
  go_enter Tryd.func66, Tryd.ntmps66
  go_wp2
  go_loopw [5, 8] (fun _ i wr => ∃ k : Nat, k ≤ xs.length ∧ i = .int .i64 k ∧ (∀ x ∈ xs.take k, p x = false) ∧ Below w.heap.size w wr) (fun _ i _ => xs.length - (intOf i).toNat)
  case atStart => exact ⟨0, Nat.zero_le _, rfl, (fun x hx => by simp at hx), Below.refl _ _⟩
  case round =>
    obtain ⟨k, hk, rfl, hT, hB⟩ := hrel
    have HB := Aside0.mk hB
    have HT := Aside0.mk hT
    clear hB hT
    by_cases hlt : k < xs.length
    · obtain ⟨ad, rfl, hx32, hxc⟩ := kf_at (Kd.C_below HX.out HB.out) default k hlt
      have HXC := Aside0.mk hxc
      have HX32 := Aside0.mk hx32
      have HC : Aside0 (Calls Tryd.prog 67 (#[.agg (pcells (xs.getD k default)).toArray] ++ K) wr fun e W' => e = .returned (.bool (p (xs.getD k default))) ∧ Below wr.heap.size wr W') := ⟨HF.out _ (by rw [List.getD_eq_getElem?_getD, List.getElem?_eq_getElem hlt]; exact List.getElem_mem _) wr HB.out⟩
      have HS : Aside0 (p (xs.getD k default) = true → fst p xs = k) := ⟨fun h => fst_some hlt HT.out h⟩
      have HN : Aside0 (p (xs.getD k default) = false → ∀ x ∈ xs.take (k + 1), p x = false) := ⟨fun h x hx => by
        rw [List.take_add_one, List.getElem?_eq_getElem hlt] at hx
        rcases List.mem_append.1 hx with hx | hx
        · exact HT.out x hx
        · rw [List.getD_eq_getElem?_getD, List.getElem?_eq_getElem hlt] at h
          rw [List.mem_singleton.1 hx]; exact h⟩
      generalize xs.getD k default = X at *
      clear hxc hx32
      rcases hp : p X with _ | _
      · have HN := Aside0.mk (HN.out hp)
        rw [hp] at HC
        clear hp HS
        go_wp2_with (first
          | ((with_reducible refine at_ld 87 (.tmp 14) ?_); refine load_arm rfl 87 (.tmp 14) rfl rfl (ld_elem HXC.out 87 _ Tryd.underlying87 rfl (size_p HX32.out)) ?_; simp only [Act.put, List.setIfInBounds_toArray, List.set_cons_zero, List.set_cons_succ])
          | (go_at_call 67; refine (HC.out).mono ?_; rintro e w1 ⟨rfl, hB1⟩; have HB1 : Aside0 (Below w.heap.size w w1) := ⟨below_tr HB.out hB1 HB.out.size⟩; clear hB1)
          | fail)
        go_roundw
        case rel => exact ⟨k + 1, by omega, by go_num, HN.out, HB1.out⟩
        case measure => simp [intOf]; omega
      · have HS := Aside0.mk (HS.out hp)
        rw [hp] at HC
        clear hp HN
        go_wp2_with (first
          | ((with_reducible refine at_ld 87 (.tmp 14) ?_); refine load_arm rfl 87 (.tmp 14) rfl rfl (ld_elem HXC.out 87 _ Tryd.underlying87 rfl (size_p HX32.out)) ?_; simp only [Act.put, List.setIfInBounds_toArray, List.set_cons_zero, List.set_cons_succ])
          | (go_at_call 67; refine (HC.out).mono ?_; rintro e w1 ⟨rfl, hB1⟩; have HB1 : Aside0 (Below w.heap.size w w1) := ⟨below_tr HB.out hB1 HB.out.size⟩; clear hB1)
          | fail)
        go_ret
        exact ⟨by rw [HS.out]; rfl, HB1.out⟩
    · obtain rfl : k = xs.length := by omega
      have HS : Aside0 (fst p xs = -1) := ⟨fst_none (fun x hx => HT.out x (by rw [List.take_length]; exact hx))⟩
      go_wp2
      go_ret
      exact ⟨by rw [HS.out]; rfl, HB.out⟩
end Go.Proofs.YtnkkjmbpopodlaaDoor
namespace Go.Proofs.YtnkkjmbpopodlaaDoor
open Go.Proofs.YtnkkjmbpopodlaaDoorW.PrintLast (i64_w i32_w)
open Go.RowKit Go.Proofs.YtnkkjmbpopodlaaDoorW.PrintWords Go.Proofs.YtnkkjmbpopodlaaDoorW.PrintMore
set_option linter.unusedVariables false
set_option linter.unusedSimpArgs false
/-- A row's block. -/
def gOf : Value → Nat
  | .slice (some ad) _ _ => ad.block
  | _ => 0
theorem own_form {w : World} {B : Nat} {v : Value} {L : List Wt} (h : OwP w B v L) (hp : 0 < L.length) : ∃ cp, v = .slice (some ⟨gOf v, 0, none⟩) L.length cp ∧ L.length ≤ cp ∧ B ≤ gOf v ∧ gOf v < w.heap.size := by
  obtain ⟨g, cap, rfl, h1, h2, h3⟩ := Kd.R_form h hp
  obtain ⟨A, c, e, h4, _⟩ := Kd.R_reads h
  injection e with _ _ e3
  exact ⟨cap, rfl, by omega, h1, h2⟩
/-- An element's cells. -/
theorem own_cells {w : World} {B : Nat} {v : Value} {L : List Wt} (h : OwP w B v L) {i : Nat} (hi : i < L.length) :
    w.cell? ⟨gOf v, i * 36 + 32, none⟩ = some (.bool ((wd L i).st == 2)) ∧ w.cell? ⟨gOf v, i * 36 + 33, none⟩ = some (.int .i64 (wd L i).asks) ∧ w.cell? ⟨gOf v, i * 36 + 34, none⟩ = some (.int .i64 (wd L i).seq) ∧ w.cell? ⟨gOf v, i * 36 + 35, none⟩ = some (.int .i64 (wd L i).due) ∧
    w.rangeAt (gOf v) (i * 36) (Nm (wd L i).nm) ∧ (wd L i).nm.length = 32 ∧ w.rangeAt (gOf v) (i * 36) (pcells (wd L i)) ∧ ∀ j, w.frozen? ⟨gOf v, i * 36 + j, none⟩ = false := by
  obtain ⟨cp, hv, _⟩ := own_form h (by omega)
  generalize gOf v = gr at *
  subst hv
  obtain ⟨_, _, e, h4, hr⟩ := Kd.R_reads h
  injection e with e1 _ _
  obtain ⟨ad, e2, hx32, hxc⟩ := kf_at hr default i hi
  rw [← e1] at e2
  obtain rfl := Option.some.inj e2
  have hc : ∀ j u, (pcells (wd L i))[j]? = some u → w.cell? ⟨gr, i * 36 + j, none⟩ = some u := fun j u hu => by
    have := hxc j u hu
    rwa [Addr.add_mid, Nat.zero_add] at this
  obtain ⟨a0, a1, a2, a3, a4⟩ := four_at (wd L i).nm (.bool ((wd L i).st == 2)) (.int .i64 (wd L i).asks) (.int .i64 (wd L i).seq) (.int .i64 (wd L i).due) hx32
  obtain ⟨_, _, _, _, hfz⟩ := Kd.R_elem h default (i : Int) (by omega) (by omega)
  rw [Int.toNat_natCast] at hfz
  exact ⟨hc _ _ a0, hc _ _ a1, hc _ _ a2, hc _ _ a3, fun j u hu => hc _ _ (a4 j u hu), hx32, fun j u hu => hc _ _ hu, hfz⟩
/-- A pointer to one; nil, where there is none. -/
def ptr (v : Value) (i : Int) : Value := .pointer (if i < 0 then none else some ⟨gOf v, i.toNat * 36, none⟩)
theorem ptr_no {v : Value} {i : Int} (h : i < 0) : ptr v i = .pointer none := by unfold ptr; rw [if_pos h]
theorem ptr_at {v : Value} {i : Int} (h : ¬ i < 0) : ptr v i = .pointer (some ⟨gOf v, i.toNat * 36, none⟩) := by unfold ptr; rw [if_neg h]
set_option maxRecDepth 20000 in
theorem find_calls (B g tb : Nat) (c : Cl) (v : Value) (nm : List Int) (C : Array Value) (w : World) (h : PCl w B g tb c v) (hC : C = (Nm nm).toArray) (hn : nm.length = 32) (hl : c.L.length ≤ 1048576) :
    Calls Tryd.prog 41 #[.pointer (some ⟨g, 0, none⟩), .agg C] w fun e w' => e = .returned (ptr v (fnd c.L nm)) ∧ Below w.heap.size w w' := by
  obtain ⟨w1, hw1⟩ : ∃ w1, w1 = w.alloc (.cells C 40) := ⟨_, rfl⟩
  have HQ : Aside0 (w1.heap[w.heap.size]? = some (.cells (Nm nm).toArray 40 (0, 0))) := ⟨by rw [hw1, hC]; exact blk_new w _⟩
  have HB : Aside0 (Below w.heap.size w w1) := ⟨by rw [hw1]; exact below_alloc (Below.refl _ w) _⟩
  have HP := Aside0.mk (h.below HB.out)
  obtain ⟨A, cp, hv, hcp, hr⟩ := HP.out.reads
  obtain ⟨q0, q1, q2, q3, q4, q5, q6⟩ := HP.out.cells
  have HF : Aside0 (∀ W, Below w1.heap.size w1 W → Calls Tryd.prog 66 #[.slice A c.L.length cp, .func (.func 67) #[] #[.pointer (some ⟨w.heap.size, 0, none⟩)]] W fun e w' => e = .returned (.int .i64 (fnd c.L nm)) ∧ Below W.heap.size W w') := ⟨fun W hW =>
    ifn1_calls A c.L.length cp c.L (fun x => decide (x.nm = nm)) #[.pointer (some ⟨w.heap.size, 0, none⟩)] W (Kd.C_below hr hW) hl fun x hx W' hW' => find1_calls x nm w.heap.size _ W' rfl (kf_all hr x hx) hn (Later.heap (Later.trans hW hW') HQ.out)⟩
  have hfr := fst_range (fun x => decide (Wt.nm x = nm)) c.L
  rw [show fst (fun x => decide (Wt.nm x = nm)) c.L = fnd c.L nm from rfl] at hfr
  have HFORM : Aside0 (¬ fnd c.L nm < 0 → A = some ⟨gOf v, 0, none⟩) := ⟨fun hf => by
    obtain ⟨cp', e, _⟩ := own_form HP.out.own (by omega)
    rw [hv] at e
    injection e with e1
    rw [hv]; exact e1⟩
  obtain ⟨gr, hgr⟩ : ∃ gr, gOf v = gr := ⟨_, rfl⟩
  rw [hgr] at HFORM
  have hpn : ∀ i, i < 0 → ptr v i = .pointer none := fun i hi => ptr_no hi
  have hpa : ∀ i, ¬ i < 0 → ptr v i = .pointer (some ⟨gr, i.toNat * 36, none⟩) := fun i hi => by rw [ptr_at hi, hgr]
  have HPN := Aside0.mk hpn
  have HPA := Aside0.mk hpa
  clear hgr hpn hpa
  obtain ⟨k, hk⟩ : ∃ k, fnd c.L nm = k := ⟨_, rfl⟩
  rw [hk] at HF hfr HFORM ⊢
  clear hk
  have hmf : ∀ (fn : Fn) (first cap : Array Value) (w : World), (Instr.makeFunc fn first cap).run Tryd.prog w = .ok (.func fn first cap) w := fun _ _ _ _ => rfl
  clear h hC hr HP
  subst hv
  go_enter Tryd.func41, Tryd.ntmps41
  go_upto_region 1 with fail
  refine at_w1 (w := w1) hw1 ?_
  clear hw1 q1 q2 q3 q4 q5 q6
  by_cases hf : k < 0
  · have HPK := Aside0.mk (HPN.out _ hf)
    go_wp2_with (first
      | (go_at_call 66; refine (HF.out w1 (Below.refl _ _)).mono ?_; rintro e w2 ⟨rfl, hB2⟩; have HB2 : Aside0 (Below w.heap.size w w2) := ⟨below_tr HB.out hB2 HB.out.size⟩; clear hB2)
      | fail)
    go_ret
    exact ⟨by rw [HPK.out]; rfl, HB2.out⟩
  · have HPK := Aside0.mk (HPA.out _ hf)
    obtain rfl := HFORM.out hf
    obtain ⟨j, rfl⟩ := Int.eq_ofNat_of_zero_le (show 0 ≤ k by omega)
    clear HFORM
    go_wp2_with (first
      | (go_at_call 66; refine (HF.out w1 (Below.refl _ _)).mono ?_; rintro e w2 ⟨rfl, hB2⟩; have HB2 : Aside0 (Below w.heap.size w w2) := ⟨below_tr HB.out hB2 HB.out.size⟩; have q0 := pw_cell_below hB2 q0; clear hB2)
      | fail)
    go_ret
    exact ⟨by rw [HPK.out]; rfl, HB2.out⟩
/-- Is one asked for? -/
theorem isa_calls (q o : Nat) (d : Bool) (k : Int) (w : World) (h1 : w.cell? ⟨q, o + 32, none⟩ = some (.bool d)) (h2 : w.cell? ⟨q, o + 33, none⟩ = some (.int .i64 k)) :
    Calls Tryd.prog 42 #[.pointer (some ⟨q, o, none⟩)] w fun e w' => e = .returned (.bool (!d && decide (0 < k))) ∧ w = w' := by
  rcases d with _ | _
  · by_cases hk : 0 < k
    · go_enter Tryd.func42, Tryd.ntmps42
      go_wp2
      go_ret
      exact ⟨by simp [hk], rfl⟩
    · go_enter Tryd.func42, Tryd.ntmps42
      go_wp2
      go_ret
      exact ⟨by simp [hk], rfl⟩
  · go_enter Tryd.func42, Tryd.ntmps42
    go_wp2
    go_ret
    exact ⟨rfl, rfl⟩
theorem Wt.ok.asked {m : Int} {x : Wt} (h : x.ok m) : (!(x.st == 2) && decide (0 < x.asks)) = (x.st == 1) := by
  obtain ⟨_, _, _, _, h5, _, h7⟩ := h
  rcases h7 with ⟨h7, h8⟩ | ⟨h7, h8⟩ | h7
  · simp [h7, h8]
  · simp [h7, h8]
  · simp [h7]
theorem built_cl (window tries : Int) (tb : Nat) : Tryd.prog.built 85 [(1, .int .i64 window), (2, .int .i64 tries), (4, .func (.func 59) #[] #[.pointer (some ⟨tb, 0, none⟩)])] = some #[.slice none 0 0, .int .i64 window, .int .i64 tries, .int .i64 0, .func (.func 59) #[] #[.pointer (some ⟨tb, 0, none⟩)], .int .i64 0] := by kernel_rfl
def inR (window timeout tries : Int) : Prop := 1 ≤ window ∧ window ≤ 8 ∧ 1 ≤ timeout ∧ timeout ≤ 1000 ∧ 1 ≤ tries ∧ tries ≤ 16
theorem PCl.new {w : World} (window timeout tries : Int) : PCl ((w.alloc (.cells #[.int .i64 timeout] 3)).alloc (.cells #[.slice none 0 0, .int .i64 window, .int .i64 tries, .int .i64 0, .func (.func 59) #[] #[.pointer (some ⟨w.heap.size, 0, none⟩)], .int .i64 0] 85)) w.heap.size (w.heap.size + 1) w.heap.size ⟨[], window, timeout, tries, 0, 0⟩ (.slice none 0 0) :=
  ⟨heap_alloc2_new w _ _, heap_alloc2_old w _ _, Kd.R_nil _ _ _ _ _, by omega, Nat.le_refl _⟩
/-- A client's row is turned. -/
theorem PCl.row {w w1 w2 : World} {B g tb : Nat} {c : Cl} {v v2 : Value} {L : List Wt} (h : PCl w B g tb c v) (hO : OwP w1 B v2 L) (hG : w.grownBy w1 v.ownBlock) (hS : SetBlk w1 w2 g (.cells (Cc c v2 tb) 85 (0, 0))) : PCl w2 B g tb { c with L := L } v2 ∧ Below B w w2 := by
  have hb : w1.heap[tb]? = some (.cells #[.int .i64 c.timeout] 3 (0, 0)) := (hG.block tb (blk_lt h.tim) (Kd.R_ne h.own h.tim (by decide))).trans h.tim
  have hg1 : w1.heap[g]? = some (.cells (Cc c v tb) 85 (0, 0)) := (hG.block g (blk_lt h.blk) (Kd.R_ne h.own h.blk (by decide))).trans h.blk
  have hne : tb ≠ g := fun e => by
    subst e
    rw [hg1] at hb
    injection hb with hb
    injection hb with _ hb
    exact absurd hb (by decide)
  refine ⟨⟨hS.at_, hS.blk hne hb, kf_move hO fun q cells hq hc => hS.else_ q (fun e => ?_), h.hg, h.ht⟩, ?_⟩
  · subst e
    rw [hg1] at hc
    injection hc with hc
    injection hc with _ hc
    exact absurd hc (by decide)
  · refine Below.trans ⟨hG.os, hG.tape, hG.output, hG.size, fun k hk => ?_⟩ (hS.below h.hg)
    have hsz := blk_lt h.blk
    have := h.hg
    refine hG.block k (by omega) (fun e => ?_)
    rcases Kd.R_base2 h.own with h2 | ⟨q, h2, hq⟩
    · rw [h2] at e; cases e
    · rw [h2] at e; injection e with e; omega
set_option maxRecDepth 20000 in
set_option maxHeartbeats 3200000 in
theorem new_ok (A : Option Addr) (n cp : Nat) (ns : List (List Int)) (window timeout tries : Int) (w : World) (h : RdD w A n ns) (hn : n ≤ 1024) (hr : inR window timeout tries) :
    Calls Tryd.prog 31 #[.slice A n cp, .int .i64 window, .int .i64 timeout, .int .i64 tries] w fun e w' => ∃ g tb v, e = .returned (.tuple #[.pointer (some ⟨g, 0, none⟩), .int .i64 0]) ∧ PCl w' w.heap.size g tb ⟨newL [] ns, window, timeout, tries, 0, 0⟩ v ∧ Below w.heap.size w w' := by
  have HX := Aside0.mk h
  obtain rfl : ns.length = n := h.1
  have HR := Aside0.mk hr
  have hmf : ∀ (fn : Fn) (first cap : Array Value) (w : World), (Instr.makeFunc fn first cap).run Tryd.prog w = .ok (.func fn first cap) w := fun _ _ _ _ => rfl
  obtain ⟨r1, r2, r3, r4, r5, r6⟩ := hr
  have e1 : ¬ window < 1 := by omega
  have e2 : ¬ 8 < window := by omega
  have e3 : ¬ timeout < 1 := by omega
  have e4 : ¬ 1000 < timeout := by omega
  have e5 : ¬ tries < 1 := by omega
  have e6 : ¬ 16 < tries := by omega
  obtain ⟨w1, hw1⟩ : ∃ w1, w1 = (w.alloc (.cells #[.int .i64 timeout] 3)).alloc (.cells #[.slice none 0 0, .int .i64 window, .int .i64 tries, .int .i64 0, .func (.func 59) #[] #[.pointer (some ⟨w.heap.size, 0, none⟩)], .int .i64 0] 85) := ⟨_, rfl⟩
  have HP0 : Aside0 (PCl w1 w.heap.size (w.heap.size + 1) w.heap.size ⟨[], window, timeout, tries, 0, 0⟩ (.slice none 0 0)) := ⟨by rw [hw1]; exact PCl.new window timeout tries⟩
  have HB0 : Aside0 (Below w.heap.size w w1) := ⟨by rw [hw1]; exact ((Below.refl _ _).alloc (Nat.le_refl _) _).alloc (by simp) _⟩
  clear h r1 r2 r3 r4 r5 r6
  go_enter Tryd.func31, Tryd.ntmps31
  go_upto_region 5 with (first | ((with_reducible refine at_bd 85 ?_); refine build_arm rfl 85 _ rfl (built_cl window tries w.heap.size) ?_; simp only [Act.put, List.setIfInBounds_toArray, List.set_cons_zero, List.set_cons_succ]) | fail)
  refine at_w1 (w := w1) hw1 ?_
  clear hw1 e1 e2 e3 e4 e5 e6
  generalize w.heap.size + 1 = g at *
  go_loopw [12, 42] (fun _ i wr => ∃ (k : Nat) (v : Value), k ≤ ns.length ∧ i = .int .i64 k ∧ PCl wr w.heap.size g w.heap.size ⟨newL [] (ns.take k), window, timeout, tries, 0, 0⟩ v ∧ Below w.heap.size w wr) (fun _ i _ => ns.length - (intOf i).toNat)
  case atStart => exact ⟨0, _, Nat.zero_le _, rfl, HP0.out, HB0.out⟩
  case round =>
    obtain ⟨k, v, hk, rfl, hP, hB⟩ := hrel
    have HP := Aside0.mk hP
    have HB := Aside0.mk hB
    clear hP hB HP0 HB0
    by_cases hlt : k < ns.length
    · obtain ⟨ad, rfl, hx32, hxc⟩ := kf_at (Kd.C_below HX.out HB.out) [] k hlt
      have HXC := Aside0.mk hxc
      have HX32 := Aside0.mk hx32
      have HT := Aside0.mk (newL_take hlt)
      have hll : (newL [] (ns.take k)).length ≤ 1024 := by
        have := newL_len [] (ns.take k)
        rw [List.length_take] at this
        simp only [List.length_nil] at this
        omega
      generalize ns.getD k [] = X at *
      generalize newL [] (ns.take k) = L at *
      have HFI : Aside0 (∀ W, Below wr.heap.size wr W → Calls Tryd.prog 41 #[.pointer (some ⟨g, 0, none⟩), .agg (Nm X).toArray] W fun e w' => e = .returned (ptr v (fnd L X)) ∧ Below W.heap.size W w') := ⟨fun W hW => find_calls w.heap.size g w.heap.size ⟨L, window, timeout, tries, 0, 0⟩ v X _ W (HP.out.below hW) rfl HX32.out (by show L.length ≤ _; omega)⟩
      clear hxc hx32
      by_cases hf : fnd L X < 0
      · rw [if_pos hf] at HT
        rw [ptr_no hf] at HFI
        clear hf
        go_upto_region 8 with (first
          | ((with_reducible refine at_ld 40 (.tmp 44) ?_); refine load_arm rfl 40 (.tmp 44) rfl rfl (ld_elem HXC.out 40 _ Tryd.underlying40 rfl (size_d X HX32.out)) ?_; simp only [Act.put, List.setIfInBounds_toArray, List.set_cons_zero, List.set_cons_succ])
          | ((with_reducible refine at_al 40 ?_); refine new_dg rfl rfl rfl rfl (.tmp 45) rfl (of_decide_eq_true rfl) rfl HX32.out ?_; rintro w2 g2 N2; have HN2 := Aside0.mk N2; clear N2)
          | ((with_reducible refine at_ld (w := w2) 40 (.tmp 12) ?_); refine load_arm rfl 40 (.tmp 12) rfl rfl (ld_row HN2.out.at_ 40 _ Tryd.underlying40 rfl (by rw [List.size_toArray]; exact size_d X HX32.out)) ?_; simp only [Act.put, List.setIfInBounds_toArray, List.set_cons_zero, List.set_cons_succ])
          | (go_at_call 41; refine (HFI.out w2 HN2.out.below).mono ?_; rintro e w3 ⟨rfl, hB3⟩; have HB3 := Aside0.mk hB3; clear hB3)
          | fail)
        have HP3 : Aside0 (PCl w3.drew w.heap.size g w.heap.size ⟨L, window, timeout, tries, 0, 0⟩ v) := ⟨HP.out.below (Below.drew (Later.trans HN2.out.below HB3.out))⟩
        have HN3 : Aside0 (w3.drew.heap[g2]? = some (.cells (Nm X).toArray 40 (0, 0))) := ⟨(Later.heap HB3.out HN2.out.at_ : w3.heap[g2]? = _)⟩
        have HB4 : Aside0 (Below w.heap.size w w3.drew) := ⟨HB.out.trans (Below.mono (Below.drew (Later.trans HN2.out.below HB3.out)) HB.out.size)⟩
        clear HB3 HN2
        obtain ⟨VA, vc, rfl, hvc, -⟩ := Kd.R_reads HP3.out.own
        refine seq_startN [8, 11] (.pure 0 (.take 1 (.take 2 (.take 3 (.take 4 (.take 5 (.take 6 (.run 7 (.run 8 (.take 9 (.take 10 (.run 11 .done)))))))))))) (by kernel_rfl) (by kernel_rfl) ?_
        refine seq_pure (v := ?_) (a' := ?_) rfl rfl (by rfl) (fun w' => ?_) ?_ ?_
        rotate_left 2
        · go_simp
          with_reducible rfl
        · simp only [Act.put, List.setIfInBounds_toArray, List.set_cons_zero, List.set_cons_succ, i64_w, i32_w]
          rfl
        refine seq_take (v := ?_) (a' := ?_) rfl rfl (by rfl) (fun w' hw' => ?_) ?_ ?_
        rotate_left 2
        · go_simp
          with_reducible rfl
        · simp only [Act.put, List.setIfInBounds_toArray, List.set_cons_zero, List.set_cons_succ, i64_w, i32_w]
          rfl
        refine seq_take (v := ?_) (a' := ?_) rfl rfl (by rfl) (fun w' hw' => ?_) ?_ ?_
        rotate_left 2
        · go_simp
          with_reducible rfl
        · simp only [Act.put, List.setIfInBounds_toArray, List.set_cons_zero, List.set_cons_succ, i64_w, i32_w]
          rfl
        refine seq_take (v := ?_) (a' := ?_) rfl rfl (by rfl) (fun w' hw' => ?_) ?_ ?_
        rotate_left 2
        · go_simp
          with_reducible rfl
        · simp only [Act.put, List.setIfInBounds_toArray, List.set_cons_zero, List.set_cons_succ, i64_w, i32_w]
          rfl
        refine seq_take (v := ?_) (a' := ?_) rfl rfl (by rfl) (fun w' hw' => ?_) ?_ ?_
        rotate_left 2
        · obtain ⟨q0, q1, q2, q3, q4, q5, q6⟩ := (HP3.out.below hw').cells; go_simp
          with_reducible rfl
        · simp only [Act.put, List.setIfInBounds_toArray, List.set_cons_zero, List.set_cons_succ, i64_w, i32_w]
          rfl
        refine seq_take (v := _) (a' := ?_) rfl rfl (by rfl) (fun w' hw' => load_run rfl rfl (ld_row (Later.heap hw' HN3.out) 40 _ Tryd.underlying40 rfl (by rw [List.size_toArray]; exact size_d X HX32.out))) ?_ ?_
        rotate_left
        · simp only [Act.put, List.setIfInBounds_toArray, List.set_cons_zero, List.set_cons_succ, i64_w, i32_w]
          rfl
        refine seq_take (v := _) (a' := ?_) rfl rfl (by rfl) (fun w' hw' => build_run 87 #[(0, .tmp 55)] rfl (built_p X HX32.out)) ?_ ?_
        rotate_left
        · simp only [Act.put, List.setIfInBounds_toArray, List.set_cons_zero, List.set_cons_succ, i64_w, i32_w]
          rfl
        refine seq_run ?_
        refine do_val (v := _) (a' := ?_) (w1 := _) rfl rfl (by rfl) (row1_exec #[(0, .tmp 56)] rfl Tryd.underlying77 infoP (pcells (Wt.new X)) (pcells_len HX32.out) (by decide) (by decide) rfl) ?_ ?_
        rotate_left
        · simp only [Act.put, List.setIfInBounds_toArray, List.set_cons_zero, List.set_cons_succ, i64_w, i32_w]
          rfl
        refine ⟨fun _ => below_alloc (Below.refl _ _) _, ?_⟩
        refine seq_run ?_
        refine do_appR KP (w0 := w3.drew) (W := w3.drew) w.heap.size rfl rfl (by rfl) (.tmp 54) (.tmp 57) 77 87 zP 64 rfl Tryd.underlying77 infoP zP_size (by decide) (by decide) (.slice VA L.length vc) L (Wt.new X) (pcells (Wt.new X)) rfl rfl ⟨HX32.out, rfl⟩ HP3.out.own (Below.refl _ _) HB4.out.size (by omega) ?_
        intro v2 w4 hO2 hB2 hG2 hAt2
        refine ⟨fun h => absurd (by simp) h, ?_⟩
        have hgb : w4.heap[g]? = some (.cells (Cc ⟨L, window, timeout, tries, 0, 0⟩ (.slice VA L.length vc) w.heap.size) 85 (0, 0)) := (hG2.block g (blk_lt HP3.out.blk) (Kd.R_ne HP3.out.own HP3.out.blk (by decide))).trans HP3.out.blk
        obtain ⟨WA, wcc, rfl, -, -⟩ := Kd.R_reads hO2
        rw [show (L ++ [Wt.new X]).length = L.length + 1 by simp] at hO2 ⊢
        have hc0 : w4.cell? ⟨g, 0, none⟩ = some (.slice VA L.length vc) := by rw [blk_cell hgb]; rfl
        have hf0 : w4.frozen? ⟨g, 0, none⟩ = false := blk_frozen hgb 0
        have HS2 : Aside0 (SetBlk w4 (w4.setCell ⟨g, 0, none⟩ (.slice WA (L.length + 1) wcc)) g (.cells (Cc ⟨L, window, timeout, tries, 0, 0⟩ (.slice WA (L.length + 1) wcc) w.heap.size) 85 (0, 0))) := ⟨setBlk_cell (i := 0) hgb _⟩
        have HO2 := Aside0.mk hO2
        have HG2 := Aside0.mk hG2
        clear hO2 hG2 hB2 hAt2 hgb
        refine seq_take (v := ?_) (a' := ?_) rfl rfl (by rfl) (fun w' hw' => ?_) ?_ ?_
        rotate_left 2
        · go_simp
          with_reducible rfl
        · simp only [Act.put, List.setIfInBounds_toArray, List.set_cons_zero, List.set_cons_succ, i64_w, i32_w]
          rfl
        refine seq_take (v := ?_) (a' := ?_) rfl rfl (by rfl) (fun w' hw' => ?_) ?_ ?_
        rotate_left 2
        · go_simp
          with_reducible rfl
        · simp only [Act.put, List.setIfInBounds_toArray, List.set_cons_zero, List.set_cons_succ, i64_w, i32_w]
          rfl
        refine seq_run ?_
        refine do_store (w1 := ?_) rfl rfl (by rfl) ?_ ?_
        rotate_left
        · go_simp
          rfl
        refine ⟨fun h => absurd (by simp) h, ?_⟩
        refine seq_endN ?_
        have HPN := Aside0.mk (HP3.out.row HO2.out HG2.out HS2.out)
        go_wp2
        go_roundw
        case rel => exact ⟨k + 1, _, by omega, by go_num, by rw [HT.out]; exact HPN.out.1, HB4.out.trans HPN.out.2⟩
        case measure => simp [intOf]; omega
      · rw [if_neg hf] at HT
        rw [ptr_at hf] at HFI
        clear hf
        go_wp2_with (first
          | ((with_reducible refine at_ld 40 (.tmp 44) ?_); refine load_arm rfl 40 (.tmp 44) rfl rfl (ld_elem HXC.out 40 _ Tryd.underlying40 rfl (size_d X HX32.out)) ?_; simp only [Act.put, List.setIfInBounds_toArray, List.set_cons_zero, List.set_cons_succ])
          | ((with_reducible refine at_al 40 ?_); refine new_dg rfl rfl rfl rfl (.tmp 45) rfl (of_decide_eq_true rfl) rfl HX32.out ?_; rintro w2 g2 N2; have HN2 := Aside0.mk N2; clear N2)
          | ((with_reducible refine at_ld (w := w2) 40 (.tmp 12) ?_); refine load_arm rfl 40 (.tmp 12) rfl rfl (ld_row HN2.out.at_ 40 _ Tryd.underlying40 rfl (by rw [List.size_toArray]; exact size_d X HX32.out)) ?_; simp only [Act.put, List.setIfInBounds_toArray, List.set_cons_zero, List.set_cons_succ])
          | (go_at_call 41; refine (HFI.out w2 HN2.out.below).mono ?_; rintro e w3 ⟨rfl, hB3⟩; have HB3 := Aside0.mk hB3; clear hB3)
          | fail)
        go_roundw
        case rel => exact ⟨k + 1, v, by omega, by go_num, by rw [HT.out]; exact HP.out.below (Later.trans HN2.out.below HB3.out), HB.out.trans (Below.mono (Later.trans HN2.out.below HB3.out) HB.out.size)⟩
        case measure => simp [intOf]; omega
    · obtain rfl : k = ns.length := by omega
      have HP1 := HP.out
      rw [List.take_length] at HP1
      have HP1 := Aside0.mk HP1
      go_wp2
      go_ret2
      exact ⟨_, _, _, rfl, HP1.out, HB.out⟩
end Go.Proofs.YtnkkjmbpopodlaaDoor
namespace Go.Proofs.YtnkkjmbpopodlaaDoor
open Go.RowKit Go.Proofs.YtnkkjmbpopodlaaDoorW.PrintWords Go.Proofs.YtnkkjmbpopodlaaDoorW.PrintMore
set_option linter.unusedVariables false
set_option linter.unusedSimpArgs false
theorem leftL_take {L : List Wt} {k : Nat} (h : k < L.length) : leftL (L.take (k + 1)) = leftL (L.take k) ++ (if (wd L k).st == 2 then [] else [(wd L k).nm]) := by
  have e : L.take (k + 1) = L.take k ++ [wd L k] := by unfold wd; rw [List.take_add_one, List.getD_eq_getElem?_getD, List.getElem?_eq_getElem h]; rfl
  unfold leftL
  rw [e, List.filter_append, List.map_append]
  congr 1
  rcases hst : (wd L k).st == 2 with _ | _ <;> simp [hst, bne]
theorem leftL_len (L : List Wt) : (leftL L).length ≤ L.length := by
  unfold leftL
  rw [List.length_map]
  exact List.length_filter_le _ _
theorem askedN_take {L : List Wt} {k : Nat} (h : k < L.length) : askedN (L.take (k + 1)) = askedN (L.take k) + (if (wd L k).st == 1 then 1 else 0) := by
  have e : L.take (k + 1) = L.take k ++ [wd L k] := by unfold wd; rw [List.take_add_one, List.getD_eq_getElem?_getD, List.getElem?_eq_getElem h]; rfl
  unfold askedN
  rw [e, List.filter_append, List.length_append]
  congr 1
  rcases hst : (wd L k).st == 1 with _ | _ <;> simp [hst]
theorem askedN_len (L : List Wt) : askedN L ≤ L.length := List.length_filter_le _ _
theorem kp_at {w : World} {A : Option Addr} {n : Nat} {L : List Wt} (h : RdP w A n L) {k : Nat} (hk : k < n) : ∃ ad, A = some ad ∧ (wd L k).nm.length = 32 ∧ ∀ j u, (pcells (wd L k))[j]? = some u → w.cell? (ad.add (k * 36 + j)) = some u := kf_at h default k hk
set_option maxRecDepth 20000 in
set_option maxHeartbeats 1600000 in
theorem left_calls (B g tb : Nat) (c : Cl) (v : Value) (w : World) (h : PCl w B g tb c v) (hl : c.L.length ≤ 1048576) :
    Calls Tryd.prog 10 #[.pointer (some ⟨g, 0, none⟩)] w fun e w' => ∃ u, e = .returned u ∧ OwD w' w.heap.size u (leftL c.L) ∧ Below w.heap.size w w' := by
  obtain ⟨A, cp, rfl, hcp, hr⟩ := h.reads
  obtain ⟨q0, q1, q2, q3, q4, q5, q6⟩ := h.cells
  have HR := Aside0.mk hr
  clear h hr q1 q2 q3 q4 q5 q6
  go_enter Tryd.func10, Tryd.ntmps10
  go_wp2
  go_loopw [3, 5, 11] (fun u _ i wr => ∃ k : Nat, k ≤ c.L.length ∧ i = .int .i64 k ∧ OwD wr w.heap.size u (leftL (c.L.take k)) ∧ Below w.heap.size w wr) (fun _ _ i _ => c.L.length - (intOf i).toNat)
  case atStart => exact ⟨0, Nat.zero_le _, rfl, Kd.R_nil _ _ _ _ _, Below.refl _ _⟩
  case round =>
    obtain ⟨k, hk, rfl, hO, hB⟩ := hrel
    have HB := Aside0.mk hB
    have HO := Aside0.mk hO
    clear hB hO
    by_cases hlt : k < c.L.length
    · obtain ⟨ad, rfl, hx32, hxc⟩ := kp_at (Kd.C_below HR.out HB.out) hlt
      have HXC := Aside0.mk hxc
      have HX32 := Aside0.mk hx32
      have HT := Aside0.mk (leftL_take hlt)
      have hll : (leftL (c.L.take k)).length ≤ 1048576 := by
        have := leftL_len (c.L.take k)
        rw [List.length_take] at this
        omega
      generalize wd c.L k = X at *
      generalize leftL (c.L.take k) = R at *
      obtain ⟨VA, vc, rfl, -, -⟩ := Kd.R_reads HO.out
      clear hxc hx32
      rcases hst : X.st == 2 with _ | _
      · rw [hst] at HT
        have HL : Aside0 (leftL (c.L.take (k + 1)) = R ++ [X.nm]) := ⟨by rw [HT.out]; rfl⟩
        clear HT
        go_wp2_with (first
          | ((with_reducible refine at_ld 87 (.tmp 13) ?_); refine load_arm rfl 87 (.tmp 13) rfl rfl (ld_elem HXC.out 87 _ Tryd.underlying87 rfl (size_p HX32.out)) ?_; simp only [Act.put, List.setIfInBounds_toArray, List.set_cons_zero, List.set_cons_succ])
          | ((with_reducible refine at_al 87 ?_); refine new_p rfl rfl rfl rfl (.tmp 14) rfl (of_decide_eq_true rfl) rfl HX32.out ?_; rintro w2 g2 N2; have HN2 := Aside0.mk N2; have hc2 := (p_cells N2.at_ HX32.out).1; rw [hst] at hc2; have HB2 : Aside0 (Below w.heap.size w w2) := ⟨HB.out.trans (N2.below.mono HB.out.size)⟩; have HO2 : Aside0 (OwD w2 w.heap.size (.slice VA R.length vc) R) := ⟨Kd.R_below HO.out N2.below⟩; clear N2)
          | ((with_reducible refine at_ld (w := w2) 40 (.tmp 19) ?_); refine load_arm rfl 40 (.tmp 19) rfl rfl (p_dig HN2.out.at_ HX32.out) ?_; simp only [Act.put, List.setIfInBounds_toArray, List.set_cons_zero, List.set_cons_succ])
          | ((with_reducible refine at_bs 28 ?_); refine rows_arm rfl _ _ rfl Tryd.underlying28 (info_parts infoDg).choose_spec.1 (info_parts infoDg).choose_spec.2.1 (info_parts infoDg).choose_spec.2.2.1 [Nm X.nm] (by intro v hv; rw [List.mem_singleton.1 hv]; exact Nm_len32 HX32.out) (show 1 * 32 ≤ 2 ^ 24 by decide) (show 1 * 32 ≠ 0 by decide) rfl rfl ?_; rintro w3 g3 N3; have HO3 : Aside0 (OwD w3 w.heap.size (.slice VA R.length vc) R) := ⟨Kd.R_below HO2.out N3.below⟩; have HR3 : Aside0 (RdD w3 (some ⟨g3, 0, none⟩) 1 [X.nm]) := ⟨rd_one (by have := N3.at_; simpa using this) HX32.out⟩; have HB3 : Aside0 (Below w.heap.size w w3) := ⟨HB2.out.trans (N3.below.mono HB2.out.size)⟩; clear N3)
          | (at_builtin; (with_reducible refine at_w w3 ?_); refine appD (w0 := w) w.heap.size rfl (.tmp 18) (.tmp 21) rfl (.slice VA R.length vc) R [X.nm] (some ⟨g3, 0, none⟩) 1 1 rfl rfl HO3.out HR3.out HB3.out HB3.out.size (by omega) ?_; intro v4 w4 hO4 hB4 _ _; have HO4 := Aside0.mk hO4; have HB4 := Aside0.mk hB4; clear hO4 hB4)
          | fail)
        go_roundw
        case rel => exact ⟨k + 1, by omega, by go_num, by rw [HL.out]; exact HO4.out, HB4.out⟩
        case measure => simp [intOf]; omega
      · rw [hst] at HT
        have HL : Aside0 (leftL (c.L.take (k + 1)) = R) := ⟨by rw [HT.out]; simp⟩
        clear HT
        go_wp2_with (first
          | ((with_reducible refine at_ld 87 (.tmp 13) ?_); refine load_arm rfl 87 (.tmp 13) rfl rfl (ld_elem HXC.out 87 _ Tryd.underlying87 rfl (size_p HX32.out)) ?_; simp only [Act.put, List.setIfInBounds_toArray, List.set_cons_zero, List.set_cons_succ])
          | ((with_reducible refine at_al 87 ?_); refine new_p rfl rfl rfl rfl (.tmp 14) rfl (of_decide_eq_true rfl) rfl HX32.out ?_; rintro w2 g2 N2; have HN2 := Aside0.mk N2; have hc2 := (p_cells N2.at_ HX32.out).1; rw [hst] at hc2; have HB2 : Aside0 (Below w.heap.size w w2) := ⟨HB.out.trans (N2.below.mono HB.out.size)⟩; have HO2 : Aside0 (OwD w2 w.heap.size (.slice VA R.length vc) R) := ⟨Kd.R_below HO.out N2.below⟩; clear N2)
          | fail)
        go_roundw
        case rel => exact ⟨k + 1, by omega, by go_num, by rw [HL.out]; exact HO2.out, HB2.out⟩
        case measure => simp [intOf]; omega
    · obtain rfl : k = c.L.length := by omega
      rw [List.take_length] at HO
      go_wp2
      go_ret
      exact ⟨_, rfl, HO.out, HB.out⟩
theorem done_calls (B g tb : Nat) (c : Cl) (v : Value) (w : World) (h : PCl w B g tb c v) (hl : c.L.length ≤ 1048576) :
    Calls Tryd.prog 23 #[.pointer (some ⟨g, 0, none⟩)] w fun e w' => e = .returned (.bool (decide ((leftL c.L).length = 0))) ∧ Below w.heap.size w w' := by
  have HP := Aside0.mk h
  clear h
  obtain ⟨R, hR⟩ : ∃ R, leftL c.L = R := ⟨_, rfl⟩
  have HL : Aside0 (Calls Tryd.prog 10 #[.pointer (some ⟨g, 0, none⟩)] w fun e w' => ∃ u, e = .returned u ∧ OwD w' w.heap.size u R ∧ Below w.heap.size w w') := ⟨by rw [← hR]; exact left_calls B g tb c v w HP.out hl⟩
  rw [hR]
  clear hR
  go_enter Tryd.func23, Tryd.ntmps23
  go_wp2_with (go_at_call 10; refine HL.out.mono ?_; rintro e w1 ⟨u, rfl, hO, hB⟩; obtain ⟨A, cp, rfl, -, -⟩ := Kd.R_reads hO; have HB := Aside0.mk hB; clear hO hB)
  go_ret
  refine ⟨?_, HB.out⟩
  refine ret_bool ?_
  rw [Bool.eq_iff_iff]
  simp
theorem errno_calls (B g tb : Nat) (c : Cl) (v : Value) (w : World) (h : PCl w B g tb c v) :
    Calls Tryd.prog 22 #[.pointer (some ⟨g, 0, none⟩)] w fun e w' => e = .returned (.int .i64 c.e) ∧ w = w' := by
  obtain ⟨q0, q1, q2, q3, q4, q5, q6⟩ := h.cells
  clear h
  go_enter Tryd.func22, Tryd.ntmps22
  go_wp2
  go_ret
  exact ⟨rfl, rfl⟩
set_option maxRecDepth 20000 in
theorem asked_calls (B g tb : Nat) (c : Cl) (v : Value) (w : World) (h : PCl w B g tb c v) (hok : c.ok) :
    Calls Tryd.prog 30 #[.pointer (some ⟨g, 0, none⟩)] w fun e w' => e = .returned (.int .i64 (askedN c.L)) ∧ w = w' := by
  obtain ⟨A, cp, hv, hcp, -⟩ := h.reads
  obtain ⟨q0, q1, q2, q3, q4, q5, q6⟩ := h.cells
  have HO := Aside0.mk h.own
  have HK := Aside0.mk hok
  have hl := hok.l1
  obtain ⟨gr, hgr⟩ : ∃ gr, gOf v = gr := ⟨_, rfl⟩
  have HGR := Aside0.mk hgr
  have HA : Aside0 (0 < c.L.length → A = some ⟨gr, 0, none⟩) := ⟨fun hp => by
    obtain ⟨cp', e, _⟩ := own_form HO.out hp
    have e2 : v = .slice (some ⟨gr, 0, none⟩) c.L.length cp' := by rw [← HGR.out]; exact e
    rw [hv] at e2
    injection e2 with e1⟩
  clear h hok hgr q1 q2 q3 q4 q5 q6
  subst hv
  go_enter Tryd.func30, Tryd.ntmps30
  go_wp2
  go_loopw [3, 4, 10] (fun s _ i wr => ∃ k : Nat, k ≤ c.L.length ∧ i = .int .i64 k ∧ s = .int .i64 (askedN (c.L.take k)) ∧ w = wr) (fun _ _ i _ => c.L.length - (intOf i).toNat)
  case atStart => exact ⟨0, Nat.zero_le _, rfl, rfl, rfl⟩
  case round =>
    obtain ⟨k, hk, rfl, rfl, rfl⟩ := hrel
    by_cases hlt : k < c.L.length
    · obtain ⟨c0, c1, -⟩ := own_cells HO.out hlt
      rw [HGR.out] at c0 c1
      obtain rfl := HA.out (by omega)
      have HI : Aside0 (Calls Tryd.prog 42 #[.pointer (some ⟨gr, k * 36, none⟩)] w fun e w' => e = .returned (.bool ((wd c.L k).st == 1)) ∧ w = w') := ⟨by rw [← (HK.out.at hlt).asked]; exact isa_calls gr (k * 36) _ _ w c0 c1⟩
      have HT := Aside0.mk (askedN_take hlt)
      have hn := askedN_len (c.L.take k)
      rw [List.length_take] at hn
      generalize askedN (c.L.take k) = R at *
      clear c0 c1
      rcases hst : (wd c.L k).st == 1 with _ | _
      · rw [hst] at HT HI
        have HL : Aside0 (askedN (c.L.take (k + 1)) = R) := ⟨by rw [HT.out]; rfl⟩
        clear HT hst
        go_wp2_with (go_at_call 42; refine HI.out.mono ?_; rintro e w1 ⟨rfl, rfl⟩)
        go_roundw
        case rel => exact ⟨k + 1, by omega, by go_num, by rw [HL.out], (by simp)⟩
        case measure => simp [intOf]; omega
      · rw [hst] at HT HI
        have HL : Aside0 (askedN (c.L.take (k + 1)) = R + 1) := ⟨by rw [HT.out]; rfl⟩
        clear HT hst
        go_wp2_with (go_at_call 42; refine HI.out.mono ?_; rintro e w1 ⟨rfl, rfl⟩)
        go_roundw
        case rel => exact ⟨k + 1, by omega, by go_num, by rw [HL.out]; go_num, (by simp)⟩
        case measure => simp [intOf]; omega
    · obtain rfl : k = c.L.length := by omega
      rw [List.take_length]
      go_wp2
      go_ret
      exact ⟨rfl, rfl⟩
end Go.Proofs.YtnkkjmbpopodlaaDoor
