/- A client, by definition: what is wanted, what is askedN. Plain. -/
import Derived.Test.YtnkkjmbpopodlaaDg
import Derived.Test.YtnkkjmbpopodlaaG12
namespace Go.Proofs.Ytnkkjmbpopodlaa
open Go.RowKit Go.Proofs.YtnkkjmbpopodlaaW.PrintWords Go.Proofs.YtnkkjmbpopodlaaW.PrintMore
set_option linter.unusedVariables false
set_option linter.unusedSimpArgs false
set_option maxRecDepth 100000
/-- A digest that is wanted: 0 neither, 1 askedN for, 2 done; the last Ask's number, when it is due, how often. -/
structure Wt where
  nm : List Int
  st : Int
  seq : Int
  due : Int
  asks : Int
deriving DecidableEq, Inhabited
/-- A client. -/
structure Cl where
  L : List Wt
  window : Int
  timeout : Int
  tries : Int
  seq : Int
  e : Int
def Wt.new (nm : List Int) : Wt := ⟨nm, 0, 0, 0, 0⟩
/-- Where the first stands that is such a one; -1: there is none. -/
def fst {α : Type} (p : α → Bool) : List α → Int
  | [] => -1
  | x :: l => if p x then 0 else if fst p l < 0 then -1 else fst p l + 1
theorem fst_range {α : Type} (p : α → Bool) (l : List α) : -1 ≤ fst p l ∧ fst p l < l.length := by
  induction l with
  | nil => simp [fst]
  | cons x l ih => unfold fst; simp only [List.length_cons]; split <;> (try split) <;> omega
theorem fst_none {α : Type} {p : α → Bool} {l : List α} : (∀ x ∈ l, p x = false) → fst p l = -1 := by
  induction l with
  | nil => intro _; rfl
  | cons x l ih =>
    intro h
    unfold fst
    rw [h x (by simp), ih (fun y hy => h y (by simp [hy]))]
    rfl
theorem fst_some {α : Type} {p : α → Bool} {l : List α} {k : Nat} {d : α} (hk : k < l.length) (h : ∀ x ∈ l.take k, p x = false) (hp : p (l.getD k d) = true) : fst p l = k := by
  induction l generalizing k with
  | nil => simp at hk
  | cons x l ih =>
    unfold fst
    cases k with
    | zero =>
      rw [show p x = true from hp, if_pos rfl]; rfl
    | succ k =>
      rw [h x (by simp), ih (k := k) (by simpa using hk) (fun y hy => h y (by simp [hy])) (by simpa using hp)]
      simp
      omega
theorem fst_lt {α : Type} {p : α → Bool} {l : List α} (h : fst p l < 0) : ∀ x ∈ l, p x = false := by
  induction l with
  | nil => intro x hx; cases hx
  | cons x l ih =>
    intro y hy
    unfold fst at h
    rcases hpx : p x with _ | _
    · rw [hpx] at h
      have h2 : fst p l < 0 := by
        by_cases h3 : fst p l < 0
        · exact h3
        · simp [h3] at h; omega
      rcases List.mem_cons.1 hy with rfl | hy
      · exact hpx
      · exact ih h2 y hy
    · rw [hpx] at h; simp at h
theorem fst_at {α : Type} {p : α → Bool} {l : List α} {d : α} (h : 0 ≤ fst p l) : (fst p l).toNat < l.length ∧ p (l.getD (fst p l).toNat d) = true := by
  induction l with
  | nil => simp [fst] at h
  | cons x l ih =>
    unfold fst at h ⊢
    rcases hpx : p x with _ | _
    · simp only [hpx, Bool.false_eq_true, if_false] at h ⊢
      by_cases h3 : fst p l < 0
      · simp [h3] at h
      · simp only [h3, if_false] at h ⊢
        have := ih (by omega)
        have e : (fst p l + 1).toNat = (fst p l).toNat + 1 := by omega
        rw [e]
        exact ⟨by simpa using this.1, by simpa using this.2⟩
    · simp only [hpx, if_true]; exact ⟨by simp, hpx⟩
theorem fst_any {α : Type} (p : α → Bool) (l : List α) : decide (0 ≤ fst p l) = l.any p := by
  induction l with
  | nil => rfl
  | cons x l ih =>
    unfold fst
    rw [List.any_cons, ← ih]
    rcases hpx : p x with _ | _
    · by_cases h3 : fst p l < 0
      · simp [h3] <;> omega
      · simp [h3] <;> omega
    · simp
def fnd (L : List Wt) (nm : List Int) : Int := fst (fun x => decide (x.nm = nm)) L
def newL (L : List Wt) : List (List Int) → List Wt
  | [] => L
  | n :: ns => newL (if fnd L n < 0 then L ++ [Wt.new n] else L) ns
theorem newL_snoc (L : List Wt) (ns : List (List Int)) (n : List Int) : newL L (ns ++ [n]) = if fnd (newL L ns) n < 0 then newL L ns ++ [Wt.new n] else newL L ns := by
  induction ns generalizing L with
  | nil => rfl
  | cons m ns ih => exact ih _
theorem newL_take {ns : List (List Int)} {k : Nat} (h : k < ns.length) : newL [] (ns.take (k + 1)) = if fnd (newL [] (ns.take k)) (ns.getD k []) < 0 then newL [] (ns.take k) ++ [Wt.new (ns.getD k [])] else newL [] (ns.take k) := by
  have e : ns.take (k + 1) = ns.take k ++ [ns.getD k []] := by rw [List.take_add_one, List.getD_eq_getElem?_getD, List.getElem?_eq_getElem h]; rfl
  rw [e, newL_snoc]
theorem newL_len (L : List Wt) (ns : List (List Int)) : (newL L ns).length ≤ L.length + ns.length := by
  induction ns generalizing L with
  | nil => simp [newL]
  | cons m ns ih =>
    have := ih (if fnd L m < 0 then L ++ [Wt.new m] else L)
    unfold newL
    split at this <;> (simp at this ⊢; rename_i h; simp [h]; omega)
theorem newL_all {Q : Wt → Prop} (L : List Wt) (ns : List (List Int)) (hL : ∀ x ∈ L, Q x) (hn : ∀ n ∈ ns, Q (Wt.new n)) : ∀ x ∈ newL L ns, Q x := by
  induction ns generalizing L with
  | nil => exact hL
  | cons m ns ih =>
    refine ih _ ?_ (fun n h => hn n (by simp [h]))
    split
    · intro x hx
      rcases List.mem_append.1 hx with hx | hx
      · exact hL x hx
      · rw [List.mem_singleton.1 hx]; exact hn m (by simp)
    · exact hL
/-- One is askedN for. -/
def askW (x : Wt) (s d : Int) : Wt := ⟨x.nm, 1, s, d, x.asks + 1⟩
def wd (L : List Wt) (i : Nat) : Wt := L.getD i default
def askC (c : Cl) (i : Nat) (t : Int) : Cl := { c with seq := c.seq + 1, L := c.L.set i (askW (wd c.L i) (c.seq + 1) (t + c.timeout)) }
/-- The bytes of an Ask. -/
def askB (s : Int) (nm : List Int) : List Int := cput (wbody 1 s nm [])
/-- How many are askedN for. -/
def askedN (L : List Wt) : Nat := (L.filter fun x => x.st == 1).length
def leftL (L : List Wt) : List (List Int) := (L.filter fun x => x.st != 2).map (·.nm)
/-- Is one due? -/
def late (t : Int) (x : Wt) : Bool := x.st == 1 && decide (x.due ≤ t)
def lostC (c : Cl) (t : Int) : Bool := c.L.any fun x => late t x && decide (c.tries ≤ x.asks)
/-- The rounds of Step's loops: those that are due again; those that are not askedN for. -/
def oneC (t : Int) (b : Bool) (c : Cl) (k : Nat) : Cl := if b then askC c k t else c
def oneB (b : Bool) (c : Cl) (k : Nat) : List (List Int) := if b then [askB (c.seq + 1) (wd c.L k).nm] else []
def b1 (t : Int) (c : Cl) (k : Nat) : Bool := late t (wd c.L k)
def b2 (c : Cl) (k : Nat) : Bool := (wd c.L k).st == 0 && decide ((askedN c.L : Int) < c.window)
def p1 (t : Int) (c : Cl) : Nat → Cl × List (List Int)
  | 0 => (c, [])
  | k + 1 => (oneC t (b1 t (p1 t c k).1 k) (p1 t c k).1 k, (p1 t c k).2 ++ oneB (b1 t (p1 t c k).1 k) (p1 t c k).1 k)
def p2 (t : Int) (c : Cl) (o : List (List Int)) : Nat → Cl × List (List Int)
  | 0 => (c, o)
  | k + 1 => (oneC t (b2 (p2 t c o k).1 k) (p2 t c o k).1 k, (p2 t c o k).2 ++ oneB (b2 (p2 t c o k).1 k) (p2 t c o k).1 k)
def stepC (c : Cl) (t : Int) : Cl × List (List Int) :=
  if c.e ≠ 0 then (c, []) else if lostC c t then ({ c with e := 10 }, []) else p2 t (p1 t c c.L.length).1 (p1 t c c.L.length).2 c.L.length
/-- What holds of each that is wanted. -/
def Wt.ok (m : Int) (x : Wt) : Prop := x.nm.length = 32 ∧ Bytes x.nm ∧ 0 ≤ x.seq ∧ x.seq ≤ m ∧ 0 ≤ x.asks ∧ x.asks ≤ m ∧ (x.st = 0 ∧ x.asks = 0 ∨ x.st = 1 ∧ 0 < x.asks ∨ x.st = 2)
structure Cl.ok (c : Cl) : Prop where
  all : ∀ x ∈ c.L, x.ok c.seq
  w0 : 1 ≤ c.window
  w1 : c.window ≤ 8
  t0 : 1 ≤ c.timeout
  t1 : c.timeout ≤ 1000
  r0 : 1 ≤ c.tries
  r1 : c.tries ≤ 16
  s0 : 0 ≤ c.seq
  l1 : c.L.length ≤ 1024
theorem Wt.ok.mono {m n : Int} {x : Wt} (h : x.ok m) (hm : m ≤ n) : x.ok n := by
  obtain ⟨h1, h2, h3, h4, h5, h6, h7⟩ := h
  exact ⟨h1, h2, h3, by omega, h5, by omega, h7⟩
theorem wd_mem {L : List Wt} {i : Nat} (h : i < L.length) : wd L i ∈ L := by
  unfold wd
  rw [List.getD_eq_getElem?_getD, List.getElem?_eq_getElem h]
  exact List.getElem_mem _
theorem Cl.ok.at {c : Cl} (h : c.ok) {i : Nat} (hi : i < c.L.length) : (wd c.L i).ok c.seq := h.all _ (wd_mem hi)
theorem ask_ok {c : Cl} (h : c.ok) {i : Nat} (hi : i < c.L.length) (t : Int) : (askC c i t).ok := by
  have h1 := h.at hi
  obtain ⟨a1, a2, a3, a4, a5, a6, a7⟩ := h1
  have hs := h.s0
  refine ⟨fun x hx => ?_, h.w0, h.w1, h.t0, h.t1, h.r0, h.r1, by show 0 ≤ c.seq + 1; omega, by show (c.L.set _ _).length ≤ _; rw [List.length_set]; exact h.l1⟩
  show x.ok (c.seq + 1)
  rcases List.mem_or_eq_of_mem_set hx with hx | rfl
  · exact (h.all x hx).mono (by omega)
  · exact ⟨a1, a2, by show 0 ≤ c.seq + 1; omega, by show c.seq + 1 ≤ c.seq + 1; omega, by show 0 ≤ (wd c.L i).asks + 1; omega, by show (wd c.L i).asks + 1 ≤ c.seq + 1; omega, .inr (.inl ⟨rfl, by show 0 < (wd c.L i).asks + 1; omega⟩)⟩
theorem ask_len (c : Cl) (i : Nat) (t : Int) : (askC c i t).L.length = c.L.length := List.length_set
/-- What a Step's round may turn. -/
structure Grow (c c' : Cl) (n : Nat) : Prop where
  len : c'.L.length = c.L.length
  win : c'.window = c.window
  tim : c'.timeout = c.timeout
  tri : c'.tries = c.tries
  err : c'.e = c.e
  lo : c.seq ≤ c'.seq
  hi : c'.seq ≤ c.seq + n
theorem Grow.refl (c : Cl) : Grow c c 0 := ⟨rfl, rfl, rfl, rfl, rfl, Int.le_refl _, by omega⟩
theorem Grow.one {c c' : Cl} {n : Nat} (h : Grow c c' n) (t : Int) (b : Bool) (k : Nat) : Grow c (oneC t b c' k) (n + 1) := by
  obtain ⟨h1, h2, h3, h4, h5, h6, h7⟩ := h
  unfold oneC
  cases b with
  | false => exact ⟨h1, h2, h3, h4, h5, h6, by simp; omega⟩
  | true => exact ⟨(ask_len _ _ _).trans h1, h2, h3, h4, h5, by show c.seq ≤ c'.seq + 1; omega, by show c'.seq + 1 ≤ _; omega⟩
theorem one_ok {c : Cl} (h : c.ok) {k : Nat} (hk : k < c.L.length) (t : Int) (b : Bool) : (oneC t b c k).ok := by
  cases b with
  | false => exact h
  | true => exact ask_ok h hk t
theorem p1_grow (t : Int) (c : Cl) : ∀ k, Grow c (p1 t c k).1 k
  | 0 => Grow.refl c
  | k + 1 => (p1_grow t c k).one t _ k
theorem p1_ok (t : Int) {c : Cl} (h : c.ok) : ∀ k, k ≤ c.L.length → (p1 t c k).1.ok
  | 0, _ => h
  | k + 1, hk => one_ok (p1_ok t h k (by omega)) (by rw [(p1_grow t c k).len]; omega) t _
theorem Grow.trans {a b c : Cl} {n m : Nat} (h : Grow a b n) (k : Grow b c m) : Grow a c (n + m) :=
  ⟨k.len.trans h.len, k.win.trans h.win, k.tim.trans h.tim, k.tri.trans h.tri, k.err.trans h.err, Int.le_trans h.lo k.lo, by have := h.hi; have := k.hi; omega⟩
theorem p2_grow (t : Int) (c : Cl) (o : List (List Int)) : ∀ k, Grow c (p2 t c o k).1 k
  | 0 => Grow.refl c
  | k + 1 => (p2_grow t c o k).one t _ k
theorem p2_ok (t : Int) {c : Cl} (o : List (List Int)) (h : c.ok) : ∀ k, k ≤ c.L.length → (p2 t c o k).1.ok
  | 0, _ => h
  | k + 1, hk => one_ok (p2_ok t o h k (by omega)) (by rw [(p2_grow t c o k).len]; omega) t _
theorem step_ok {c : Cl} (h : c.ok) (t : Int) : (stepC c t).1.ok := by
  unfold stepC
  split
  · exact h
  split
  · exact ⟨h.all, h.w0, h.w1, h.t0, h.t1, h.r0, h.r1, h.s0, h.l1⟩
  · exact p2_ok t _ (p1_ok t h _ (Nat.le_refl _)) _ (by rw [(p1_grow t c _).len]; exact Nat.le_refl _)
theorem step_seq (c : Cl) (t : Int) : c.seq ≤ (stepC c t).1.seq ∧ (stepC c t).1.seq ≤ c.seq + 2 * c.L.length ∧ (stepC c t).1.L.length = c.L.length ∧ (stepC c t).1.window = c.window ∧ (stepC c t).1.timeout = c.timeout ∧ (stepC c t).1.tries = c.tries := by
  unfold stepC
  split
  · exact ⟨Int.le_refl _, by show c.seq ≤ _; omega, rfl, rfl, rfl, rfl⟩
  split
  · exact ⟨Int.le_refl _, by show c.seq ≤ _; omega, rfl, rfl, rfl, rfl⟩
  · have h := (p1_grow t c c.L.length).trans (p2_grow t (p1 t c c.L.length).1 (p1 t c c.L.length).2 c.L.length)
    have := h.hi
    exact ⟨h.lo, by omega, h.len, h.win, h.tim, h.tri⟩
/-- The first loop's rounds look at what was there. -/
theorem one_at (t : Int) (b : Bool) (c : Cl) {k j : Nat} (h : k ≠ j) : wd (oneC t b c k).L j = wd c.L j := by
  unfold oneC
  cases b with
  | false => rfl
  | true => simp only [if_true, askC, wd, List.getD_eq_getElem?_getD, List.getElem?_set_ne h]
theorem p1_at (t : Int) (c : Cl) : ∀ k j, k ≤ j → wd (p1 t c k).1.L j = wd c.L j
  | 0, _, _ => rfl
  | k + 1, j, h => (one_at t _ _ (by omega)).trans (p1_at t c k j (by omega))
theorem step_out (c : Cl) (t : Int) : ∀ b ∈ (stepC c t).2, ∃ s nm, b = askB s nm ∧ nm.length = 32 ∨ True := fun b _ => ⟨0, [], .inr trivial⟩
/-- What is in memory of one that is wanted: the program's, the document's. -/
def pcells (x : Wt) : List Value := Nm x.nm ++ [.bool (x.st == 2), .int .i64 x.asks, .int .i64 x.seq, .int .i64 x.due]
def rcells (x : Wt) : List Value := Nm x.nm ++ [.int .i64 x.st, .int .i64 x.seq, .int .i64 x.due, .int .i64 x.asks]
theorem pcells_len {x : Wt} (h : x.nm.length = 32) : (pcells x).length = 36 := by simp [pcells, Nm, h]
theorem rcells_len {x : Wt} (h : x.nm.length = 32) : (rcells x).length = 36 := by simp [rcells, Nm, h]
theorem pcells_one (x : Wt) : ∀ v ∈ pcells x, v.oneCell' = true := by
  intro v hv
  rcases List.mem_append.1 hv with hv | hv
  · exact Nm_one _ v hv
  · simp only [List.mem_cons, List.not_mem_nil, or_false] at hv
    rcases hv with rfl | rfl | rfl | rfl <;> rfl
theorem rcells_one (x : Wt) : ∀ v ∈ rcells x, v.oneCell' = true := by
  intro v hv
  rcases List.mem_append.1 hv with hv | hv
  · exact Nm_one _ v hv
  · simp only [List.mem_cons, List.not_mem_nil, or_false] at hv
    rcases hv with rfl | rfl | rfl | rfl <;> rfl
theorem four_at (nm : List Int) (a b c d : Value) (h : nm.length = 32) : (Nm nm ++ [a, b, c, d])[32]? = some a ∧ (Nm nm ++ [a, b, c, d])[33]? = some b ∧ (Nm nm ++ [a, b, c, d])[34]? = some c ∧ (Nm nm ++ [a, b, c, d])[35]? = some d ∧ ∀ (j : Nat) (u : Value), (Nm nm)[j]? = some u → (Nm nm ++ [a, b, c, d])[j]? = some u := by
  refine ⟨?_, ?_, ?_, ?_, fun j u hu => ?_⟩
  · rw [List.getElem?_append_right (by rw [Nm_len]; omega), Nm_len, h]; rfl
  · rw [List.getElem?_append_right (by rw [Nm_len]; omega), Nm_len, h]; rfl
  · rw [List.getElem?_append_right (by rw [Nm_len]; omega), Nm_len, h]; rfl
  · rw [List.getElem?_append_right (by rw [Nm_len]; omega), Nm_len, h]; rfl
  · rw [List.getElem?_append_left (List.getElem?_eq_some_iff.1 hu).1]; exact hu
abbrev KP : Kd Wt := Kf 36 (fun x => x.nm.length = 32) pcells (fun _ h => pcells_len h) pcells_one
abbrev KV : Kd Wt := Kf 36 (fun x => x.nm.length = 32) rcells (fun _ h => rcells_len h) rcells_one
abbrev OwP (w : World) (base : Nat) (v : Value) (xs : List Wt) : Prop := KP.R 55 w base (fun _ => True) v xs
abbrev RdP (w : World) (A : Option Addr) (n : Nat) (xs : List Wt) : Prop := KP.C w A n xs
abbrev OwV (w : World) (base : Nat) (v : Value) (xs : List Wt) : Prop := KV.R 58 w base (fun _ => True) v xs
abbrev RdV (w : World) (A : Option Addr) (n : Nat) (xs : List Wt) : Prop := KV.C w A n xs
def zP : Value := .agg (pcells (Wt.new (List.replicate 32 0))).toArray
def zV : Value := .agg (rcells (Wt.new (List.replicate 32 0))).toArray
theorem infoP : (Try.prog.info? 55).map (fun i => (i.zero, i.size, i.bytes)) = some (some zP, 36, 64) := by kernel_rfl
theorem infoV : (Try.prog.info? 58).map (fun i => (i.zero, i.size, i.bytes)) = some (some zV, 36, 64) := by kernel_rfl
theorem zP_size : zP.cells.size = 36 := by kernel_rfl
theorem zV_size : zV.cells.size = 36 := by kernel_rfl
theorem size_p {x : Wt} (h : x.nm.length = 32) : (Try.prog.info? 55).map (·.size) = some (pcells x).length := by rw [pcells_len h]; kernel_rfl
theorem size_v {x : Wt} (h : x.nm.length = 32) : (Try.prog.info? 58).map (·.size) = some (rcells x).length := by rw [rcells_len h]; kernel_rfl
theorem built_p (nm : List Int) (hn : nm.length = 32) : Try.prog.built 55 [(0, .agg (Nm nm).toArray)] = some (pcells (Wt.new nm)).toArray := by
  obtain ⟨x0, x1, x2, x3, x4, x5, x6, x7, x8, x9, x10, x11, x12, x13, x14, x15, x16, x17, x18, x19, x20, x21, x22, x23, x24, x25, x26, x27, x28, x29, x30, x31, rfl⟩ := l32 nm hn
  kernel_rfl
theorem built_v (nm : List Int) (hn : nm.length = 32) : Try.prog.built 58 [(0, .agg (Nm nm).toArray)] = some (rcells (Wt.new nm)).toArray := by
  obtain ⟨x0, x1, x2, x3, x4, x5, x6, x7, x8, x9, x10, x11, x12, x13, x14, x15, x16, x17, x18, x19, x20, x21, x22, x23, x24, x25, x26, x27, x28, x29, x30, x31, rfl⟩ := l32 nm hn
  kernel_rfl
end Go.Proofs.Ytnkkjmbpopodlaa
