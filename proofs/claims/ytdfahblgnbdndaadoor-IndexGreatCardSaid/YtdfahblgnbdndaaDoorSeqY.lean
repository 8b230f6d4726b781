/- A range over a function whose iterator tells what memory each row reads. General. -/
import Derived.Test.YtdfahblgnbdndaaDoorG1
namespace Go.Proofs.YtdfahblgnbdndaaDoor
open Go.RowKit Go.Proofs.YtdfahblgnbdndaaDoorW.PrintWords Go.Proofs.YtdfahblgnbdndaaDoorW.PrintMore
set_option linter.unusedVariables false
section
variable {F : Fence} {n : Nat} {P : Program} {w : World} (Fo : Obj → Prop)
/-- What goes on beside the caller: blocks from B0 on that are not of the caller's kinds are turned. -/
def Qs (B0 : Nat) (A B : World) : Prop := Fr A B (fun k => B0 ≤ k ∧ ∃ o, A.heap[k]? = some o ∧ Fo o)
theorem Qs.mono {B0 B1 : Nat} {A B : World} (h : Qs Fo B1 A B) (hle : B0 ≤ B1) : Qs Fo B0 A B := Fr.mono h fun k hk => ⟨by omega, hk.2⟩
theorem Qs.put {B0 l : Nat} {A : World} {o o' : Obj} (hl : A.heap[l]? = some o) (hB : B0 ≤ l) (ho : Fo o) : Qs Fo B0 A (A.putObj l o') :=
  (Fr.refl A _).grown (grownBy_putObj' A l o') (fun i hi => by cases hi; exact .inl ⟨hB, o, hl, ho⟩)
/-- The body's word. -/
def Kb (B M : Nat) (A C : World) : Prop := A.heap.size ≤ C.heap.size ∧ ∀ k, B ≤ k → k < M → C.heap[k]? = A.heap[k]?
theorem Kb.refl (B M : Nat) (A : World) : Kb B M A A := ⟨Nat.le_refl _, fun _ _ _ => rfl⟩
theorem Kb.trans {B M : Nat} {A C D : World} (h : Kb B M A C) (k : Kb B M C D) : Kb B M A D := ⟨Nat.le_trans h.1 k.1, fun i h1 h2 => (k.2 i h1 h2).trans (h.2 i h1 h2)⟩
theorem Kb.fr {B M : Nat} {A C : World} {T : Nat → Prop} (h : Fr A C T) (hM : M ≤ A.heap.size) (hT : ∀ k, T k → k < B ∨ M ≤ k) : Kb B M A C :=
  ⟨h.size, fun k h1 h2 => h.block k (by omega) (fun ht => by have := hT k ht; omega)⟩
def SeqY {α : Type} (F : Fence) (n : Nat) (P : Program) (g : Nat) (lb : Array Value) (encs : α → Array Value) (Y : Nat → Nat → List α → α → World → Prop) (S Sp : List α → Prop) (w0 : World) : Prop :=
  ∀ (l : Nat) (J Jx : Nat → List α → World → Prop) (W : World), Below w0.heap.size w0 W →
    (∀ M s A B, J M s A → Qs Fo W.heap.size A B → J M s B) →
    (∀ M pre x W1, J M pre W1 → Y W.heap.size M pre x W1 → YieldAt F (n - 1) P l (encs x) W1 fun e W' =>
      (e = .returned (.bool true) ∧ J M (pre ++ [x]) W' ∧ Kb W.heap.size M W1 W') ∨ (e = .returned (.bool false) ∧ Jx M (pre ++ [x]) W')) →
    (∀ W1, Below W.heap.size W W1 → J W1.heap.size [] W1) →
    CallsIn F n P g (#[.func (.yield l) #[] #[]] ++ lb) W fun e W' => (∃ v, e = .returned v) ∧ ((∃ ys M, S ys ∧ J M ys W') ∨ ∃ pre M, Sp pre ∧ Jx M pre W')
/-- How a round's body may be left. -/
def postY {α : Type} (B M : Nat) (I : Nat → List α → World → Prop) (Ix : Code → Nat → List α → World → Prop) (xs : List α) (W : World) : Exit → Act → World → Prop
  | .normal, _, W' => Kb B M W W' ∧ I M xs W'
  | .ret, _, W' => Kb B M W W' ∧ Ix .ret M xs W'
  | .exit id, _, W' => Kb B M W W' ∧ Ix (.exit id) M xs W'
  | .goto t, _, W' => Kb B M W W' ∧ Ix (.goto t) M xs W'
  | .panic _, _, _ => False
  | .outgrown, _, _ => False
theorem wpIn_rangeFunc_Y {α : Type} {g : Operand} {ps : Array Tmp} {assign body : Code} {Q : Exit → Act → World → Prop} {a : Act}
    (hro : F.round = none) (h1 : 1 ≤ n) {gf : Nat} {lb : Array Value} (hg : a.eval g = .func (.func gf) #[] lb) (hFg : F.fn gf) (eg : ∀ args w, (callFunc gf args).run P w = .ok (.enter gf args) w)
    {encs : α → Array Value} {Y : Nat → Nat → List α → α → World → Prop} {S Sp : List α → Prop} {w0 : World} (hseq : SeqY Fo F (n - 1) P gf lb encs Y S Sp w0)
    (hFo : ∀ o : Obj, o.isCells = false → Fo o) (hb0 : Below w0.heap.size w0 w) (hps : ∀ x, (encs x).size = ps.size)
    (hYs : ∀ B M pre x A C, Y B M pre x A → Qs Fo w.heap.size A C → Y B M pre x C)
    (hYm : ∀ B M pre x A, Y B M pre x A → B ≤ M ∧ M ≤ A.heap.size)
    (I : Nat → List α → World → Prop) (Ix : Code → Nat → List α → World → Prop) (hI : ∀ M s A B, I M s A → Qs Fo w.heap.size A B → I M s B) (hIx : ∀ c M s A B, Ix c M s A → Qs Fo w.heap.size A B → Ix c M s B)
    (h0 : ∀ W1, Below w.heap.size w W1 → I W1.heap.size [] W1) (a₁ : α → Act)
    (hassign : ∀ (l : Nat) (x : α) (W : World) (K : Act → World → Prop), K (a₁ x) W →
      assign.wpIn (F.inRound l) (n - 1 - 1) P (Exit.then K (fun _ _ _ => False)) { tmps := (ps.zip (encs x)).foldl (fun t (p, v) => t.setIfInBounds p v) a.tmps, defers := [] } W)
    (hbody : ∀ (l M B1 : Nat) (pre : List α) (x : α) (W : World), w.heap.size ≤ B1 → I M pre W → Y B1 M pre x W → body.wpIn (F.inRound l) (n - 1 - 1) P (postY w.heap.size M I Ix (pre ++ [x]) W) (a₁ x) W)
    (hdone : ∀ (D M : Nat) (xs : List α) (W : World), w.heap.size ≤ D → S xs → I M xs W → W.heap[D]? = some (.deferred (some [])) → Q .normal { a with defers := { target := .collected D, args := #[] } :: a.defers } W)
    (hstop : ∀ (D M : Nat) (c : Code) (pre : List α) (W : World), w.heap.size ≤ D → Sp pre → Ix c M pre W → W.heap[D]? = some (.deferred (some [])) → c.wpIn F n P Q { a with defers := { target := .collected D, args := #[] } :: a.defers } W) :
    (Code.rangeFunc g ps assign body).wpIn F n P Q a w := by
  refine wpIn_rangeFunc ?_
  intro fn hfn
  rw [hro]
  obtain ⟨rec, hrec⟩ : ∃ rec : LoopState → Option Code → Loop, rec = fun st pe => { state := st, pending := pe, fn, tmps := a.tmps, params := ps, assign, body, defers := w.heap.size } := ⟨_, rfl⟩
  obtain ⟨W1, hW1⟩ : ∃ W1, (w.alloc (.deferred (some []))).alloc (.loop (rec .ready none)) = W1 := ⟨_, rfl⟩
  have hL1 : W1.heap[w.heap.size + 1]? = some (.loop (rec .ready none)) := by
    rw [← hW1]; have := World.alloc_heap_new (w.alloc (.deferred (some []))) (.loop (rec .ready none)); rwa [World.size_alloc] at this
  have hK1 : W1.heap[w.heap.size]? = some (.deferred (some [])) := by
    rw [← hW1]; exact (Below.heap_alloc _ _ _ (by simp)).trans (World.alloc_heap_new w _)
  have hs1 : W1.heap.size = w.heap.size + 2 := by rw [← hW1]; simp
  have hbw : Below w.heap.size w W1 := by rw [← hW1]; exact ((Below.refl _ w).alloc (Nat.le_refl _) _).alloc (by simp) _
  have hb1 : Below w0.heap.size w0 W1 := hb0.trans (hbw.mono hb0.size)
  refine ⟨w.heap.size + 1, [{ target := .collected w.heap.size, args := #[] }], W1, { target := .fn (.func gf) lb, args := #[.func (.yield (w.heap.size + 1)) #[] #[]] }, W1, gf,
    #[.func (.yield (w.heap.size + 1)) #[] #[]] ++ lb, W1, ?_, ?_, ?_, ?_, fun _ => h1, ?_⟩
  · rw [← hW1, hrec]; exact run_enterLoop_outer _ _ _ _ _
  · simp only [resolve, hg]
    simp [go_sem]
  · intro f' hf'; simp [Target.leads] at hf'; subst hf'; exact hFg
  · simp [invoke, go_sem, eg]
  · have hup : ∀ {A B : World}, Qs Fo W1.heap.size A B → Qs Fo w.heap.size A B := fun h => h.mono Fo (by omega)
    have hlow : ∀ {A B : World} {k : Nat} {o : Obj}, Qs Fo W1.heap.size A B → k < W1.heap.size → A.heap[k]? = some o → B.heap[k]? = some o := fun {A B k o} h hk ho =>
      (h.block k (Array.getElem?_eq_some_iff.1 ho).1 (fun hx => by have := hx.1; omega)).trans ho
    refine (hseq (w.heap.size + 1)
      (fun M pre W => I M pre W ∧ W.heap[w.heap.size + 1]? = some (.loop (rec .ready none)) ∧ W.heap[w.heap.size]? = some (.deferred (some [])))
      (fun M pre W => ∃ c, Ix c M pre W ∧ W.heap[w.heap.size + 1]? = some (.loop (rec .done (some c))) ∧ W.heap[w.heap.size]? = some (.deferred (some [])))
      W1 hb1
      (fun M s A B hs hg' => ⟨hI M s A B hs.1 (hup hg'), hlow hg' (by omega) hs.2.1, hlow hg' (by omega) hs.2.2⟩)
      ?_ (fun W2 h2 => ⟨h0 W2 (hbw.trans (h2.mono (by omega))), (h2.block _ (by omega)).trans hL1, (h2.block _ (by omega)).trans hK1⟩)).mono ?_
    · rintro M pre x W ⟨hi, hl, hk⟩ hY
      obtain ⟨hM1, hM2⟩ := hYm _ _ _ _ _ hY
      have hlt : w.heap.size + 1 < W.heap.size := (Array.getElem?_eq_some_iff.1 hl).1
      have hy := run_yield (P := P) (args := encs x) hl (by rw [hrec]; exact hps x)
      rw [hrec] at hy
      refine ⟨fn, _, assign, body, hy, roundIn_of_wpIn hfn (hassign _ x W _ ?_)⟩
      clear hy
      refine ⟨_, run_beginRound hl (by rw [hrec]), ?_⟩
      have hl2 : (W.putObj (w.heap.size + 1) (.loop { rec .ready none with state := .busy })).heap[w.heap.size + 1]? = some (.loop { rec .ready none with state := .busy }) := World.putObj_heap_same hlt
      have hk2 : (W.putObj (w.heap.size + 1) (.loop { rec .ready none with state := .busy })).heap[w.heap.size]? = some (.deferred (some [])) := (World.putObj_heap_other (by omega)).trans hk
      have hq : Qs Fo w.heap.size W (W.putObj (w.heap.size + 1) (.loop { rec .ready none with state := .busy })) := Qs.put Fo hl (by omega) (hFo _ rfl)
      refine wpIn_mono (hbody _ M W1.heap.size pre x _ (by omega) (hI _ _ _ _ hi hq) (hYs _ _ _ _ _ _ hY hq)) ?_
      have fin : ∀ (jump : Option Code) (W3 : World), Kb w.heap.size M (W.putObj (w.heap.size + 1) (.loop { rec .ready none with state := .busy })) W3 →
          (Instr.endRound (w.heap.size + 1) jump).run P W3 = .ok (.bool jump.isNone) (W3.putObj (w.heap.size + 1) (.loop (rec (if jump.isNone then .ready else .done) jump))) ∧
          W3.heap[w.heap.size + 1]? = some (.loop { rec .ready none with state := .busy }) ∧
          (W3.putObj (w.heap.size + 1) (.loop (rec (if jump.isNone then .ready else .done) jump))).heap[w.heap.size + 1]? = some (.loop (rec (if jump.isNone then .ready else .done) jump)) ∧
          (W3.putObj (w.heap.size + 1) (.loop (rec (if jump.isNone then .ready else .done) jump))).heap[w.heap.size]? = some (.deferred (some [])) := fun jump W3 hk3 => by
        have hl3 := (hk3.2 _ (by omega) (by omega)).trans hl2
        have := run_endRound (P := P) jump hl3
        rw [hrec] at this ⊢
        exact ⟨this, by rw [hrec] at hl3; exact hl3, World.putObj_heap_same (Array.getElem?_eq_some_iff.1 hl3).1, (World.putObj_heap_other (by omega)).trans ((hk3.2 _ (Nat.le_refl _) (by omega)).trans hk2)⟩
      rintro e a3 W3 hp
      cases e with
      | normal =>
        obtain ⟨hk3, hi3⟩ := hp
        obtain ⟨hr, hl3, hl4, hk4⟩ := fin none W3 hk3
        refine ⟨_, _, hr, .inl ⟨rfl, ⟨hI _ _ _ _ hi3 (Qs.put Fo hl3 (by omega) (hFo _ rfl)), hl4, hk4⟩, ?_, fun k h1 h2 => ?_⟩⟩
        · have := hk3.1; simpa using this
        · rw [World.putObj_heap_other (by omega), hk3.2 k (by omega) h2, World.putObj_heap_other (by omega)]
      | ret =>
        obtain ⟨hk3, hi3⟩ := hp
        obtain ⟨hr, hl3, hl4, hk4⟩ := fin (some .ret) W3 hk3
        exact ⟨_, _, hr, .inr ⟨rfl, .ret, hIx _ _ _ _ _ hi3 (Qs.put Fo hl3 (by omega) (hFo _ rfl)), hl4, hk4⟩⟩
      | exit id =>
        obtain ⟨hk3, hi3⟩ := hp
        obtain ⟨hr, hl3, hl4, hk4⟩ := fin (some (.exit id)) W3 hk3
        exact ⟨_, _, hr, .inr ⟨rfl, .exit id, hIx _ _ _ _ _ hi3 (Qs.put Fo hl3 (by omega) (hFo _ rfl)), hl4, hk4⟩⟩
      | goto t =>
        obtain ⟨hk3, hi3⟩ := hp
        obtain ⟨hr, hl3, hl4, hk4⟩ := fin (some (.goto t)) W3 hk3
        exact ⟨_, _, hr, .inr ⟨rfl, .goto t, hIx _ _ _ _ _ hi3 (Qs.put Fo hl3 (by omega) (hFo _ rfl)), hl4, hk4⟩⟩
      | panic ch => exact hp.elim
      | outgrown => exact hp.elim
    · rintro e W2 ⟨⟨v, rfl⟩, (⟨xs, M, hS, hi, hl, hk⟩ | ⟨pre, M, hSp, c, hi, hl, hk⟩)⟩
      · exact ⟨none, _, by have := run_endLoop (P := P) hl (by rw [hrec]; simp); rw [hrec] at this; exact this, hdone _ M xs _ (Nat.le_refl _) hS (hI _ _ _ _ hi (Qs.put Fo hl (by omega) (hFo _ rfl))) ((World.putObj_heap_other (by omega)).trans hk)⟩
      · exact ⟨some c, _, by have := run_endLoop (P := P) hl (by rw [hrec]; simp); rw [hrec] at this; exact this, hstop _ M c pre _ (Nat.le_refl _) hSp (hIx _ _ _ _ _ hi (Qs.put Fo hl (by omega) (hFo _ rfl))) ((World.putObj_heap_other (by omega)).trans hk)⟩
theorem wpList_in2 {ops : Array Oper} {Q : Exit → Act → World → Prop} {l : Nat} {a : Act} {L : List Oper} (hL : ¬ LetsOut Q) (hd : noDefer L.toArray = true) (h : wpList P ops Q L a w) : wpListIn (Rnd l) n P ops Q L a w :=
  wpList_in hL L a w (fun o ho c hc => by
    obtain ⟨i, hi⟩ := List.mem_iff_getElem?.1 ho
    exact noDefer_spec hd (i := i) (by simpa using hi) c hc) h
end
end Go.Proofs.YtdfahblgnbdndaaDoor
