/- Plain lemmas and contracts, several texts in one: SeqY, Cut5, Cut6, Cut7, Cut8, Cut9, CutQ. Conditions: their own. -/
import Derived.Test.YtdfahblgnbdndaaDoorG1
import Derived.Test.YtdfahblgnbdndaaDoorCut4
import Derived.Lib.SlBytesConst
namespace Go.Proofs.YtdfahblgnbdndaaDoor
open Go.RowKit Go.Proofs.YtdfahblgnbdndaaDoorW.PrintWords Go.Proofs.YtdfahblgnbdndaaDoorW.PrintMore
set_option linter.unusedVariables false
section
variable {F : Fence} {n : Nat} {P : Program} {w : World} (Fo : Obj → Prop)
/-- What goes on beside the caller: blocks from B0 on that are not of the caller's kinds are turned. -/
def Qs (B0 : Nat) (A B : World) : Prop := Fr A B (fun k => B0 ≤ k ∧ ∃ o, A.heap[k]? = some o ∧ Fo o)
theorem Qs.mono {B0 B1 : Nat} {A B : World} (h : Qs Fo B1 A B) (hle : B0 ≤ B1) : Qs Fo B0 A B := Fr.mono h fun k hk => ⟨by omega, hk.2⟩
theorem Qs.put {B0 l : Nat} {A : World} {o o' : Obj} (hl : A.heap[l]? = some o) (hB : B0 ≤ l) (ho : Fo o) : Qs Fo B0 A (A.putObj l o') :=
  (Fr.refl A _).grown (grownBy_putObj' A l o') (fun i hi => by cases hi; exact .inl ⟨hB, o, hl, ho⟩)
/-- The body's word. -/
def Kb (B M : Nat) (A C : World) : Prop := A.heap.size ≤ C.heap.size ∧ ∀ k, B ≤ k → k < M → C.heap[k]? = A.heap[k]?
theorem Kb.refl (B M : Nat) (A : World) : Kb B M A A := ⟨Nat.le_refl _, fun _ _ _ => rfl⟩
theorem Kb.trans {B M : Nat} {A C D : World} (h : Kb B M A C) (k : Kb B M C D) : Kb B M A D := ⟨Nat.le_trans h.1 k.1, fun i h1 h2 => (k.2 i h1 h2).trans (h.2 i h1 h2)⟩
theorem Kb.fr {B M : Nat} {A C : World} {T : Nat → Prop} (h : Fr A C T) (hM : M ≤ A.heap.size) (hT : ∀ k, T k → k < B ∨ M ≤ k) : Kb B M A C :=
  ⟨h.size, fun k h1 h2 => h.block k (by omega) (fun ht => by have := hT k ht; omega)⟩
def SeqY {α : Type} (F : Fence) (n : Nat) (P : Program) (g : Nat) (lb : Array Value) (encs : α → Array Value) (Y : Nat → Nat → List α → α → World → Prop) (S Sp : List α → Prop) (w0 : World) : Prop :=
  ∀ (l : Nat) (J Jx : Nat → List α → World → Prop) (W : World), Below w0.heap.size w0 W →
    (∀ M s A B, J M s A → Qs Fo W.heap.size A B → J M s B) →
    (∀ M pre x W1, J M pre W1 → Y W.heap.size M pre x W1 → YieldAt F (n - 1) P l (encs x) W1 fun e W' =>
      (e = .returned (.bool true) ∧ J M (pre ++ [x]) W' ∧ Kb W.heap.size M W1 W') ∨ (e = .returned (.bool false) ∧ Jx M (pre ++ [x]) W')) →
    (∀ W1, Below W.heap.size W W1 → J W1.heap.size [] W1) →
    CallsIn F n P g (#[.func (.yield l) #[] #[]] ++ lb) W fun e W' => (∃ v, e = .returned v) ∧ ((∃ ys M, S ys ∧ J M ys W') ∨ ∃ pre M, Sp pre ∧ Jx M pre W')
/-- How a round's body may be left. -/
def postY {α : Type} (B M : Nat) (I : Nat → List α → World → Prop) (Ix : Code → Nat → List α → World → Prop) (xs : List α) (W : World) : Exit → Act → World → Prop
  | .normal, _, W' => Kb B M W W' ∧ I M xs W'
  | .ret, _, W' => Kb B M W W' ∧ Ix .ret M xs W'
  | .exit id, _, W' => Kb B M W W' ∧ Ix (.exit id) M xs W'
  | .goto t, _, W' => Kb B M W W' ∧ Ix (.goto t) M xs W'
  | .panic _, _, _ => False
  | .outgrown, _, _ => False
theorem wpIn_rangeFunc_Y {α : Type} {g : Operand} {ps : Array Tmp} {assign body : Code} {Q : Exit → Act → World → Prop} {a : Act}
    (hro : F.round = none) (h1 : 1 ≤ n) {gf : Nat} {lb : Array Value} (hg : a.eval g = .func (.func gf) #[] lb) (hFg : F.fn gf) (eg : ∀ args w, (callFunc gf args).run P w = .ok (.enter gf args) w)
    {encs : α → Array Value} {Y : Nat → Nat → List α → α → World → Prop} {S Sp : List α → Prop} {w0 : World} (hseq : SeqY Fo F (n - 1) P gf lb encs Y S Sp w0)
    (hFo : ∀ o : Obj, o.isCells = false → Fo o) (hb0 : Below w0.heap.size w0 w) (hps : ∀ x, (encs x).size = ps.size)
    (hYs : ∀ B M pre x A C, Y B M pre x A → Qs Fo w.heap.size A C → Y B M pre x C)
    (hYm : ∀ B M pre x A, Y B M pre x A → B ≤ M ∧ M ≤ A.heap.size)
    (I : Nat → List α → World → Prop) (Ix : Code → Nat → List α → World → Prop) (hI : ∀ M s A B, I M s A → Qs Fo w.heap.size A B → I M s B) (hIx : ∀ c M s A B, Ix c M s A → Qs Fo w.heap.size A B → Ix c M s B)
    (h0 : ∀ W1, Below w.heap.size w W1 → I W1.heap.size [] W1) (a₁ : α → Act)
    (hassign : ∀ (l : Nat) (x : α) (W : World) (K : Act → World → Prop), K (a₁ x) W →
      assign.wpIn (F.inRound l) (n - 1 - 1) P (Exit.then K (fun _ _ _ => False)) { tmps := (ps.zip (encs x)).foldl (fun t (p, v) => t.setIfInBounds p v) a.tmps, defers := [] } W)
    (hbody : ∀ (l M B1 : Nat) (pre : List α) (x : α) (W : World), w.heap.size ≤ B1 → I M pre W → Y B1 M pre x W → body.wpIn (F.inRound l) (n - 1 - 1) P (postY w.heap.size M I Ix (pre ++ [x]) W) (a₁ x) W)
    (hdone : ∀ (D M : Nat) (xs : List α) (W : World), w.heap.size ≤ D → S xs → I M xs W → W.heap[D]? = some (.deferred (some [])) → Q .normal { a with defers := { target := .collected D, args := #[] } :: a.defers } W)
    (hstop : ∀ (D M : Nat) (c : Code) (pre : List α) (W : World), w.heap.size ≤ D → Sp pre → Ix c M pre W → W.heap[D]? = some (.deferred (some [])) → c.wpIn F n P Q { a with defers := { target := .collected D, args := #[] } :: a.defers } W) :
    (Code.rangeFunc g ps assign body).wpIn F n P Q a w := by
  refine wpIn_rangeFunc ?_
  intro fn hfn
  rw [hro]
  obtain ⟨rec, hrec⟩ : ∃ rec : LoopState → Option Code → Loop, rec = fun st pe => { state := st, pending := pe, fn, tmps := a.tmps, params := ps, assign, body, defers := w.heap.size } := ⟨_, rfl⟩
  obtain ⟨W1, hW1⟩ : ∃ W1, (w.alloc (.deferred (some []))).alloc (.loop (rec .ready none)) = W1 := ⟨_, rfl⟩
  have hL1 : W1.heap[w.heap.size + 1]? = some (.loop (rec .ready none)) := by
    rw [← hW1]; have := World.alloc_heap_new (w.alloc (.deferred (some []))) (.loop (rec .ready none)); rwa [World.size_alloc] at this
  have hK1 : W1.heap[w.heap.size]? = some (.deferred (some [])) := by
    rw [← hW1]; exact (Below.heap_alloc _ _ _ (by simp)).trans (World.alloc_heap_new w _)
  have hs1 : W1.heap.size = w.heap.size + 2 := by rw [← hW1]; simp
  have hbw : Below w.heap.size w W1 := by rw [← hW1]; exact ((Below.refl _ w).alloc (Nat.le_refl _) _).alloc (by simp) _
  have hb1 : Below w0.heap.size w0 W1 := hb0.trans (hbw.mono hb0.size)
  refine ⟨w.heap.size + 1, [{ target := .collected w.heap.size, args := #[] }], W1, { target := .fn (.func gf) lb, args := #[.func (.yield (w.heap.size + 1)) #[] #[]] }, W1, gf,
    #[.func (.yield (w.heap.size + 1)) #[] #[]] ++ lb, W1, ?_, ?_, ?_, ?_, fun _ => h1, ?_⟩
  · rw [← hW1, hrec]; exact run_enterLoop_outer _ _ _ _ _
  · simp only [resolve, hg]
    simp [go_sem]
  · intro f' hf'; simp [Target.leads] at hf'; subst hf'; exact hFg
  · simp [invoke, go_sem, eg]
  · have hup : ∀ {A B : World}, Qs Fo W1.heap.size A B → Qs Fo w.heap.size A B := fun h => h.mono Fo (by omega)
    have hlow : ∀ {A B : World} {k : Nat} {o : Obj}, Qs Fo W1.heap.size A B → k < W1.heap.size → A.heap[k]? = some o → B.heap[k]? = some o := fun {A B k o} h hk ho =>
      (h.block k (Array.getElem?_eq_some_iff.1 ho).1 (fun hx => by have := hx.1; omega)).trans ho
    refine (hseq (w.heap.size + 1)
      (fun M pre W => I M pre W ∧ W.heap[w.heap.size + 1]? = some (.loop (rec .ready none)) ∧ W.heap[w.heap.size]? = some (.deferred (some [])))
      (fun M pre W => ∃ c, Ix c M pre W ∧ W.heap[w.heap.size + 1]? = some (.loop (rec .done (some c))) ∧ W.heap[w.heap.size]? = some (.deferred (some [])))
      W1 hb1
      (fun M s A B hs hg' => ⟨hI M s A B hs.1 (hup hg'), hlow hg' (by omega) hs.2.1, hlow hg' (by omega) hs.2.2⟩)
      ?_ (fun W2 h2 => ⟨h0 W2 (hbw.trans (h2.mono (by omega))), (h2.block _ (by omega)).trans hL1, (h2.block _ (by omega)).trans hK1⟩)).mono ?_
    · rintro M pre x W ⟨hi, hl, hk⟩ hY
      obtain ⟨hM1, hM2⟩ := hYm _ _ _ _ _ hY
      have hlt : w.heap.size + 1 < W.heap.size := (Array.getElem?_eq_some_iff.1 hl).1
      have hy := run_yield (P := P) (args := encs x) hl (by rw [hrec]; exact hps x)
      rw [hrec] at hy
      refine ⟨fn, _, assign, body, hy, roundIn_of_wpIn hfn (hassign _ x W _ ?_)⟩
      clear hy
      refine ⟨_, run_beginRound hl (by rw [hrec]), ?_⟩
      have hl2 : (W.putObj (w.heap.size + 1) (.loop { rec .ready none with state := .busy })).heap[w.heap.size + 1]? = some (.loop { rec .ready none with state := .busy }) := World.putObj_heap_same hlt
      have hk2 : (W.putObj (w.heap.size + 1) (.loop { rec .ready none with state := .busy })).heap[w.heap.size]? = some (.deferred (some [])) := (World.putObj_heap_other (by omega)).trans hk
      have hq : Qs Fo w.heap.size W (W.putObj (w.heap.size + 1) (.loop { rec .ready none with state := .busy })) := Qs.put Fo hl (by omega) (hFo _ rfl)
      refine wpIn_mono (hbody _ M W1.heap.size pre x _ (by omega) (hI _ _ _ _ hi hq) (hYs _ _ _ _ _ _ hY hq)) ?_
      have fin : ∀ (jump : Option Code) (W3 : World), Kb w.heap.size M (W.putObj (w.heap.size + 1) (.loop { rec .ready none with state := .busy })) W3 →
          (Instr.endRound (w.heap.size + 1) jump).run P W3 = .ok (.bool jump.isNone) (W3.putObj (w.heap.size + 1) (.loop (rec (if jump.isNone then .ready else .done) jump))) ∧
          W3.heap[w.heap.size + 1]? = some (.loop { rec .ready none with state := .busy }) ∧
          (W3.putObj (w.heap.size + 1) (.loop (rec (if jump.isNone then .ready else .done) jump))).heap[w.heap.size + 1]? = some (.loop (rec (if jump.isNone then .ready else .done) jump)) ∧
          (W3.putObj (w.heap.size + 1) (.loop (rec (if jump.isNone then .ready else .done) jump))).heap[w.heap.size]? = some (.deferred (some [])) := fun jump W3 hk3 => by
        have hl3 := (hk3.2 _ (by omega) (by omega)).trans hl2
        have := run_endRound (P := P) jump hl3
        rw [hrec] at this ⊢
        exact ⟨this, by rw [hrec] at hl3; exact hl3, World.putObj_heap_same (Array.getElem?_eq_some_iff.1 hl3).1, (World.putObj_heap_other (by omega)).trans ((hk3.2 _ (Nat.le_refl _) (by omega)).trans hk2)⟩
      rintro e a3 W3 hp
      cases e with
      | normal =>
        obtain ⟨hk3, hi3⟩ := hp
        obtain ⟨hr, hl3, hl4, hk4⟩ := fin none W3 hk3
        refine ⟨_, _, hr, .inl ⟨rfl, ⟨hI _ _ _ _ hi3 (Qs.put Fo hl3 (by omega) (hFo _ rfl)), hl4, hk4⟩, ?_, fun k h1 h2 => ?_⟩⟩
        · have := hk3.1; simpa using this
        · rw [World.putObj_heap_other (by omega), hk3.2 k (by omega) h2, World.putObj_heap_other (by omega)]
      | ret =>
        obtain ⟨hk3, hi3⟩ := hp
        obtain ⟨hr, hl3, hl4, hk4⟩ := fin (some .ret) W3 hk3
        exact ⟨_, _, hr, .inr ⟨rfl, .ret, hIx _ _ _ _ _ hi3 (Qs.put Fo hl3 (by omega) (hFo _ rfl)), hl4, hk4⟩⟩
      | exit id =>
        obtain ⟨hk3, hi3⟩ := hp
        obtain ⟨hr, hl3, hl4, hk4⟩ := fin (some (.exit id)) W3 hk3
        exact ⟨_, _, hr, .inr ⟨rfl, .exit id, hIx _ _ _ _ _ hi3 (Qs.put Fo hl3 (by omega) (hFo _ rfl)), hl4, hk4⟩⟩
      | goto t =>
        obtain ⟨hk3, hi3⟩ := hp
        obtain ⟨hr, hl3, hl4, hk4⟩ := fin (some (.goto t)) W3 hk3
        exact ⟨_, _, hr, .inr ⟨rfl, .goto t, hIx _ _ _ _ _ hi3 (Qs.put Fo hl3 (by omega) (hFo _ rfl)), hl4, hk4⟩⟩
      | panic ch => exact hp.elim
      | outgrown => exact hp.elim
    · rintro e W2 ⟨⟨v, rfl⟩, (⟨xs, M, hS, hi, hl, hk⟩ | ⟨pre, M, hSp, c, hi, hl, hk⟩)⟩
      · exact ⟨none, _, by have := run_endLoop (P := P) hl (by rw [hrec]; simp); rw [hrec] at this; exact this, hdone _ M xs _ (Nat.le_refl _) hS (hI _ _ _ _ hi (Qs.put Fo hl (by omega) (hFo _ rfl))) ((World.putObj_heap_other (by omega)).trans hk)⟩
      · exact ⟨some c, _, by have := run_endLoop (P := P) hl (by rw [hrec]; simp); rw [hrec] at this; exact this, hstop _ M c pre _ (Nat.le_refl _) hSp (hIx _ _ _ _ _ hi (Qs.put Fo hl (by omega) (hFo _ rfl))) ((World.putObj_heap_other (by omega)).trans hk)⟩
end
end Go.Proofs.YtdfahblgnbdndaaDoor
namespace Go.Proofs.YtdfahblgnbdndaaDoor
open Go.RowKit Go.Proofs.YtdfahblgnbdndaaDoorW.PrintWords Go.Proofs.YtdfahblgnbdndaaDoorW.PrintMore
set_option linter.unusedVariables false
set_option linter.unusedSimpArgs false
attribute [local go_sem] Oper.semAt_some
theorem RdB.move {w w1 : World} {q n : Nat} {xs : List Int} (h : RdB w (some ⟨q, 0, none⟩) n xs) (hq : w1.heap[q]? = w.heap[q]?) : RdB w1 (some ⟨q, 0, none⟩) n xs := by
  have hr' := Kd.reads_of_C (d := (0 : Int)) h
  refine Kd.C_of_reads (d := (0 : Int)) ⟨hr'.1, hr'.2.1, fun hp => ?_⟩
  obtain ⟨ad, he, hc⟩ := hr'.2.2 hp
  refine ⟨ad, he, fun j hj => ?_⟩
  injection he with he
  subst he
  exact (World.cell?_of_block (a := Addr.add ⟨q, 0, none⟩ j) (by rw [add_blk]; exact hq)).trans (hc j hj)
/-- A chunk that an iterator tells. -/
structure ChY (B : Nat) (x : S3) (ch : List Int) (W : World) : Prop where
  n : x.2.1 = ch.length
  c : ch.length ≤ x.2.2
  by_ : Bytes ch
  ne : ch ≠ []
  rd : RdB W x.1 ch.length ch
  at_ : ∃ q cells, x.1 = some ⟨q, 0, none⟩ ∧ B ≤ q ∧ W.heap[q]? = some (.cells cells 5 (0, 0))
theorem ChY.move {B : Nat} {x : S3} {ch : List Int} {W W1 : World} (h : ChY B x ch W) (hq : ∀ q cells, x.1 = some ⟨q, 0, none⟩ → B ≤ q → W.heap[q]? = some (.cells cells 5 (0, 0)) → W1.heap[q]? = W.heap[q]?) : ChY B x ch W1 := by
  obtain ⟨h1, h2, h3, h4, h5, q, cells, e, hB, hl⟩ := h
  have he := hq q cells e hB hl
  refine ⟨h1, h2, h3, h4, ?_, q, cells, e, hB, he.trans hl⟩
  rw [e] at h5 ⊢
  exact h5.move he
theorem ChY.mono {B B1 : Nat} {x : S3} {ch : List Int} {W : World} (h : ChY B x ch W) (hB : B1 ≤ B) : ChY B1 x ch W := by
  obtain ⟨h1, h2, h3, h4, h5, q, cells, e, hq, hl⟩ := h
  exact ⟨h1, h2, h3, h4, h5, q, cells, e, by omega, hl⟩
def FoC (o : Obj) : Prop := o.isCells = false ∨ ∃ cs, o = .cells cs 140 (0, 0) ∨ o = .cells cs 169 (0, 0)
theorem foc_no {cells : Array Value} {t : Nat} (h1 : t ≠ 140) (h2 : t ≠ 169) : ¬ FoC (.cells cells t (0, 0)) := by
  rintro (h | ⟨cs, h | h⟩)
  · cases h
  · injection h with _ h; exact h1 h
  · injection h with _ h; exact h2 h
theorem Qs.cells {B0 : Nat} {A C : World} (h : Qs FoC B0 A C) {k : Nat} {cells : Array Value} {t : Nat} (hk : A.heap[k]? = some (.cells cells t (0, 0))) (h1 : t ≠ 140) (h2 : t ≠ 169) : C.heap[k]? = A.heap[k]? :=
  h.block k (Array.getElem?_eq_some_iff.1 hk).1 (fun ⟨_, o, ho, hf⟩ => by rw [hk] at ho; cases ho; exact foc_no h1 h2 hf)
theorem ChY.qs {B B0 : Nat} {x : S3} {ch : List Int} {A C : World} (h : ChY B x ch A) (hQ : Qs FoC B0 A C) : ChY B x ch C := h.move fun q cells _ _ hl => hQ.cells hl (by decide) (by decide)
theorem ChY.later {B : Nat} {x : S3} {ch : List Int} {A C : World} (h : ChY B x ch A) (hl : Below A.heap.size A C) : ChY B x ch C := h.move fun q cells _ _ hb => hl.block q (Array.getElem?_eq_some_iff.1 hb).1
def Yc (CH : List (List Int)) (B M : Nat) (pre : List S3) (x : S3) (W : World) : Prop := pre.length < CH.length ∧ B ≤ M ∧ M ≤ W.heap.size ∧ ChY B x (CH.getD pre.length []) W
theorem KL_at {w : World} {B0 : Nat} {ok : Nat → Prop} {q m cap : Nat} {L : List (List Int)} (h : KL.R 33 w B0 ok (.slice (some ⟨q, 0, none⟩) m cap) L) (k : Nat) (hk : k < m) :
    ∃ x cx, w.cell? ⟨q, k, none⟩ = some (.slice x (L.getD k []).length cx) ∧ OwB w B0 (.slice x (L.getD k []).length cx) (L.getD k []) := by
  obtain ⟨c, hc1, hM, hcell, _⟩ := Kd.R_elem h [] (k : Int) (by omega) (by omega)
  rw [Int.toNat_natCast] at hM hcell
  obtain ⟨v, rfl, hR⟩ := hM
  obtain ⟨x, cx, rfl, _, _⟩ := Kd.R_reads hR
  have h1 := hcell 0 _ rfl
  have e : k * (Kd.slice 5 (Kd.int .u8)).sz + 0 = k := by
    have : (Kd.slice 5 (Kd.int .u8)).sz = 1 := rfl
    rw [this]; omega
  rw [e] at h1
  exact ⟨x, cx, h1, Kd.R_mono hR (fun _ _ => trivial)⟩
theorem OwB.chY {w : World} {B : Nat} {x : Option Addr} {cx : Nat} {ch : List Int} (h : OwB w B (.slice x ch.length cx) ch) (hne : ch ≠ []) (hb : Bytes ch) : ChY B (x, ch.length, cx) ch w := by
  obtain ⟨_, hc, hr⟩ := Kd.R_reads' h
  obtain ⟨g, cap, he, hB, hl, cells, hcl⟩ := Kd.R_form h (List.length_pos_iff.2 hne)
  injection he with he _ _
  exact ⟨rfl, hc, hb, hne, hr, g, cells, he, hB, hcl⟩
theorem clone_calls' (ad : Addr) (n c : Nat) (xs : List Int) (w : World) (h : RdB w (some ad) n xs) (hn : n ≤ 70368744177664) :
    Calls Tryd.prog 64 #[.slice (some ad) n c] w fun e w' => ∃ v, e = .returned v ∧ OwB w' w.heap.size v xs ∧ Below w.heap.size w w' := by
  have H := Aside0.mk h
  have hnil := Lib.run_eql_slice_nil (P := Tryd.prog) w 33 5 (some ad) n c 0 0 Tryd.underlying33
  simp only [Option.isNone_some] at hnil
  clear h
  go_enter Tryd.func64, Tryd.ntmps64
  go_wp2_with (at_builtin; refine appBs (w0 := w) w.heap.size rfl (.tmp 5) (.tmp 6) rfl (.slice (some ⟨w.heap.size, 0, none⟩) 0 0) [] xs (some ad) n c rfl rfl (own_litB w _ [] _ _ rfl rfl (Nat.le_refl _) (by simp)) (Kd.C_alloc H.out _) ((Below.refl _ _).alloc (Nat.le_refl _) _) (by simp) (by simp; omega) ?_; intro v1 w1 hO hB _ _)
  go_ret
  exact ⟨_, rfl, by simpa using hO, hB⟩
theorem CSt.kb {B0 g gr a b c M : Nat} {cur : List Int} {v : Value} {w w1 : World} (h : CSt B0 g gr a b c cur v w) (hM : w.heap.size ≤ M) (hk : Kb B0 M w w1) : CSt B0 g gr a b c cur v w1 := by
  obtain ⟨cs, hrt⟩ := h.typed
  have hg := (Array.getElem?_eq_some_iff.1 h.blk).1
  have hr := (Array.getElem?_eq_some_iff.1 hrt).1
  exact ⟨(hk.2 g h.hg (by omega)).trans h.blk, h.roll.move (hk.2 gr h.hr (by omega)), Kd.R_mono (Kd.R_move (Kd.R_bound h.own) (fun q hq => hk.2 q hq.2.1 (by have := hq.2.2.1; omega))) (fun _ hq => trivial), h.by_, h.hg, h.hr⟩
theorem KL.kb {B0 M : Nat} {vo : Value} {L : List (List Int)} {w w1 : World} {ok : Nat → Prop} (h : KL.R 33 w B0 ok vo L) (hM : w.heap.size ≤ M) (hk : Kb B0 M w w1) : KL.R 33 w1 B0 ok vo L :=
  Kd.R_mono (Kd.R_move (Kd.R_bound h) (fun q hq => hk.2 q hq.2.1 (by have := hq.2.2.1; omega))) (fun _ hq => hq.1)
theorem wrL_count (a c p : Nat) : ∀ (xs cur : List Int), (wrL a c p cur xs).1.length ≤ xs.length
  | [], cur => by simp [wrL]
  | x :: t, cur => by
    by_cases h : cutAt a c p (cur ++ [x]) = true
    · rw [wrL_step_cut h]
      have := wrL_count a c p t []
      simp; omega
    · rw [wrL_step_on h]
      have := wrL_count a c p t (cur ++ [x])
      simp; omega
theorem wrL_bytes {a c p : Nat} {xs : List Int} (h : Bytes xs) : (∀ ch ∈ (wrL a c p [] xs).1, Bytes ch) ∧ Bytes (wrL a c p [] xs).2 := by
  have hf := wrL_flat (mn := a) (mx := c) (p := p) xs []
  rw [List.nil_append] at hf
  rw [← hf] at h
  refine ⟨fun ch hc x hx => h x (List.mem_append_left _ (List.mem_flatten.2 ⟨ch, hc, hx⟩)), fun x hx => h x (List.mem_append_right _ hx)⟩
theorem qs_end {B g gr a b c : Nat} {cur : List Int} {v : Value} {w w3 : World} (hC : CSt B g gr a b c cur v w) (hF : Fr w w3 (fun k => k = g ∨ k = gr)) : Qs FoC B w w3 := Fr.mono hF (by
  obtain ⟨cs, hrt⟩ := hC.typed
  rintro k (rfl | rfl)
  · exact ⟨hC.hg, _, hC.blk, .inr ⟨_, .inl rfl⟩⟩
  · exact ⟨hC.hr, _, hrt, .inr ⟨_, .inr rfl⟩⟩)
theorem hout_new {W w1 : World} {g gr a b c : Nat} {A : Option Addr} {n : Nat} {xs cur : List Int} {v : Value} (hX : RdB W A n xs) (hC : CSt W.heap.size g gr a b c cur v w1) : ∀ ad, A = some ad → 0 < n → ¬ SW g gr (.slice none 0 0) ad.block := by
  rintro ad rfl hp hs
  have h1 := rdB_lt hX hp
  have h2 := hC.hg
  have h3 := hC.hr
  rcases hs with h | h | h
  · omega
  · omega
  · simp [Value.ownBlock] at h
theorem hsw_ge {B g gr a b c : Nat} {cur : List Int} {v : Value} {w1 : World} (hC : CSt B g gr a b c cur v w1) : ∀ k, SW g gr (.slice none 0 0) k → B ≤ k := by
  rintro k (h | h | h)
  · have := hC.hg; omega
  · have := hC.hr; omega
  · simp [Value.ownBlock] at h
set_option maxRecDepth 100000 in
set_option maxHeartbeats 4000000 in
theorem all1_seq (a b c pB bB n cp : Nat) (A : Option Addr) (xs : List Int) (w : World) (hpB : w.heap[pB]? = some (.cells #[.int .i64 (a : Int), .int .i64 (b : Int), .int .i64 (c : Int)] 24 (0, 0))) (hbB : w.heap[bB]? = some (.cells #[.slice A n cp] 33 (0, 0))) (hX : RdB w A n xs) (hby : Bytes xs) (hm : mayB a b c = true) (hn : n ≤ 1073741824) :
    SeqY FoC Fence.wide 9 Tryd.prog 74 #[.pointer (some ⟨pB, 0, none⟩), .pointer (some ⟨bB, 0, none⟩)] (fun x => #[encS x]) (Yc (al a c (pw b) [] xs)) (fun ys => ys.length = (al a c (pw b) [] xs).length) (fun pre => pre.length ≤ (al a c (pw b) [] xs).length) w := by
  intro l J Jx W hW hJ hY h0
  obtain rfl : xs.length = n := hX.1
  obtain ⟨m1, m2, m3, m4⟩ : 1 ≤ a ∧ a ≤ b ∧ b ≤ c ∧ c ≤ 4096 := by unfold mayB at hm; simp at hm; omega
  have HPB := Aside0.mk (Later.heap hW hpB)
  have HBB := Aside0.mk (Later.heap hW hbB)
  have HX := Aside0.mk (Kd.C_below hX hW)
  have HM := Aside0.mk hm
  have HJ := Aside0.mk hJ
  have HY := Aside0.mk hY
  have H0 := Aside0.mk h0
  have HSZ := Aside0.mk (wrL_sizes (p := pw b) (by omega : a ≤ c) xs [] (by simp; omega))
  have HBY := Aside0.mk (wrL_bytes (a := a) (c := c) (p := pw b) hby)
  have HLN : Aside0 ((wrL a c (pw b) [] xs).1.length ≤ xs.length) := ⟨wrL_count a c (pw b) xs []⟩
  obtain ⟨CHw, hCHw⟩ : ∃ z, (wrL a c (pw b) [] xs).1 = z := ⟨_, rfl⟩
  obtain ⟨rst, hrst⟩ : ∃ z, (wrL a c (pw b) [] xs).2 = z := ⟨_, rfl⟩
  have HCH : Aside0 (al a c (pw b) [] xs = CHw ++ (if rst = [] then [] else [rst])) := ⟨by unfold al; rw [hCHw, hrst]⟩
  rw [hCHw, hrst] at HSZ HBY
  rw [hCHw] at HLN
  have HW1 := Aside0.mk hCHw
  have HBYX := Aside0.mk hby
  have HW2 := Aside0.mk hrst
  obtain ⟨CH, hCH⟩ : ∃ z, al a c (pw b) [] xs = z := ⟨_, rfl⟩
  rw [hCH] at HY HCH ⊢
  clear hm hJ hY h0 hCHw hrst hCH hX hpB hbB hW hby
  obtain ⟨q0, q1, q2⟩ := pm_cells HPB.out
  refine callsIn_of_wp Tryd.func74 rfl trivial ?_ rfl
  simp only [Tryd.ntmps74, List.size_toArray, List.length_cons, List.length_nil, Nat.reduceAdd, Nat.reduceSub, Array.replicate_succ, Array.replicate_zero, List.push_toArray, List.append_toArray, List.nil_append, List.cons_append]
  gi_wp2_with (first
    | (refine ⟨trivial, ?_⟩; gi_at_call 75; refine callsIn_wide.2 ((cnew_ok a b c W HM.out).mono ?_); rintro e w1 ⟨g, gr, rfl, hC1, hB1⟩; have HC1 := Aside0.mk hC1; have HB1 := Aside0.mk hB1; have hbx : w1.cell? ⟨bB, 0, none⟩ = some (.slice A xs.length cp) := (by rw [blk_cell (Later.heap hB1 HBB.out)]; rfl); clear hC1 hB1)
    | (refine ⟨trivial, ?_⟩; gi_at_call 76; refine callsIn_wide.2 ((cwrite_calls W.heap.size g gr a b c [] (.slice none 0 0) A xs.length cp xs w1 HC1.out (Kd.C_below HX.out HB1.out) (hout_new HX.out HC1.out) HBYX.out HB1.out.size hn (by simp) (by omega) (by omega)).mono ?_); rw [HW1.out, HW2.out]; rintro e w2 ⟨vo, v, rfl, hC2, hO2, hF2, -, -⟩; have hB2 : Below W.heap.size W w2 := HB1.out.trans (hF2.below (hsw_ge HC1.out) HB1.out.size); have HJ0 := Aside0.mk (H0.out w2 hB2); have HC2 := Aside0.mk hC2; have HO2 := Aside0.mk hO2; have hs2 : W.heap.size ≤ w2.heap.size := hB2.size; obtain ⟨vA, vc, rfl, hvc, -⟩ := Kd.R_reads hO2; clear hC2 hO2 hF2 hB2 hbx))
  gi_loopw [7, 20] (fun _ i wr => ∃ (k : Nat) (pre : List S3), pre.length = k ∧ k ≤ CHw.length ∧ i = .int .i64 k ∧ J w2.heap.size pre wr ∧ Kb W.heap.size w2.heap.size w2 wr) (fun _ i _ => CHw.length - (intOf i).toNat)
  case atStart => exact ⟨0, [], rfl, Nat.zero_le _, rfl, HJ0.out, Kb.refl _ _ _⟩
  case round =>
    obtain ⟨k, pre, hpl, hk, rfl, hJk, hKb⟩ := hrel
    have HKB := Aside0.mk hKb
    have HJK := Aside0.mk hJk
    have HPL := Aside0.mk hpl
    clear hKb hJk hpl
    have hsr : w2.heap.size ≤ wr.heap.size := HKB.out.1
    by_cases hlt : k < CHw.length
    · obtain ⟨q, cap, he, hq0, hq1, -⟩ := Kd.R_form HO2.out (by omega)
      injection he with he1 _ he3
      subst he1; subst he3
      obtain ⟨x, cx, hcell, hOx⟩ := KL_at (KL.kb HO2.out (Nat.le_refl _) HKB.out) k hlt
      have hmem : CHw.getD k [] ∈ CHw := by rw [List.getD_eq_getElem?_getD, List.getElem?_eq_getElem hlt]; exact List.getElem_mem _
      have hgd : CH.getD k [] = CHw.getD k [] := by rw [HCH.out, List.getD_eq_getElem?_getD, List.getElem?_append_left hlt, ← List.getD_eq_getElem?_getD]
      have hlC : CHw.length ≤ CH.length := by rw [HCH.out, List.length_append]; omega
      have hne : CHw.getD k [] ≠ [] := List.length_pos_iff.1 (HSZ.out.1 _ hmem).2.1
      have hYc : Yc CH W.heap.size w2.heap.size pre (x, (CHw.getD k []).length, cx) wr := ⟨by rw [HPL.out]; omega, hs2, hsr, by rw [HPL.out, hgd]; exact hOx.chY hne (HBY.out.1 _ hmem)⟩
      obtain ⟨fn, tmps, assign, body, hy, hR⟩ := HY.out w2.heap.size pre (x, (CHw.getD k []).length, cx) wr HJK.out hYc
      have HR := Aside0.mk hR
      dsimp only [encS] at hy
      generalize (CHw.getD k []).length = m at *
      clear hOx hmem hgd hne hYc hR
      gi_wp2
      refine HR.out.mono ?_
      rintro e W3 (⟨rfl, hJ3, hk3⟩ | ⟨rfl, hJx3⟩)
      · gi_wp2
        go_roundw
        case rel => exact ⟨k + 1, pre ++ [(x, m, cx)], by rw [List.length_append, HPL.out]; rfl, by omega, by rw [show wrap64 ((k : Int) + 1) = ((k + 1 : Nat) : Int) by have := HLN.out; unfold wrap64; omega], hJ3, HKB.out.trans hk3⟩
        case measure => rw [show wrap64 ((k : Int) + 1) = ((k + 1 : Nat) : Int) by have := HLN.out; unfold wrap64; omega]; simp [intOf]; omega
      · gi_wp2
        refine bodyPost_ret (results_none rfl _ _ _) rfl ⟨⟨_, rfl⟩, .inr ⟨_, _, ?_, hJx3⟩⟩
        rw [List.length_append, HPL.out]
        simp; omega
    · obtain rfl : k = CHw.length := by omega
      have HCr := Aside0.mk (HC2.out.kb (Nat.le_refl _) HKB.out)
      obtain ⟨vB, d, rfl, hvd, -⟩ := HC2.out.own.reads
      by_cases hr0 : rst.length = 0
      · gi_wp2_with (refine ⟨trivial, ?_⟩; gi_at_call 77; refine callsIn_wide.2 ((end_calls W.heap.size g gr a b c rst _ wr HCr.out).mono ?_); rintro e w3 ⟨rfl, -, -, hF3⟩; have HJ3 := Aside0.mk (HJ.out _ _ _ _ HJK.out (qs_end HCr.out hF3)); clear hF3)
        refine bodyPost_end (results_none rfl _ _ _) rfl ⟨⟨_, rfl⟩, .inl ⟨pre, w2.heap.size, ?_, HJ3.out⟩⟩
        rw [HPL.out, HCH.out, if_pos (List.eq_nil_of_length_eq_zero hr0), List.append_nil]
      · have hrp : 0 < rst.length := by omega
        have hrne : rst ≠ [] := List.length_pos_iff.1 hrp
        have HCHr : Aside0 (CH = CHw ++ [rst]) := ⟨by rw [HCH.out, if_neg hrne]⟩
        have HRL : Aside0 (rst.length ≤ 4096) := ⟨by have := HSZ.out.2; omega⟩
        gi_wp2_with (first
          | (refine ⟨trivial, ?_⟩; gi_at_call 77; refine callsIn_wide.2 ((end_calls W.heap.size g gr a b c rst _ wr HCr.out).mono ?_); rintro e w3 ⟨rfl, -, hO3, hF3⟩; have HJ3 := Aside0.mk (HJ.out _ _ _ _ HJK.out (qs_end HCr.out hF3)); obtain ⟨qB, cB, heB, -⟩ := Kd.R_form hO3 hrp; injection heB with heB _ _; subst heB; have HR3 := Aside0.mk (Kd.R_reads' hO3).2.2; have hs3 := hF3.size; clear hO3 hF3)
          | (refine ⟨trivial, ?_⟩; gi_at_call 64; refine callsIn_wide.2 ((clone_calls' _ rst.length _ rst w3 HR3.out (by have := HRL.out; omega)).mono ?_); rintro e w4 ⟨v4, rfl, hO4, hB4⟩; have hs4 := hB4.size; have HJ4 := Aside0.mk (HJ.out _ _ _ _ HJ3.out (Fr.mono (Fr.later (S := fun _ => False) hB4) (fun _ h => h.elim))); obtain ⟨x, cx, rfl, -, -⟩ := hO4.reads; have hYc : Yc CH W.heap.size w2.heap.size pre (x, rst.length, cx) w4 := ⟨by rw [HPL.out, HCHr.out]; simp, hs2, by omega, by rw [HPL.out, HCHr.out]; simp only [List.getD_eq_getElem?_getD, List.getElem?_concat_length, Option.getD_some]; exact (hO4.chY hrne HBY.out.2).mono (by omega)⟩; obtain ⟨fn, tmps, assign, body, hy, hR⟩ := HY.out w2.heap.size pre (x, rst.length, cx) w4 HJ4.out hYc; have HR := Aside0.mk hR; dsimp only [encS] at hy; clear hO4 hB4 hYc hR))
        refine HR.out.mono ?_
        rintro e W5 (⟨rfl, hJ5, -⟩ | ⟨rfl, hJx5⟩)
        · gi_wp2
          refine bodyPost_end (results_none rfl _ _ _) rfl ⟨⟨_, rfl⟩, .inl ⟨_, _, ?_, hJ5⟩⟩
          rw [HCHr.out, List.length_append, List.length_append, HPL.out]
          rfl
        · gi_wp2
          refine bodyPost_end (results_none rfl _ _ _) rfl ⟨⟨_, rfl⟩, .inr ⟨_, _, ?_, hJx5⟩⟩
          rw [HCHr.out, List.length_append, List.length_append, HPL.out]
          exact Nat.le_refl _
end Go.Proofs.YtdfahblgnbdndaaDoor
namespace Go.Proofs.YtdfahblgnbdndaaDoor
open Go.RowKit Go.Shelf Go.Proofs.YtdfahblgnbdndaaDoorW.PrintWords Go.Proofs.YtdfahblgnbdndaaDoorW.PrintMore
set_option linter.unusedVariables false
set_option linter.unusedSimpArgs false
attribute [local go_sem] Oper.semAt_some
theorem all_calls (A : Option Addr) (n cp : Nat) (a b c : Int) (w : World) :
    Calls Tryd.prog 59 #[.slice A n cp, .agg #[.int .i64 a, .int .i64 b, .int .i64 c]] w fun e w' => e = .returned (.func (.func 74) #[] #[.pointer (some ⟨w.heap.size + 1, 0, none⟩), .pointer (some ⟨w.heap.size, 0, none⟩)]) ∧ w' = (w.alloc (.cells #[.slice A n cp] 33)).alloc (.cells #[.int .i64 a, .int .i64 b, .int .i64 c] 24) := by
  have hmf : ∀ (fn : Fn) (first cap : Array Value) (w : World), (Instr.makeFunc fn first cap).run Tryd.prog w = .ok (.func fn first cap) w := fun _ _ _ _ => rfl
  go_enter Tryd.func59, Tryd.ntmps59
  go_wp2
  go_ret
  exact ⟨rfl, rfl⟩
/-- What a collector keeps. -/
structure CI (w : World) (ob : Nat) (CH : List (List Int)) (M : Nat) (pre : List S3) (W : World) : Prop where
  m1 : w.heap.size ≤ M
  m2 : M ≤ W.heap.size
  fr : Fr w W (fun k => k = ob)
  box : ∃ v, W.heap[ob]? = some (.cells #[v] 61 (0, 0)) ∧ OwT W M v pre
  chs : ∃ L : List (S3 × List Int), L.map (·.1) = pre ∧ L.map (·.2) = CH.take pre.length ∧ ∀ p ∈ L, ChY w.heap.size p.1 p.2 W
theorem OwT.move {w w1 : World} {base : Nat} {v : Value} {xs : List S3} (h : OwT w base v xs) (hm : ∀ k cells, base ≤ k → w.heap[k]? = some (.cells cells 33 (0, 0)) → w1.heap[k]? = w.heap[k]?) : OwT w1 base v xs :=
  Kd.R_mono (Kd.R_move (Kd.R_bound h) (fun k hk => by
    obtain ⟨_, hb, _, q, hq, cells, hc⟩ := hk
    rcases List.mem_cons.1 hq with rfl | hq
    · exact hm k cells hb hc
    · cases hq)) (fun _ hk => hk.1)
theorem CI.qs {w A B : World} {ob M : Nat} {CH : List (List Int)} {pre : List S3} (h : CI w ob CH M pre A) (hQ : Qs FoC w.heap.size A B) : CI w ob CH M pre B := by
  obtain ⟨h1, h2, h3, ⟨v, h4, h5⟩, L, h6, h7, h8⟩ := h
  exact ⟨h1, Nat.le_trans h2 hQ.size, h3.next hQ (fun i hi => .inr hi.1), ⟨v, (hQ.cells h4 (by decide) (by decide)).trans h4, h5.move fun k cells _ hk => hQ.cells hk (by decide) (by decide)⟩, L, h6, h7, fun p hp => (h8 p hp).qs hQ⟩
theorem CI.start {w : World} {ob : Nat} (hob : w.heap[ob]? = some (.cells #[.slice none 0 0] 61 (0, 0))) (CH : List (List Int)) (W1 : World) (h : Below w.heap.size w W1) : CI w ob CH W1.heap.size [] W1 :=
  ⟨h.size, Nat.le_refl _, Fr.later h, ⟨_, Later.heap h hob, Kd.R_nil _ _ _ _ _⟩, [], rfl, rfl, fun p hp => (by cases hp)⟩
/-- A chunk more. -/
theorem CI.snoc {w W w2 : World} {ob B1 M : Nat} {CH : List (List Int)} {pre : List S3} {x : S3} {v v2 : Value} (h : CI w ob CH M pre W) (hY : Yc CH B1 M pre x W) (hB : w.heap.size ≤ B1) (hob : ob < w.heap.size) (hb : W.heap[ob]? = some (.cells #[v] 61 (0, 0)))
    (hO : OwT W M v pre) (hO2 : OwT w2 M v2 (pre ++ [x])) (hG : W.grownBy w2 v.ownBlock) :
    Kb w.heap.size M W (w2.setCell ⟨ob, 0, none⟩ v2) ∧ CI w ob CH M (pre ++ [x]) (w2.setCell ⟨ob, 0, none⟩ v2) := by
  obtain ⟨h1, h2, h3, -, L, h6, h7, h8⟩ := h
  obtain ⟨y1, y2, y3, y4⟩ := hY
  have hobv : some ob ≠ v.ownBlock := Kd.R_ne hO hb (by decide)
  have hoW : ob < W.heap.size := (Array.getElem?_eq_some_iff.1 hb).1
  have hb2 : w2.heap[ob]? = some (.cells #[v] 61 (0, 0)) := (hG.block ob hoW hobv).trans hb
  have hvM : ∀ q, v.ownBlock = some q → M ≤ q := fun q hq => by
    rcases Kd.R_base2 hO with h | ⟨q', h, hq'⟩
    · rw [h] at hq; cases hq
    · rw [h] at hq; cases hq; exact hq'
  have hF : Fr W (w2.setCell ⟨ob, 0, none⟩ v2) (fun k => k = ob ∨ some k = v.ownBlock) :=
    ((Fr.refl W _).grown hG (fun i hi => .inl (.inr hi.symm))).set (setBlk_cell hb2 v2) (.inl (.inl rfl))
  have hCh : ∀ {p : S3} {ch : List Int}, ChY w.heap.size p ch W → ChY w.heap.size p ch (w2.setCell ⟨ob, 0, none⟩ v2) := fun hp => hp.move fun q cells _ hq hl => hF.block q (Array.getElem?_eq_some_iff.1 hl).1 (by
    rintro (rfl | e)
    · omega
    · exact absurd e (Kd.R_ne hO hl (by decide)))
  refine ⟨Kb.fr hF h2 (fun k hk => ?_), h1, Nat.le_trans h2 hF.size, h3.next hF (fun i hi => ?_), ⟨v2, ?_, ?_⟩, L ++ [(x, CH.getD pre.length [])], ?_, ?_, fun p hp => ?_⟩
  · rcases hk with rfl | e
    · exact .inl hob
    · exact .inr (hvM k e.symm)
  · rcases hi with rfl | e
    · exact .inl rfl
    · exact .inr (by have := hvM i e.symm; omega)
  · have := blk_set hb2 0 v2
    simpa using this
  · exact hO2.move fun k cells hk hc => Below.heap_setCell _ _ _ _ (by show k ≠ ob; omega)
  · simp [h6]
  · rw [List.map_append, h7, List.length_append]
    have : CH.take (pre.length + 1) = CH.take pre.length ++ [CH.getD pre.length []] := by
      rw [List.take_add_one, List.getD_eq_getElem?_getD, List.getElem?_eq_getElem y1]; rfl
    exact this.symm
  · rcases List.mem_append.1 hp with hp | hp
    · exact hCh (h8 p hp)
    · rw [List.mem_singleton.1 hp]
      exact hCh (y4.mono hB)
section
variable {ops : Array Oper} {rest : List Oper} {o : Oper} {a : Act} {Q : Exit → Act → World → Prop}
end
end Go.Proofs.YtdfahblgnbdndaaDoor
namespace Go.Proofs.YtdfahblgnbdndaaDoor
open Go.RowKit Go.Shelf Go.Proofs.YtdfahblgnbdndaaDoorW.PrintWords Go.Proofs.YtdfahblgnbdndaaDoorW.PrintMore
set_option linter.unusedVariables false
set_option linter.unusedSimpArgs false
attribute [local go_sem] Oper.semAt_some
/-- What an iterator of these bytes and numbers tells. -/
def Tells (a b c : Int) (A : Option Addr) (n cp : Nat) (xs : List Int) (CH : List (List Int)) : Prop :=
  ∀ (w : World) (pB bB : Nat), w.heap[pB]? = some (.cells #[.int .i64 a, .int .i64 b, .int .i64 c] 24 (0, 0)) → w.heap[bB]? = some (.cells #[.slice A n cp] 33 (0, 0)) → RdB w A n xs →
    SeqY FoC Fence.wide 9 Tryd.prog 74 #[.pointer (some ⟨pB, 0, none⟩), .pointer (some ⟨bB, 0, none⟩)] (fun x => #[encS x]) (Yc CH) (fun ys => ys.length = CH.length) (fun pre => pre.length ≤ CH.length) w
theorem tells_ok (a b c : Nat) (A : Option Addr) (n cp : Nat) (xs : List Int) (hby : Bytes xs) (hm : mayB a b c = true) (hn : n ≤ 1073741824) : Tells a b c A n cp xs (al a c (pw b) [] xs) :=
  fun w pB bB h1 h2 h3 => all1_seq a b c pB bB n cp A xs w h1 h2 h3 hby hm hn
/-- Chunks that were told. -/
def Told (base : Nat) (w : World) (CH : List (List Int)) (L : List (S3 × List Int)) : Prop := L.map (·.2) = CH ∧ ∀ p ∈ L, ChY base p.1 p.2 w
theorem CI.told {w w4 W : World} {ob M D n : Nat} {CH : List (List Int)} {pre : List S3} {va : Option Addr} {vc : Nat} (h : CI w4 ob CH M pre (W.putObj D (.deferred none))) (hl : pre.length = CH.length) (_ : True) (_ : True) (hk : W.heap[D]? = some (.deferred (some []))) (hO : OwT W M (.slice va n vc) pre) (hB : Below w.heap.size w w4) (hob : w.heap.size ≤ ob) :
    ∃ v L, Ending.returned (.slice va n vc) = .returned v ∧ OwT (W.putObj D (.deferred none)) w.heap.size v (L.map (·.1)) ∧ Told w.heap.size (W.putObj D (.deferred none)) CH L ∧ Below w.heap.size w (W.putObj D (.deferred none)) := by
  obtain ⟨h1, h2, h3, h4, L, h6, h7, h8⟩ := h
  rw [hl, List.take_length] at h7
  refine ⟨_, L, rfl, ?_, ⟨h7, fun p hp => (h8 p hp).mono hB.size⟩, hB.trans (h3.below (fun k hk => by omega) hB.size)⟩
  rw [h6]
  exact Kd.R_lower (hO.move fun k cells _ hc => World.putObj_heap_other (fun e => by subst e; rw [hk] at hc; cases hc)) (Nat.le_trans hB.size h1)
end Go.Proofs.YtdfahblgnbdndaaDoor
namespace Go.Proofs.YtdfahblgnbdndaaDoor
open Go.RowKit Go.Shelf Go.Proofs.YtdfahblgnbdndaaDoorW.PrintWords Go.Proofs.YtdfahblgnbdndaaDoorW.PrintMore
set_option linter.unusedVariables false
set_option linter.unusedSimpArgs false
attribute [local go_sem] Oper.semAt_some
abbrev OwN (w : World) (base : Nat) (v : Value) (xs : List Int) : Prop := (Kd.int .i64).R 3 w base (fun _ => True) v xs
abbrev RdN (w : World) (A : Option Addr) (n : Nat) (xs : List Int) : Prop := (Kd.int .i64).C w A n xs
theorem OwN.move {w w1 : World} {base : Nat} {v : Value} {xs : List Int} (h : OwN w base v xs) (hm : ∀ k cells, base ≤ k → w.heap[k]? = some (.cells cells 3 (0, 0)) → w1.heap[k]? = w.heap[k]?) : OwN w1 base v xs :=
  Kd.R_mono (Kd.R_move (Kd.R_bound h) (fun k hk => by
    obtain ⟨_, hb, _, q, hq, cells, hc⟩ := hk
    rcases List.mem_cons.1 hq with rfl | hq
    · exact hm k cells hb hc
    · cases hq)) (fun _ hk => hk.1)
def lens (L : List (List Int)) : List Int := L.map fun c => (c.length : Int)
theorem three_new (w : World) (c2 c3 c4 : Array Value) (t2 t3 t4 : Nat) :
    let w4 := ((w.alloc (.cells c2 t2)).alloc (.cells c3 t3)).alloc (.cells c4 t4)
    (w4.heap[w.heap.size]? = some (.cells c2 t2 (0, 0))) ∧ (w4.heap[w.heap.size + 1]? = some (.cells c3 t3 (0, 0))) ∧ (w4.heap[w.heap.size + 1 + 1]? = some (.cells c4 t4 (0, 0))) ∧ Below w.heap.size w w4 ∧ w4.heap.size = w.heap.size + 3 := by
  have s2 : (w.alloc (.cells c2 t2)).heap.size = w.heap.size + 1 := by simp
  have s3 : ((w.alloc (.cells c2 t2)).alloc (.cells c3 t3)).heap.size = w.heap.size + 1 + 1 := by simp
  refine ⟨?_, ?_, ?_, ?_, by simp⟩
  · rw [Below.heap_alloc _ _ _ (by omega), Below.heap_alloc _ _ _ (by omega)]
    exact blk_new w (.cells c2 t2)
  · rw [Below.heap_alloc _ _ _ (by omega)]
    have := blk_new (w.alloc (.cells c2 t2)) (.cells c3 t3)
    rwa [s2] at this
  · have := blk_new ((w.alloc (.cells c2 t2)).alloc (.cells c3 t3)) (.cells c4 t4)
    rwa [s3] at this
  · exact (((Below.refl _ w).alloc (Nat.le_refl _) _).alloc (by omega) _).alloc (by omega) _
end Go.Proofs.YtdfahblgnbdndaaDoor
namespace Go.Proofs.YtdfahblgnbdndaaDoor
open Go.RowKit Go.Shelf Go.Proofs.YtdfahblgnbdndaaDoorW.PrintWords Go.Proofs.YtdfahblgnbdndaaDoorW.PrintMore
set_option linter.unusedVariables false
set_option linter.unusedSimpArgs false
end Go.Proofs.YtdfahblgnbdndaaDoor
namespace Go.Proofs.YtdfahblgnbdndaaDoor
open Go.RowKit Go.Shelf Go.Proofs.YtdfahblgnbdndaaDoorW.PrintWords Go.Proofs.YtdfahblgnbdndaaDoorW.PrintMore
set_option linter.unusedVariables false
set_option linter.unusedSimpArgs false
/-- Numbers that Good makes. -/
theorem good_nat (a b c : Int) : ∃ a0 b0 c0 : Nat, gA a = a0 ∧ gB a b = b0 ∧ gC a b c = c0 ∧ 1 ≤ a0 ∧ a0 ≤ b0 ∧ b0 ≤ c0 ∧ c0 ≤ 70 ∧ mayB a0 b0 c0 = true := by
  obtain ⟨h1, h2, h3, h4, h5, h6⟩ := good_range a b c
  obtain ⟨a0, ha⟩ := Int.eq_ofNat_of_zero_le (show (0 : Int) ≤ gA a by omega)
  obtain ⟨b0, hb⟩ := Int.eq_ofNat_of_zero_le (show (0 : Int) ≤ gB a b by omega)
  obtain ⟨c0, hc⟩ := Int.eq_ofNat_of_zero_le (show (0 : Int) ≤ gC a b c by omega)
  refine ⟨a0, b0, c0, ha, hb, hc, by omega, by omega, by omega, by omega, ?_⟩
  unfold mayB
  simp
  omega
theorem al_count {a c p : Nat} {xs : List Int} : (al a c p [] xs).length ≤ xs.length + 1 := by
  unfold al
  rw [List.length_append]
  have := wrL_count a c p xs []
  split <;> simp <;> omega
/-- Each chunk's size. -/
theorem al_sizes {a c p : Nat} {xs : List Int} (h1 : 1 ≤ a) (h2 : a ≤ c) : ∀ k, k < (al a c p [] xs).length → 1 ≤ ((al a c p [] xs).getD k []).length ∧ ((al a c p [] xs).getD k []).length ≤ c ∧ (k + 1 < (al a c p [] xs).length → a ≤ ((al a c p [] xs).getD k []).length) := by
  obtain ⟨hs, hr⟩ := wrL_sizes (p := p) h2 xs [] (by simp; omega)
  intro k hk
  unfold al at hk ⊢
  rw [List.getD_eq_getElem?_getD]
  by_cases hl : k < (wrL a c p [] xs).1.length
  · rw [List.getElem?_append_left hl, List.getElem?_eq_getElem hl]
    have := hs _ (List.getElem_mem hl)
    simp only [Option.getD_some]
    omega
  · rw [List.getElem?_append_right (by omega)]
    rw [List.length_append] at hk
    split at hk
    · simp at hk; omega
    · rename_i hne
      simp only [List.length_append, if_neg hne, List.length_singleton] at hk ⊢
      obtain rfl : k = (wrL a c p [] xs).1.length := by omega
      simp
      have := List.length_pos_iff.2 hne
      omega
theorem al_mem_le {a c p : Nat} {xs : List Int} (h1 : 1 ≤ a) (h2 : a ≤ c) : ∀ x ∈ al a c p [] xs, 1 ≤ x.length ∧ x.length ≤ c := by
  intro x hx
  obtain ⟨k, hk⟩ := List.mem_iff_getElem?.1 hx
  have hl := (List.getElem?_eq_some_iff.1 hk).1
  have := al_sizes (p := p) (xs := xs) h1 h2 k hl
  rw [List.getD_eq_getElem?_getD, hk] at this
  exact ⟨this.1, this.2.1⟩
theorem mayB_nat {a b c : Int} (h : mayB a b c = true) : ∃ a0 b0 c0 : Nat, a = a0 ∧ b = b0 ∧ c = c0 ∧ 1 ≤ a0 ∧ a0 ≤ b0 ∧ b0 ≤ c0 ∧ c0 ≤ 4096 := by
  unfold mayB at h
  simp at h
  obtain ⟨a0, rfl⟩ := Int.eq_ofNat_of_zero_le (show (0 : Int) ≤ a by omega)
  obtain ⟨b0, rfl⟩ := Int.eq_ofNat_of_zero_le (show (0 : Int) ≤ b by omega)
  obtain ⟨c0, rfl⟩ := Int.eq_ofNat_of_zero_le (show (0 : Int) ≤ c by omega)
  exact ⟨a0, b0, c0, rfl, rfl, rfl, by omega, by omega, by omega, by omega⟩
end Go.Proofs.YtdfahblgnbdndaaDoor
