/- Contract: lz.Pack. Conditions: its own. -/
import Derived.Test.YtcbcoaafdggniaaLzPack
import Derived.ScopeJumps
import Derived.WalkMore
import Derived.Scope
namespace Go.Proofs.Ytcbcoaafdggniaa
open Go.RowKit Go.Shelf Go.Proofs.YtcbcoaafdggniaaW.PrintWords Go.Proofs.YtcbcoaafdggniaaW.PrintMore
set_option linter.unusedVariables false
set_option linter.unusedSimpArgs false
theorem LzSt.fr {w w1 : World} {S T : Nat → Prop} {g bm : Nat} {A : Option Addr} {N c : Nat} {b : List Int} {n : Nat} (h : LzSt w S g bm A N c b n) (k : Fr w w1 T) (hST : ∀ i, S i → ¬ T i) (hA : ∀ ad, A = some ad → 0 < N → ¬ T ad.block) : LzSt w1 S g bm A N c b n := by
  obtain ⟨M, hM⟩ := h.map
  refine ⟨(k.block g (h.bound g h.sg) (hST g h.sg)).trans h.cells, k.rdB h.read hA, h.out, h.sg, h.sb, h.gb, fun i hi => Nat.lt_of_lt_of_le (h.bound i hi) k.size, M, ?_⟩
  exact ⟨hM.is.move (k.block bm (h.bound bm h.sb) (hST bm h.sb)), fun ks v hk hv => ⟨k.own (hM.rows ks v hk hv).1 (fun q hq => hST q ((hM.rows ks v hk hv).2 q hq).1), (hM.rows ks v hk hv).2⟩, hM.nil_, hM.apart⟩
theorem PkSt.fr {w w1 : World} {T : Nat → Prop} {p4 p5 : Nat} {vo vn : Value} {out own : List Int} (h : PkSt w p4 p5 vo vn out own) (k : Fr w w1 T) (h4 : ¬ T p4) (h5 : ¬ T p5) (ho : ∀ q, vo.ownBlock = some q → ¬ T q) (hn : ∀ q, vn.ownBlock = some q → ¬ T q) : PkSt w1 p4 p5 vo vn out own :=
  ⟨(k.block p4 (blk_lt h.bo) h4).trans h.bo, (k.block p5 (blk_lt h.bn) h5).trans h.bn, h.ro.move (fun q hq => k.block q (h.ro.lt q hq) (ho q hq)), h.rn.move (fun q hq => k.block q (h.rn.lt q hq) (hn q hq)), h.ap, h.ne⟩
theorem QB.raise {w : World} {base base' : Nat} {v : Value} {xs : List Int} (h : QB w base v xs) (hk : ∀ k, v.ownBlock = some k → base' ≤ k) : QB w base' v xs := by
  obtain ⟨h1, h2⟩ := h
  refine ⟨h1, ?_⟩
  rcases h2 with ⟨h0, A, rfl, ha⟩ | ⟨g, off, cap, cur, rfl, hb, hr⟩
  · exact .inl ⟨h0, A, rfl, fun a e => ⟨hk _ (by rw [e]; rfl), (ha a e).2⟩⟩
  · exact .inr ⟨g, off, cap, cur, rfl, hk g rfl, hr⟩
/-- What Pack keeps of memory. -/
structure PK0 (w0 : World) (g bm p4 p5 : Nat) (A : Option Addr) (N c : Nat) (b : List Int) (i n : Nat) (S : Nat → Prop) (vo vn : Value) (out own : List Int) (w : World) : Prop where
  lz : LzSt w S g bm A N c b n
  ni : n ≤ i
  iN : i ≤ N
  pk : PkSt w p4 p5 vo vn out own
  dj : ∀ k, S k → w0.heap.size ≤ k ∧ k ≠ p4 ∧ k ≠ p5 ∧ vo.ownBlock ≠ some k ∧ vn.ownBlock ≠ some k
  ge : w0.heap.size ≤ p4 ∧ w0.heap.size ≤ p5
  go : ∀ k, vo.ownBlock = some k → w0.heap.size ≤ k
  gn : ∀ k, vn.ownBlock = some k → w0.heap.size ≤ k
  below : Below w0.heap.size w0 w
  al : ∀ ad, A = some ad → 0 < N → ad.block < w0.heap.size
section
variable {w0 w w' : World} {g bm p4 p5 : Nat} {A : Option Addr} {N c : Nat} {b : List Int} {i n : Nat} {S : Nat → Prop} {vo vn : Value} {out own : List Int}
theorem PK0.szs (h : PK0 w0 g bm p4 p5 A N c b i n S vo vn out own w) : w0.heap.size ≤ w.heap.size ∧ p4 < w.heap.size ∧ p5 < w.heap.size := ⟨h.below.size, blk_lt h.pk.bo, blk_lt h.pk.bn⟩
/-- The packed rows change (T), the finder not. -/
theorem PK0.turn {T : Nat → Prop} {vo' vn' : Value} {out' own' : List Int} (h : PK0 w0 g bm p4 p5 A N c b i n S vo vn out own w) (k : Fr w w' T) (hT : ∀ q, T q → q = p4 ∨ q = p5 ∨ vo.ownBlock = some q ∨ vn.ownBlock = some q)
    (hp : PkSt w' p4 p5 vo' vn' out' own') (ho : vo'.ownBlock = vo.ownBlock ∨ ∃ q, vo'.ownBlock = some q ∧ w.heap.size ≤ q) (hn : vn'.ownBlock = vn.ownBlock ∨ ∃ q, vn'.ownBlock = some q ∧ w.heap.size ≤ q) (j : Nat) (hj : i ≤ j) (hjN : j ≤ N) :
    PK0 w0 g bm p4 p5 A N c b j n S vo' vn' out' own' w' := by
  have hs := h.szs
  have hT0 : ∀ q, T q → w0.heap.size ≤ q := fun q hq => by
    rcases hT q hq with rfl | rfl | e | e
    · exact h.ge.1
    · exact h.ge.2
    · exact h.go q e
    · exact h.gn q e
  have hST : ∀ q, S q → ¬ T q := fun q hq ht => by
    have hd := h.dj q hq
    rcases hT q ht with e | e | e | e
    · exact hd.2.1 e
    · exact hd.2.2.1 e
    · exact hd.2.2.2.1 e
    · exact hd.2.2.2.2 e
  have hnew : ∀ (v v' : Value), (v'.ownBlock = v.ownBlock ∨ ∃ q, v'.ownBlock = some q ∧ w.heap.size ≤ q) → ∀ k, v'.ownBlock = some k → v.ownBlock = some k ∨ w.heap.size ≤ k := fun v v' h' k hk => by
    rcases h' with e | ⟨q, e, hq⟩
    · exact .inl (e ▸ hk)
    · rw [hk] at e; injection e with e; exact .inr (by omega)
  refine ⟨h.lz.fr k hST (fun ad e hp ht => ?_), by have := h.ni; omega, hjN, hp, fun q hq => ?_, h.ge, fun q hq => ?_, fun q hq => ?_, ?_, h.al⟩
  · have := h.al ad e hp
    have := hT0 _ ht
    omega
  · have hd := h.dj q hq
    have hb := h.lz.bound q hq
    refine ⟨hd.1, hd.2.1, hd.2.2.1, fun e => ?_, fun e => ?_⟩
    · rcases hnew _ _ ho q e with e' | e'
      · exact hd.2.2.2.1 e'
      · omega
    · rcases hnew _ _ hn q e with e' | e'
      · exact hd.2.2.2.2 e'
      · omega
  · rcases hnew _ _ ho q hq with e | e
    · exact h.go q e
    · omega
  · rcases hnew _ _ hn q hq with e | e
    · exact h.gn q e
    · omega
  · exact h.below.trans (k.below hT0 hs.1)
theorem PK0.put (h : PK0 w0 g bm p4 p5 A N c b i n S vo vn out own w) (k : PutPost w p4 p5 vo vn out own w') : ∃ vo' vn', PK0 w0 g bm p4 p5 A N c b i n S vo' vn' (out ++ litL own) [] w' := by
  obtain ⟨⟨vo', vn', h1, h2, h3⟩, hf⟩ := k
  refine ⟨vo', vn', h.turn hf (fun q hq => ?_) h1 h2 (.inl h3) i (Nat.le_refl _) h.iN⟩
  rcases hq with e | e | e
  · exact .inl e
  · exact .inr (.inl e)
  · exact .inr (.inr (.inl e))
theorem PK0.mtch (h : PK0 w0 g bm p4 p5 A N c b i n S vo vn out own w) (k : UpInv w S g bm A N c b n i w') : ∃ n' S', PK0 w0 g bm p4 p5 A N c b i n' S' vo vn out own w' := by
  obtain ⟨n', S', h1, h2, hl, hf, hs⟩ := k
  have hz := h.szs
  have hno : ∀ q, S q → q ≠ p4 ∧ q ≠ p5 ∧ vo.ownBlock ≠ some q ∧ vn.ownBlock ≠ some q := fun q hq => (h.dj q hq).2
  refine ⟨n', S', hl, h2, h.iN, h.pk.fr hf (fun e => (hno _ e).1 rfl) (fun e => (hno _ e).2.1 rfl) (fun q hq e => (hno q e).2.2.1 hq) (fun q hq e => (hno q e).2.2.2 hq), fun q hq => ?_, h.ge, h.go, h.gn, h.below.trans (hf.below (fun q hq => (h.dj q hq).1) hz.1), h.al⟩
  rcases hs q hq with e | e
  · exact h.dj q e
  · refine ⟨by omega, by omega, by omega, fun e' => ?_, fun e' => ?_⟩
    · have := h.pk.ro.lt q e'; omega
    · have := h.pk.rn.lt q e'; omega
theorem PK0.later (h : PK0 w0 g bm p4 p5 A N c b i n S vo vn out own w) (k : Later w w') : PK0 w0 g bm p4 p5 A N c b i n S vo vn out own w' :=
  h.turn (T := fun _ => False) (Fr.later k) (fun _ h => h.elim) (h.pk.later k) (.inl rfl) (.inl rfl) i (Nat.le_refl _) h.iN
/-- One byte is kept. -/
theorem PK0.lit {w1 w2 : World} {v1 : Value} {ys : List Int} (h : PK0 w0 g bm p4 p5 A N c b i n S vo vn out own w) (hq : QB w1 0 v1 ys) (hg : w.grownBy w1 vn.ownBlock) (hl : v1.ownBlock = vn.ownBlock ∨ ∃ q, v1.ownBlock = some q ∧ w.heap.size ≤ q)
    (hs : SetBlk w1 w2 p5 (.cells #[v1] 22 (0, 0))) (j : Nat) (hj : i ≤ j) (hjN : j ≤ N) : PK0 w0 g bm p4 p5 A N c b j n S vo v1 out ys w2 := by
  have F1 : Fr w w1 (fun k => k = p5 ∨ vn.ownBlock = some k) := (Fr.refl w _).grown hg (fun i hi => .inl (.inr hi))
  have F2 := F1.set hs (.inl (.inl rfl))
  have hN := h.pk.no4
  have b4 := (F1.block p4 (blk_lt h.pk.bo) (fun e => e.elim (fun e => h.pk.ne e) (fun e => hN.2.2.1 e))).trans h.pk.bo
  have b5 := (hg.block p5 (blk_lt h.pk.bn) (fun e => hN.2.2.2 e.symm)).trans h.pk.bn
  have ro1 := h.pk.ro.move (fun k hk => F1.block k (h.pk.ro.lt k hk) (fun e => e.elim (fun e => hN.2.1 (e ▸ hk)) (fun e => h.pk.ap k hk e)))
  have hn5 := hq.typed b5 (by decide)
  refine h.turn F2 (fun q e => e.elim (fun e => .inr (.inl e)) (fun e => .inr (.inr (.inr e)))) ⟨(hs.else_ _ h.pk.ne).trans b4, hs.at_, ro1.move (fun k hk => hs.else_ k (fun e => hN.2.1 (e ▸ hk))), hq.move (fun k hk => hs.else_ k (fun e => hn5 (e ▸ hk))), fun k hk e => ?_, h.pk.ne⟩ (.inl rfl) hl j hj hjN
  rcases hl with e' | ⟨q, e', hq'⟩
  · exact h.pk.ap k hk (e' ▸ e)
  · rw [e] at e'; injection e' with e'
    have := h.pk.ro.lt k hk
    omega
/-- A token is put out. -/
theorem PK0.tok {w1 w2 : World} {v1 : Value} {ys : List Int} (h : PK0 w0 g bm p4 p5 A N c b i n S vo vn out own w) (hq : QB w1 0 v1 ys) (hg : w.grownBy w1 vo.ownBlock) (hl : v1.ownBlock = vo.ownBlock ∨ ∃ q, v1.ownBlock = some q ∧ w.heap.size ≤ q)
    (hs : SetBlk w1 w2 p4 (.cells #[v1] 22 (0, 0))) (j : Nat) (hj : i ≤ j) (hjN : j ≤ N) : PK0 w0 g bm p4 p5 A N c b j n S v1 vn ys own w2 := by
  have F1 : Fr w w1 (fun k => k = p4 ∨ vo.ownBlock = some k) := (Fr.refl w _).grown hg (fun i hi => .inl (.inr hi))
  have F2 := F1.set hs (.inl (.inl rfl))
  have hN := h.pk.no4
  have b5 := (F1.block p5 (blk_lt h.pk.bn) (fun e => e.elim (fun e => h.pk.ne e.symm) (fun e => hN.2.1 e))).trans h.pk.bn
  have b4 := (hg.block p4 (blk_lt h.pk.bo) (fun e => hN.1 e.symm)).trans h.pk.bo
  have rn1 := h.pk.rn.move (fun k hk => F1.block k (h.pk.rn.lt k hk) (fun e => e.elim (fun e => hN.2.2.1 (e ▸ hk)) (fun e => h.pk.ap k e hk)))
  have hn4 := hq.typed b4 (by decide)
  refine h.turn F2 (fun q e => e.elim (fun e => .inl e) (fun e => .inr (.inr (.inl e)))) ⟨hs.at_, (hs.else_ _ h.pk.ne.symm).trans b5, hq.move (fun k hk => hs.else_ k (fun e => hn4 (e ▸ hk))), rn1.move (fun k hk => hs.else_ k (fun e => hN.2.2.1 (e ▸ hk))), fun k hk e => ?_, h.pk.ne⟩ hl (.inl rfl) j hj hjN
  rcases hl with e' | ⟨q, e', hq'⟩
  · exact h.pk.ap k (e' ▸ hk) e
  · rw [hk] at e'; injection e' with e'
    have := h.pk.rn.lt k e
    omega
theorem PK0.lit_store {w1 : World} {v1 : Value} {ys : List Int} (h : PK0 w0 g bm p4 p5 A N c b i n S vo vn out own w) (hq : QB w1 0 v1 ys) (hg : w.grownBy w1 vn.ownBlock) (hl : v1.ownBlock = vn.ownBlock ∨ ∃ q, v1.ownBlock = some q ∧ w.heap.size ≤ q) :
    ∃ A' c' w2, v1 = .slice A' ys.length c' ∧ (Instr.storeAt 22 (.pointer (some ⟨p5, 0, none⟩)) v1).run Try.prog w1 = .ok () w2 ∧ ∀ j, i ≤ j → j ≤ N → PK0 w0 g bm p4 p5 A N c b j n S vo v1 out ys w2 := by
  obtain ⟨A', c', rfl, _, _⟩ := hq.reads
  have b5 := (hg.block p5 (blk_lt h.pk.bn) (fun e => h.pk.no4.2.2.2 e.symm)).trans h.pk.bn
  obtain ⟨w2, h1, h2⟩ := store_bs b5 A' ys.length c'
  exact ⟨A', c', w2, rfl, h1, fun j hj hjN => h.lit hq hg hl h2 j hj hjN⟩
theorem PK0.tok_store {w1 : World} {v1 : Value} {ys : List Int} (h : PK0 w0 g bm p4 p5 A N c b i n S vo vn out own w) (hq : QB w1 0 v1 ys) (hg : w.grownBy w1 vo.ownBlock) (hl : v1.ownBlock = vo.ownBlock ∨ ∃ q, v1.ownBlock = some q ∧ w.heap.size ≤ q) :
    ∃ A' c' w2, v1 = .slice A' ys.length c' ∧ (Instr.storeAt 22 (.pointer (some ⟨p4, 0, none⟩)) v1).run Try.prog w1 = .ok () w2 ∧ ∀ j, i ≤ j → j ≤ N → PK0 w0 g bm p4 p5 A N c b j n S v1 vn ys own w2 := by
  obtain ⟨A', c', rfl, _, _⟩ := hq.reads
  have b4 := (hg.block p4 (blk_lt h.pk.bo) (fun e => h.pk.no4.1 e.symm)).trans h.pk.bo
  obtain ⟨w2, h1, h2⟩ := store_bs b4 A' ys.length c'
  exact ⟨A', c', w2, rfl, h1, fun j hj hjN => h.tok hq hg hl h2 j hj hjN⟩
end
/-- At a jump: all that Pack keeps. -/
structure PJ (w0 : World) (g bm p4 p5 : Nat) (A : Option Addr) (N c : Nat) (b : List Int) (i n : Nat) (S : Nat → Prop) (vo vn : Value) (out own : List Int) (w : World) : Prop where
  k : PK0 w0 g bm p4 p5 A N c b i n S vo vn out own w
  eq : packR b i own out = packL b
  lo : out.length + 2 * own.length ≤ 4 * i
  ln : own.length ≤ i
def PJx (w0 : World) (g bm p4 p5 : Nat) (A : Option Addr) (N c : Nat) (b : List Int) (i : Nat) (w : World) : Prop := ∃ n S vo vn out own, PJ w0 g bm p4 p5 A N c b i n S vo vn out own w
def PJump (w0 : World) (g bm p4 p5 : Nat) (A : Option Addr) (N c : Nat) (b : List Int) (a' : Act) (w' : World) : Prop :=
  ∃ (i : Nat) (u8 u9 u10 u11 u12 u13 u14 u15 u16 u17 u18 u19 u20 u21 u22 u23 u24 u25 u26 u27 u28 u29 u30 u31 u32 u33 u34 u35 u36 u37 u38 u39 u40 u41 u42 u43 u44 u45 u46 u47 u48 u49 u50 u51 u52 u53 u54 u55 : Value), a' = { tmps := #[.slice A N c, undef, .slice none 0 0, .pointer (some ⟨g, 0, none⟩), .pointer (some ⟨p4, 0, none⟩), .pointer (some ⟨p5, 0, none⟩), .func (.func 34) #[] #[.pointer (some ⟨p5, 0, none⟩), .pointer (some ⟨p4, 0, none⟩)], .int .i64 i, u8, u9, u10, u11, u12, u13, u14, u15, u16, u17, u18, u19, u20, u21, u22, u23, u24, u25, u26, u27, u28, u29, u30, u31, u32, u33, u34, u35, u36, u37, u38, u39, u40, u41, u42, u43, u44, u45, u46, u47, u48, u49, u50, u51, u52, u53, u54, u55], defers := [] } ∧ PJx w0 g bm p4 p5 A N c b i w'
theorem wp_scope_jumps2 {P : Program} {a : Act} {w : World} {Q : Exit → Act → World → Prop} {c body : Code} (l : Nat) (J : Act → World → Prop) (μ : Act → World → Nat) (hf : findLabel c l = some (Code.skip.seq body))
    (pass : ∀ a w, J a w → body.wp P (Exit.jump l (fun a' w' => J a' w' ∧ μ a' w' < μ a w) Q) a w)
    (first : (∀ a w, J a w → body.wp P (Exit.jump l J Q) a w) → c.wp P (Exit.jump l J Q) a w) : (Code.scope c).wp P Q a w :=
  wp_scope_jumps l J μ hf (first (fun a w h => wp_mono (pass a w h) (fun e a' w' hq => by
    cases e with
    | goto l' => exact ⟨hq.1, hq.2.1⟩
    | _ => exact hq))) (fun a w h => wp_seq (wp_skip (pass a w h)))
set_option maxRecDepth 20000 in
set_option maxHeartbeats 3200000 in
theorem pack_calls (A : Option Addr) (N c : Nat) (b : List Int) (w : World) (h : RdB w A N b) (hA : 0 < N → ∃ gb ob, A = some ⟨gb, ob, none⟩) (hb : Bytes b) (hcN : N ≤ c) (hN : N ≤ 1099511627776) :
    Calls Try.prog 21 #[.slice A N c] w fun e w' => ∃ v, e = .returned v ∧ QB w' w.heap.size v (packL b) ∧ Below w.heap.size w w' := by
  have hl := h.1
  have HX := Aside0.mk h
  clear h
  have hmf : ∀ (fn : Fn) (first cap : Array Value) (w : World), (Instr.makeFunc fn first cap).run Try.prog w = .ok (.func fn first cap) w := fun _ _ _ _ => rfl
  go_enter Try.func21, Try.ntmps21
  go_wp2
  refine wp_scope_jumps2 0 (PJump w (w.heap.size + 1) w.heap.size (w.heap.size + 2) (w.heap.size + 2 + 1) A N c b) (fun a' _ => N + 1 - (intOf (a'.tmps.getD 7 undef)).toNat) rfl ?pass ?first
  case first =>
    intro hrest
    go_wp2_with (first
      | (go_at_call 33; refine (over_calls A N c b w HX.out).mono ?_; rintro e w1 ⟨rfl, hs1, hB1, hL1⟩; have L1 : Aside0 (Later w w1) := ⟨hB1⟩; have HL1 := Aside0.mk hL1; clear hB1 hL1))
    refine wp_label ?_
    rename_i hK
    refine hK _ _ (hrest _ _ ?_)
    have K2 : Later w1 ((w1.alloc (.cells #[.slice none 0 0] 22)).alloc (.cells #[.slice none 0 0] 22)) := ((Below.refl _ w1).alloc (Nat.le_refl _) _).alloc (by simp) _
    have q4 : ((w1.alloc (.cells #[.slice none 0 0] 22)).alloc (.cells #[.slice none 0 0] 22)).heap[w1.heap.size]? = some (.cells #[.slice none 0 0] 22 (0, 0)) := by rw [Below.heap_alloc _ _ _ (by simp)]; exact blk_new w1 _
    have q5 : ((w1.alloc (.cells #[.slice none 0 0] 22)).alloc (.cells #[.slice none 0 0] 22)).heap[w1.heap.size + 1]? = some (.cells #[.slice none 0 0] 22 (0, 0)) := by have := blk_new (w1.alloc (.cells #[.slice none 0 0] 22)) (.cells #[.slice none 0 0] 22); simpa using this
    rw [hs1] at q4 q5
    refine ⟨0, _, _, _, _, _, _, _, _, _, _, _, _, _, _, _, _, _, _, _, _, _, _, _, _, _, _, _, _, _, _, _, _, _, _, _, _, _, _, _, _, _, _, _, _, _, _, _, _, rfl, ?_⟩
    refine ⟨0, _, .slice none 0 0, .slice none 0 0, [], [], ⟨⟨HL1.out.later K2, Nat.le_refl _, Nat.zero_le _, ⟨q4, q5, QB.nil _ _, QB.nil _ _, fun k hk => (by simp [Value.ownBlock] at hk), by omega⟩, ?_, ⟨by omega, by omega⟩, fun k hk => (by simp [Value.ownBlock] at hk), fun k hk => (by simp [Value.ownBlock] at hk), L1.out.trans K2, fun ad e hp => rdB_lt (e ▸ HX.out) hp⟩, rfl, by simp, by simp⟩⟩
    rintro k (rfl | rfl) <;> refine ⟨by omega, by omega, by omega, by simp [Value.ownBlock], by simp [Value.ownBlock]⟩
  case pass =>
    rintro a0 w0 ⟨i, u8, u9, u10, u11, u12, u13, u14, u15, u16, u17, u18, u19, u20, u21, u22, u23, u24, u25, u26, u27, u28, u29, u30, u31, u32, u33, u34, u35, u36, u37, u38, u39, u40, u41, u42, u43, u44, u45, u46, u47, u48, u49, u50, u51, u52, u53, u54, u55, rfl, n, S, vo, vn, out, own, hJ⟩
    have HJ := Aside0.mk hJ
    clear hJ
    have HK := Aside0.mk HJ.out.k
    have hiN := HK.out.iN
    have hlo := HJ.out.lo
    have hle : own.length ≤ 1099511627776 := by have := HJ.out.ln; omega
    by_cases hc : i = N
    · subst hc
      go_wp2_with (first
        | (go_at_call 34; (with_reducible refine at_cw w0 ?_); refine (put_calls _ _ _ _ _ _ w0 HK.out.pk (by omega) hle).mono ?_; rintro e w1 ⟨rfl, hp⟩; obtain ⟨vo', vn', hk1⟩ := HK.out.put hp; have HK1 := Aside0.mk hk1; have c4 : w1.cell? ⟨w.heap.size + 2, 0, none⟩ = some vo' := (by rw [blk_cell hk1.pk.bo]; rfl); clear hp hk1))
      dsimp only [Exit.jump]
      refine bodyPost_ret (results_tmp rfl _ _ _) rfl ?_
      refine ⟨_, rfl, ?_, HK1.out.below⟩
      have he := HJ.out.eq
      rw [packR_end (by omega)] at he
      rw [← he]
      exact HK1.out.pk.ro.raise HK1.out.go
    · have hcI : ¬ (i : Int) = (N : Int) := by omega
      have hlt : i < N := by omega
      have hltI : (i : Int) < (N : Int) := by omega
      obtain ⟨An, cn, rfl, hcn, _⟩ := HK.out.pk.rn.reads
      obtain ⟨Ao, co, rfl, hco, _⟩ := HK.out.pk.ro.reads
      obtain ⟨ad, ea⟩ : ∃ ad, A = some ad := by obtain ⟨gb, ob, e⟩ := hA (by omega); exact ⟨_, e⟩
      subst ea
      have hmok := lzM_ok (b := b) (i := i) (by omega)
      by_cases hm0 : (lzM b i).1 = 0
      · clear hmok
        go_wp2_with (first
          | (go_at_call 35; (with_reducible refine at_cw w0 ?_); refine (match2_calls S (w.heap.size + 1) w.heap.size N c _ b n i w0 hA HK.out.lz hb hcN HK.out.ni hiN hN).mono ?_; rintro e w1 ⟨rfl, hu⟩; obtain ⟨n1, S1, hk1⟩ := HK.out.mtch hu; have HK1 := Aside0.mk hk1; clear hu hk1))
        have HC5 : Aside0 (w1.drew.cell? ⟨w.heap.size + 2 + 1, 0, none⟩ = some (.slice An own.length cn)) := ⟨by rw [World.cell?_drew, blk_cell HK1.out.pk.bn]; rfl⟩
        have HRB : Aside0 (w1.drew.cell? (ad.add i) = some (.int .u8 (rd b i))) := ⟨rdB_at (Kd.C_drew HK1.out.lz.read) i hlt⟩
        refine seq_start [6, 7] (.take 0 (.pure 1 (.pure 2 (.pure 3 (.take 4 (.run 5 (.run 6 (.run 7 .done)))))))) (by kernel_rfl) (by kernel_rfl) (fun _ _ d _ _ h => by cases d <;> exact h) ?_
        refine seq_take (v := ?_) (a' := ?_) rfl rfl (by rfl) (fun w' hw' => ?_) ?_ ?_
        rotate_left 2
        · have hq := pw_cell_below hw' HC5.out; go_simp
          with_reducible rfl
        · simp only [Act.put, List.setIfInBounds_toArray, List.set_cons_zero, List.set_cons_succ, Go.Proofs.YtcbcoaafdggniaaW.PrintLast.i64_w, Go.Proofs.YtcbcoaafdggniaaW.PrintLast.i32_w]
          rfl
        refine seq_pure (v := ?_) (a' := ?_) rfl rfl (by rfl) (fun w' => ?_) ?_ ?_
        rotate_left 2
        · go_simp
          with_reducible rfl
        · simp only [Act.put, List.setIfInBounds_toArray, List.set_cons_zero, List.set_cons_succ, Go.Proofs.YtcbcoaafdggniaaW.PrintLast.i64_w, Go.Proofs.YtcbcoaafdggniaaW.PrintLast.i32_w]
          rfl
        refine seq_pure (v := ?_) (a' := ?_) rfl rfl (by rfl) (fun w' => ?_) ?_ ?_
        rotate_left 2
        · go_simp
          with_reducible rfl
        · simp only [Act.put, List.setIfInBounds_toArray, List.set_cons_zero, List.set_cons_succ, Go.Proofs.YtcbcoaafdggniaaW.PrintLast.i64_w, Go.Proofs.YtcbcoaafdggniaaW.PrintLast.i32_w]
          rfl
        refine seq_pure (v := ?_) (a' := ?_) rfl rfl (by rfl) (fun w' => ?_) ?_ ?_
        rotate_left 2
        · go_simp
          with_reducible rfl
        · simp only [Act.put, List.setIfInBounds_toArray, List.set_cons_zero, List.set_cons_succ, Go.Proofs.YtcbcoaafdggniaaW.PrintLast.i64_w, Go.Proofs.YtcbcoaafdggniaaW.PrintLast.i32_w]
          rfl
        refine seq_take (v := ?_) (a' := ?_) rfl rfl (by rfl) (fun w' hw' => ?_) ?_ ?_
        rotate_left 2
        · have hq := pw_cell_below hw' HRB.out; go_simp
          with_reducible rfl
        · simp only [Act.put, List.setIfInBounds_toArray, List.set_cons_zero, List.set_cons_succ, Go.Proofs.YtcbcoaafdggniaaW.PrintLast.i64_w, Go.Proofs.YtcbcoaafdggniaaW.PrintLast.i32_w]
          rfl
        refine seq_run ?_
        refine do_val (v := ?_) (a' := ?_) (w1 := ?_) rfl rfl (by rfl) ?_ ?_ ?_
        rotate_left 3
        · go_simp
          constructor <;> rfl
        · simp only [Act.put, List.setIfInBounds_toArray, List.set_cons_zero, List.set_cons_succ, Go.Proofs.YtcbcoaafdggniaaW.PrintLast.i64_w, Go.Proofs.YtcbcoaafdggniaaW.PrintLast.i32_w]
          rfl
        refine ⟨fun _ => below_alloc (Below.refl _ _) _, ?_⟩
        obtain ⟨W, hW, KW⟩ : ∃ W, Aside0 (W = (w1.alloc (.cells #[.int .u8 (rd b i)] 5)).drew) ∧ Aside0 (Later w1 W) := ⟨_, ⟨rfl⟩, ⟨Below.drew (below_alloc (Later.refl w1) _)⟩⟩
        have HRI : Aside0 (RdB W (some ⟨w1.heap.size, 0, none⟩) 1 [rd b i]) := ⟨by rw [hW.out]; exact Kd.C_drew (rd_lit w1 _ _ _ _ rfl rfl (by simp))⟩
        rw [← hW.out]
        clear hW HC5 HRB
        have HKW := Aside0.mk (HK1.out.later KW.out)
        refine seq_run ?_
        refine do_appQ 0 rfl rfl (by rfl) (.tmp 28) (.tmp 33) rfl (.slice An own.length cn) own [rd b i] (some ⟨w1.heap.size, 0, none⟩) 1 1 rfl rfl HKW.out.pk.rn HRI.out (Nat.zero_le _) (by omega) ?_
        intro v1 w2 hq1 hg1 hl1
        simp only [Act.put, List.setIfInBounds_toArray, List.set_cons_zero, List.set_cons_succ]
        refine ⟨fun h => absurd (by simp) h, ?_⟩
        obtain ⟨A2, c2, w3, rfl, hst, hk3⟩ := HKW.out.lit_store hq1 hg1 hl1
        have HK3 := Aside0.mk (hk3 (i + 1) (by omega) (by omega))
        refine seq_run ?_
        refine do_store (w1 := w3) rfl rfl (by rfl) (store_run rfl rfl rfl hst) ?_
        refine ⟨fun h => absurd (by simp) h, ?_⟩
        refine seq_end ?_
        clear hq1 hg1 hl1 hk3 hst
        go_wp2
        refine wp_goto ?_
        dsimp only [Exit.jump, Exit.then, Exit.inBlock]
        refine ⟨rfl, ⟨i + 1, _, _, _, _, _, _, _, _, _, _, _, _, _, _, _, _, _, _, _, _, _, _, _, _, _, _, _, _, _, _, _, _, _, _, _, _, _, _, _, _, _, _, _, _, _, _, _, _, rfl, _, _, _, _, _, _, HK3.out, ?_, ?_, ?_⟩, ?_⟩
        · rw [← packR_lit (by omega) hm0]
          exact HJ.out.eq
        · rw [List.length_append, List.length_singleton]; omega
        · have := HJ.out.ln
          rw [List.length_append, List.length_singleton]; omega
        · show N + 1 - ((i : Int) + 1).toNat < N + 1 - (i : Int).toNat
          omega
      · rcases hmok with e | ⟨m, d, hr, hm4, hm131, hd1, hd1024, hdi, him, -⟩
        · exact absurd (by rw [e]) hm0
        have hr1 : (lzM b i).1 = (m : Int) := by rw [hr]
        have hr2 : (lzM b i).2 = (d : Int) := by rw [hr]
        have hmI : ¬ (m : Int) = 0 := by omega
        have HM := Aside0.mk hr
        clear hr hm0
        have hll := litL_len own.length own (Nat.le_refl _)
        go_wp2_with (first
          | (go_at_call 35; (with_reducible refine at_cw w0 ?_); refine (match2_calls S (w.heap.size + 1) w.heap.size N c _ b n i w0 hA HK.out.lz hb hcN HK.out.ni hiN hN).mono ?_; rw [hr1, hr2]; rintro e w1 ⟨rfl, hu⟩; obtain ⟨n1, S1, hk1⟩ := HK.out.mtch hu; have HK1 := Aside0.mk hk1; clear hu hk1)
          | (go_at_call 34; (with_reducible refine at_cw w1 ?_); refine (put_calls _ _ _ _ _ _ w1 HK1.out.pk (by omega) hle).mono ?_; rintro e w2 ⟨rfl, hp⟩; obtain ⟨vo', vn', hk2⟩ := HK1.out.put hp; have HK2 := Aside0.mk hk2; have c4 : w2.cell? ⟨w.heap.size + 2, 0, none⟩ = some vo' := (by rw [blk_cell hk2.pk.bo]; rfl); have HKA : Aside0 (∀ o, PK0 w (w.heap.size + 1) w.heap.size (w.heap.size + 2) (w.heap.size + 2 + 1) (some ad) N c b i n1 S1 vo' vn' (out ++ litL own) [] (w2.alloc o)) := ⟨fun o => hk2.later (below_alloc (Later.refl _) o)⟩; clear hp hk2)
          | (at_builtin; refine appQ 0 rfl _ _ rfl vo' (out ++ litL own) [128 + (m : Int) - 4, ((d : Int) - 1) % 256, ((d : Int) - 1) / 256] (some ⟨w2.heap.size, 0, none⟩) 3 3 rfl rfl (HKA.out _).pk.ro (rd_lit w2 _ _ _ _ rfl rfl (by simp)) (Nat.zero_le _) (by rw [List.length_append]; omega) ?_; intro v1 w3 hq1 hg1 hl1; obtain ⟨A3, c3, w4, rfl, hst, hk4⟩ := (HKA.out _).tok_store hq1 hg1 hl1; have HK4 := Aside0.mk (hk4 (i + m) (by omega) (by omega)); have HST := Aside0.mk hst; clear hq1 hg1 hl1 hk4 hst HKA)
          | ((with_reducible refine at_st 22 _ _ ?_); refine store_arm rfl _ _ _ rfl rfl rfl HST.out ?_))
        refine wp_goto ?_
        (try simp only [Exit.jump, Exit.then, Exit.inBlock])
        refine ⟨rfl, ⟨i + m, _, _, _, _, _, _, _, _, _, _, _, _, _, _, _, _, _, _, _, _, _, _, _, _, _, _, _, _, _, _, _, _, _, _, _, _, _, _, _, _, _, _, _, _, _, _, _, _, rfl, _, _, _, _, _, _, HK4.out, ?_, ?_, ?_⟩, ?_⟩
        · have ht : [128 + (m : Int) - 4, ((d : Int) - 1) % 256, ((d : Int) - 1) / 256] = tok (lzM b i) := by
            rw [HM.out]
            unfold tok
            rw [show 128 + (m : Int) - 4 = 124 + (m : Int) by omega]
          rw [ht, ← packR_tok (by omega) hr1 (by omega)]
          exact HJ.out.eq
        · have := HJ.out.ln
          simp only [List.length_append, List.length_cons, List.length_nil]; omega
        · simp
        · show N + 1 - ((i : Int) + (m : Int)).toNat < N + 1 - (i : Int).toNat
          omega
end Go.Proofs.Ytcbcoaafdggniaa
