/- Maps keyed by arrays of bytes: what they hold, as a function of the key's bytes. Plain lemmas over any program. -/
import Derived.Test.YtnohkhaagkkhjaaFr
import Derived.Maps.Keyed
import Derived.WideKeyEntry
import Derived.DeepKeys4
namespace Go.Proofs.Ytnohkhaagkkhjaa
open Go.RowKit Go.Proofs.YtnohkhaagkkhjaaW.PrintWords Go.Proofs.YtnohkhaagkkhjaaW.PrintMore
open Go.MapKept (Stamped)
open Go.ChangeMaps (setBlock)
set_option linter.unusedVariables false
set_option linter.unusedSimpArgs false
/-- A key. -/
def keyV (ks : List Int) : Value := .agg (ks.map (Value.int .u8)).toArray
theorem keyV_inj {a b : List Int} (h : keyV a = keyV b) : a = b := by
  unfold keyV at h
  injection h with h
  have h2 := congrArg Array.toList h
  simp only [] at h2
  exact (List.map_inj_right (fun x y e => by injection e)).1 h2
/-- Bytes that are a key. -/
def KeyB (n : Nat) (ks : List Int) : Prop := Bytes ks ∧ ks.length = n
/-- The entries es hold M. -/
structure Holds (n : Nat) (es : Array MapEntry) (clock : Nat) (M : List Int → Option Value) : Prop where
  stamped : Stamped es clock
  keys : ∀ e ∈ es.toList, ∃ ks, KeyB n ks ∧ e.key = keyV ks
  val : ∀ ks v, KeyB n ks → (M ks = some v ↔ ∃ e ∈ es.toList, e.key = keyV ks ∧ e.val = v)
def MapIs (w : World) (b n : Nat) (M : List Int → Option Value) : Prop := ∃ es clock, w.heap[b]? = some (.map es clock) ∧ Holds n es clock M
theorem MapIs.move {w w1 : World} {b n : Nat} {M : List Int → Option Value} (h : MapIs w b n M) (hm : w1.heap[b]? = w.heap[b]?) : MapIs w1 b n M := by
  obtain ⟨es, clock, h1, h2⟩ := h
  exact ⟨es, clock, hm.trans h1, h2⟩
theorem MapIs.lt {w : World} {b n : Nat} {M : List Int → Option Value} (h : MapIs w b n M) : b < w.heap.size := by
  obtain ⟨es, clock, h1, _⟩ := h
  exact (Array.getElem?_eq_some_iff.1 h1).1
theorem mapIs_new (w : World) (n : Nat) : MapIs (w.alloc (.map #[] 0)) w.heap.size n (fun _ => none) :=
  ⟨#[], 0, blk_new w _, MapKept.stamped_empty 0, (fun e he => by simp at he), (fun ks v _ => by simp)⟩
open Classical in
noncomputable def upd (M : List Int → Option Value) (ks : List Int) (v : Value) : List Int → Option Value := fun k => if k = ks then some v else M k
theorem upd_same (M : List Int → Option Value) (ks : List Int) (v : Value) : upd M ks v ks = some v := by simp [upd]
theorem upd_other {M : List Int → Option Value} {ks k : List Int} {v : Value} (h : k ≠ ks) : upd M ks v k = M k := by simp [upd, h]
section
variable {P : Program} {K : TypeId} {n : Nat}
/-- What the laws need of the key's type. -/
structure KeyOk (P : Program) (K : TypeId) (n : Nat) : Prop where
  keyed : Maps.Keyed P K
  reads : ∀ ks, KeyB n ks → ∃ l, keyOf P K (keyV ks) = some l
theorem Holds.find (H : KeyOk P K n) {es : Array MapEntry} {clock : Nat} {M : List Int → Option Value} (h : Holds n es clock M) {ks : List Int} (hk : KeyB n ks) (w : World) :
    ((Instr.findKey K (keyV ks) es.toList).run P w = .ok none w ∧ (∀ e ∈ es.toList, e.key ≠ keyV ks) ∧ M ks = none) ∨
    ∃ j e, (Instr.findKey K (keyV ks) es.toList).run P w = .ok (some (j, e.val)) w ∧ es.toList[j]? = some e ∧ e.key = keyV ks ∧ M ks = some e.val := by
  obtain ⟨l, hl⟩ := H.reads ks hk
  rcases H.keyed.find w hl es.toList (fun e he => by obtain ⟨k', hk', e'⟩ := h.keys e he; rw [e']; exact H.reads k' hk') with ⟨h1, h2⟩ | ⟨j, e, h1, h2, h3⟩
  · refine .inl ⟨h1, h2, ?_⟩
    rcases hM : M ks with _ | v
    · rfl
    · obtain ⟨e, he, h4, _⟩ := (h.val ks v hk).1 hM
      exact absurd h4 (h2 e he)
  · exact .inr ⟨j, e, h1, h2, h3, (h.val ks e.val hk).2 ⟨e, List.mem_of_getElem? h2, h3, rfl⟩⟩
theorem SetBlk.ofSet {w : World} {b : Nat} {es : Array MapEntry} {clock : Nat} (hb : w.heap[b]? = some (.map es clock)) (o : Obj) : SetBlk w (setBlock w b o) b o :=
  ⟨rfl, rfl, rfl, by simp [setBlock], ChangeMaps.heap_setBlock_same hb o, fun k hk => ChangeMaps.heap_setBlock_other hb o hk⟩
/-- m[k], v, ok := m[k] -/
theorem MapIs.look (H : KeyOk P K n) {w : World} {b : Nat} {M : List Int → Option Value} (h : MapIs w b n M) {t E : TypeId} (ht : P.underlying t = some (.map K E)) {z : Value} (hz : (zeroValue E).run P w = .ok z w) {ks : List Int} (hk : KeyB n ks) (c : Bool) :
    (Instr.lookup t (.map (some b)) (keyV ks) c).run P w = .ok (match M ks with | some v => if c then .tuple #[v, .bool true] else v | none => if c then .tuple #[z, .bool false] else z) w := by
  obtain ⟨es, clock, hb, hh⟩ := h
  obtain ⟨l, hl⟩ := H.reads ks hk
  rcases hh.find H hk w with ⟨h1, _, h3⟩ | ⟨j, e, h1, h2, _, h3⟩
  · rw [h3]
    simp [Instr.lookup, run_underlying ht, MapKept.run_getObj_map hb, H.keyed.check w _ hl, h1, hz, Result.andThen]
  · rw [h3]
    simp [Instr.lookup, run_underlying ht, MapKept.run_getObj_map hb, H.keyed.check w _ hl, h1, Result.andThen]
theorem key_ne {es : Array MapEntry} {clock : Nat} (hs : Stamped es clock) {i j : Nat} {a b : MapEntry} (hi : es.toList[i]? = some a) (hj : es.toList[j]? = some b) (hne : i ≠ j) : a.key ≠ b.key := by
  intro e
  have h1 : (es.toList.map (·.key))[i]? = some a.key := by rw [List.getElem?_map, hi]; rfl
  have h2 : (es.toList.map (·.key))[j]? = some a.key := by rw [List.getElem?_map, hj, e]; rfl
  have hl : i < (es.toList.map (·.key)).length := (List.getElem?_eq_some_iff.1 h1).1
  exact hne ((List.getElem?_inj hl hs.2.2).1 (h1.trans h2.symm))
theorem mem_modify {es : Array MapEntry} {j : Nat} {e0 : MapEntry} {f : MapEntry → MapEntry} (h : es.toList[j]? = some e0) (x : MapEntry) : x ∈ (es.modify j f).toList ↔ x = f e0 ∨ ∃ i, i ≠ j ∧ es.toList[i]? = some x := by
  have hl : (es.modify j f).toList = es.toList.set j (f e0) := by rw [Array.toList_modify, ChangeMaps.modify_eq_set _ _ _ _ h]
  have hjl := (List.getElem?_eq_some_iff.1 h).1
  rw [hl, List.mem_iff_getElem?]
  constructor
  · rintro ⟨i, hi⟩
    by_cases hij : j = i
    · subst hij
      rw [List.getElem?_set_self hjl] at hi
      exact .inl (Option.some.inj hi).symm
    · rw [List.getElem?_set_ne hij] at hi
      exact .inr ⟨i, Ne.symm hij, hi⟩
  · rintro (rfl | ⟨i, hi, hx⟩)
    · exact ⟨j, List.getElem?_set_self hjl⟩
    · exact ⟨i, by rw [List.getElem?_set_ne (Ne.symm hi)]; exact hx⟩
/-- One entry more. -/
theorem Holds.push {es : Array MapEntry} {clock : Nat} {M : List Int → Option Value} (h : Holds n es clock M) {ks : List Int} (hk : KeyB n ks) (hne : ∀ e ∈ es.toList, e.key ≠ keyV ks) (v : Value) : Holds n (es.push ⟨keyV ks, v, clock⟩) (clock + 1) (upd M ks v) := by
  refine ⟨MapKept.stamped_push h.stamped hne, fun e he => ?_, fun k u hk' => ?_⟩
  · rw [Array.toList_push, List.mem_append, List.mem_singleton] at he
    rcases he with he | rfl
    · exact h.keys e he
    · exact ⟨ks, hk, rfl⟩
  · rw [Array.toList_push]
    simp only [List.mem_append, List.mem_singleton]
    by_cases hkk : k = ks
    · subst hkk
      rw [upd_same]
      constructor
      · intro e
        injection e with e
        subst e
        exact ⟨_, .inr rfl, rfl, rfl⟩
      · rintro ⟨e, he | rfl, h1, h2⟩
        · exact absurd h1 (hne e he)
        · exact congrArg some h2
    · rw [upd_other hkk, h.val k u hk']
      constructor
      · rintro ⟨e, he, h1, h2⟩
        exact ⟨e, .inl he, h1, h2⟩
      · rintro ⟨e, he | rfl, h1, h2⟩
        · exact ⟨e, he, h1, h2⟩
        · exact absurd (keyV_inj h1).symm hkk
/-- One entry's value is another one. -/
theorem Holds.mod {es : Array MapEntry} {clock : Nat} {M : List Int → Option Value} (h : Holds n es clock M) {ks : List Int} (hk : KeyB n ks) {j : Nat} {e0 : MapEntry} (hj : es.toList[j]? = some e0) (he : e0.key = keyV ks) (v : Value) (f : MapEntry → MapEntry) (hf : f = (fun e' => { e' with val := v }) ∨ f = (fun e' => { e' with key := keyV ks, val := v })) :
    Holds n (es.modify j f) clock (upd M ks v) := by
  have hfk : (f e0).key = keyV ks := by rcases hf with rfl | rfl <;> first | exact he | rfl
  have hfv : (f e0).val = v := by rcases hf with rfl | rfl <;> rfl
  have hfb : ∀ e, (f e).born = e.born := by rcases hf with rfl | rfl <;> exact fun _ => rfl
  refine ⟨MapKept.stamped_modify h.stamped j f (fun e _ => hfb e) (fun e _ h1 => ?_), fun x hx => ?_, fun k u hk' => ?_⟩
  · have h2 : es.toList[j]? = some e := by simpa using h1
    rw [hj] at h2
    injection h2 with h2
    subst h2
    rw [hfk, he]
  · rcases (mem_modify hj x).1 hx with rfl | ⟨i, _, hi⟩
    · exact ⟨ks, hk, hfk⟩
    · exact h.keys x (List.mem_of_getElem? hi)
  · by_cases hkk : k = ks
    · subst hkk
      rw [upd_same]
      constructor
      · intro e
        injection e with e
        subst e
        exact ⟨f e0, (mem_modify hj _).2 (.inl rfl), hfk, hfv⟩
      · rintro ⟨x, hx, h1, h2⟩
        rcases (mem_modify hj x).1 hx with rfl | ⟨i, hi, hi2⟩
        · rw [← hfv, ← h2]
        · exact absurd (h1.trans he.symm) (key_ne h.stamped hi2 hj hi)
    · rw [upd_other hkk, h.val k u hk']
      constructor
      · rintro ⟨x, hx, h1, h2⟩
        obtain ⟨i, hi⟩ := List.mem_iff_getElem?.1 hx
        refine ⟨x, (mem_modify hj x).2 (.inr ⟨i, ?_, hi⟩), h1, h2⟩
        rintro rfl
        rw [hj] at hi
        injection hi with hi
        subst hi
        exact hkk (keyV_inj (h1.symm.trans he))
      · rintro ⟨x, hx, h1, h2⟩
        rcases (mem_modify hj x).1 hx with rfl | ⟨i, hi, hi2⟩
        · exact absurd (keyV_inj (h1.symm.trans hfk)) hkk
        · exact ⟨x, List.mem_of_getElem? hi2, h1, h2⟩
/-- m[k] = v -/
theorem MapIs.store (H : KeyOk P K n) {w : World} {b : Nat} {M : List Int → Option Value} (h : MapIs w b n M) {t E : TypeId} (ht : P.underlying t = some (.map K E)) {ks : List Int} (hk : KeyB n ks) (v : Value) :
    ∃ o w1, (Instr.mapUpdate t (.map (some b)) (keyV ks) v).run P w = .ok () w1 ∧ SetBlk w w1 b o ∧ MapIs w1 b n (upd M ks v) := by
  obtain ⟨es, clock, hb, hh⟩ := h
  obtain ⟨l, hl⟩ := H.reads ks hk
  rcases hh.find H hk w with ⟨h1, h2, h3⟩ | ⟨j, e, h1, h2, h3, _⟩
  · refine ⟨.map (es.push ⟨keyV ks, v, clock⟩) (clock + 1), _, ?_, SetBlk.ofSet hb _, _, _, (SetBlk.ofSet hb _).at_, hh.push hk h2 v⟩
    simp [Instr.mapUpdate, run_underlying ht, MapKept.run_getObj_map hb, H.keyed.check w false hl, h1, MapKept.run_setObj_map _ hb, Result.andThen, setBlock]
  · have hj : es[j]? = some e := by simpa using h2
    refine ⟨.map (es.modify j (fun e' => { e' with key := keyV ks, val := v })) clock, _, ?_, SetBlk.ofSet hb _, _, _, (SetBlk.ofSet hb _).at_, hh.mod hk h2 h3 v _ (.inr rfl)⟩
    simp [Instr.mapUpdate, run_underlying ht, MapKept.run_getObj_map hb, H.keyed.check w false hl, h1, hj, h3, H.keyed.stays w hl, MapKept.run_setObj_map _ hb, Result.andThen, setBlock]
/-- m[k] op= ..: the entry first, then its value. -/
theorem MapIs.entry (H : KeyOk P K n) {w : World} {b : Nat} {M : List Int → Option Value} (h : MapIs w b n M) {t E : TypeId} (ht : P.underlying t = some (.map K E)) {z : Value} (hz : ∀ u : World, (zeroValue E).run P u = .ok z u) {ks : List Int} (hk : KeyB n ks) :
    ∃ st o w1, (Instr.mapEntry t (.map (some b)) (keyV ks)).run P w = .ok (.tuple #[(M ks).getD z, .int .i64 st]) w1 ∧ SetBlk w w1 b o ∧
      ∀ (w2 : World) (v : Value), w2.heap[b]? = some o → ∃ o2 w3, (Instr.entryStore t (.map (some b)) (.int .i64 st) v).run P w2 = .ok () w3 ∧ SetBlk w2 w3 b o2 ∧ MapIs w3 b n (upd M ks v) := by
  obtain ⟨es, clock, hb, hh⟩ := h
  obtain ⟨l, hl⟩ := H.reads ks hk
  obtain ⟨s1, s2, _⟩ := hh.stamped
  rcases hh.find H hk w with ⟨h1, h2, h3⟩ | ⟨j, e0, h1, h2, h3, h4⟩
  · refine ⟨clock, .map (es.push ⟨keyV ks, z, clock⟩) (clock + 1), _, ?_, SetBlk.ofSet hb _, fun w2 v hw2 => ?_⟩
    · rw [h3]
      simp [Instr.mapEntry, run_underlying ht, MapKept.run_getObj_map hb, H.keyed.check w false hl, h1, hz, MapKept.run_setObj_map _ hb, Result.andThen, setBlock, goInt]
    · have hidx : (es.push ⟨keyV ks, z, clock⟩).findIdx? (fun e => ((e.born : Nat) : Int) == ((clock : Nat) : Int)) = some es.size := by
        rw [WideElems.findIdx_arr]
        have := WideElems.findIdx_born (l := (es.push ⟨keyV ks, z, clock⟩).toList) (j := es.size) (e0 := ⟨keyV ks, z, clock⟩) (by
          simp only [Array.toList_push, List.map_append, List.map_cons, List.map_nil]
          refine List.nodup_append.2 ⟨s2, by simp, fun a ha c hc e1 => ?_⟩
          simp only [List.mem_singleton] at hc
          obtain ⟨x, hx, rfl⟩ := List.mem_map.1 ha
          have := s1 x hx
          omega) (by simp)
        exact this
      have hmod : (es.push ⟨keyV ks, z, clock⟩).modify es.size (fun e => { e with val := v }) = es.push ⟨keyV ks, v, clock⟩ := by
        apply Array.ext'
        rw [Array.toList_modify, Array.toList_push, Array.toList_push, ← Array.length_toList, WideElems.modify_last]
      refine ⟨.map (es.push ⟨keyV ks, v, clock⟩) (clock + 1), _, ?_, SetBlk.ofSet hw2 _, _, _, (SetBlk.ofSet hw2 _).at_, hh.push hk h2 v⟩
      simp [Instr.entryStore, MapKept.run_getObj_map hw2, asInt, asIntOf, hidx, hmod, MapKept.run_setObj_map _ hw2, Result.andThen, setBlock]
  · have hj : es[j]? = some e0 := by simpa using h2
    have hsame : es.modify j (fun e => { e with key := keyV ks }) = es := by
      apply Array.ext'
      rw [Array.toList_modify, ChangeMaps.modify_eq_set _ _ _ _ h2]
      have : ({ e0 with key := keyV ks } : MapEntry) = e0 := by rw [← h3]
      rw [this]
      exact WideElems.set_self _ _ _ h2
    refine ⟨e0.born, .map es clock, _, ?_, SetBlk.ofSet hb _, fun w2 v hw2 => ?_⟩
    · rw [h4]
      simp [Instr.mapEntry, run_underlying ht, MapKept.run_getObj_map hb, H.keyed.check w false hl, h1, hj, h3, H.keyed.stays w hl, hsame, MapKept.run_setObj_map _ hb, Result.andThen, setBlock, goInt]
    · have hidx : es.findIdx? (fun e => ((e.born : Nat) : Int) == ((e0.born : Nat) : Int)) = some j := by
        rw [WideElems.findIdx_arr]
        exact WideElems.findIdx_born s2 h2
      refine ⟨.map (es.modify j (fun e' => { e' with val := v })) clock, _, ?_, SetBlk.ofSet hw2 _, _, _, (SetBlk.ofSet hw2 _).at_, hh.mod hk h2 h3 v _ (.inl rfl)⟩
      simp [Instr.entryStore, MapKept.run_getObj_map hw2, asInt, asIntOf, hidx, MapKept.run_setObj_map _ hw2, Result.andThen, setBlock]
end
/-- Arrays of bytes are keys. -/
theorem keyLits_u8 {P : Program} {U d : Nat} (hu : P.underlying U = some (.int .u8)) {x : Int} (h : 0 ≤ x ∧ x < 256) : P.keyLits (d + 1) U [.int .u8 x] = some [.int .u8 x] := by
  have hw : (Lit.int .u8 x).wf = true := by simp [Lit.wf, IntKind.min, IntKind.max, IntKind.signed, IntKind.bits]; omega
  unfold Program.keyLits
  rw [hu]
  simp [hw]
theorem mapM_some {α β : Type} {f : α → Option β} : ∀ (l : List α), (∀ a ∈ l, ∃ b, f a = some b) → ∃ r, l.mapM f = some r
  | [], _ => ⟨[], by simp⟩
  | a :: l, h => by
    obtain ⟨b, hb⟩ := h a (by simp)
    obtain ⟨r, hr⟩ := mapM_some l (fun x hx => h x (by simp [hx]))
    exact ⟨b :: r, by simp [List.mapM_cons, hb, hr]⟩
theorem keyOk_arr {P : Program} {K U : TypeId} {n : Nat} (hl : laidOutB P = true) (hrow : K < P.types.size) (hk : P.keyTypeAt 2 K = true) (hwide : (match P.underlying K with | some (.array _ _) | some (.struct _) => true | _ => false) = true)
    (hK : P.underlying K = some (.array n U)) (hu : P.underlying U = some (.int .u8)) (hc : P.cellsOf U = 1) (hcK : P.cellsOf K = n) (hkt : P.keyType K = true) (hts : 1 ≤ P.types.size) : KeyOk P K n := by
  refine ⟨Maps.Keyed.of_law (deep_law_laid hl (m := 2) (by omega) hrow hk hwide), fun ks hks => ?_⟩
  obtain ⟨d, hd⟩ : ∃ d, P.types.size = d + 1 := ⟨P.types.size - 1, by omega⟩
  have hf : (keyV ks).formed P K = true := by simp [keyV, Value.formed, hK, hcK, hks.2]
  obtain ⟨r, hr⟩ := mapM_some (f := fun i => P.keyLits (d + 1) U ((((keyV ks).cells.toList).drop (i * P.cellsOf U)).take (P.cellsOf U))) (List.range n) (fun i hi => by
    have hi' : i < ks.length := by rw [hks.2]; exact List.mem_range.1 hi
    refine ⟨[.int .u8 ks[i]], ?_⟩
    have e : (((keyV ks).cells.toList).drop (i * P.cellsOf U)).take (P.cellsOf U) = [.int .u8 ks[i]] := by
      rw [hc, Nat.mul_one]
      show (((ks.map (Value.int .u8))).drop i).take 1 = _
      rw [List.drop_eq_getElem_cons (by simpa using hi')]
      simp
    rw [e]
    exact keyLits_u8 hu (hks.1 _ (List.getElem_mem hi')))
  refine ⟨.string (keyBytes r.flatten), ?_⟩
  unfold keyOf
  rw [hK]
  simp only [hkt, hf, Bool.and_self, if_true, hd]
  unfold Program.keyLits
  rw [hK]
  have hlen : (keyV ks).cells.toList.length = P.cellsOf K := by rw [hcK]; simpa [keyV, Value.cells] using hks.2
  simp only [hlen, if_true, hr]
  rfl
end Go.Proofs.Ytnohkhaagkkhjaa
