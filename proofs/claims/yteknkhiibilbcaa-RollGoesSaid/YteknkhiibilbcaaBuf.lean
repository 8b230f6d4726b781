/- Bytes made, written, copied in rows of one's own. Plain lemmas. -/
import Derived.Test.YteknkhiibilbcaaBase
import Derived.Laws.IdiomCopy
namespace Go.Proofs.Yteknkhiibilbcaa
open Go.RowKit Go.Proofs.YteknkhiibilbcaaW.PrintWords Go.Proofs.YteknkhiibilbcaaW.PrintMore
set_option linter.unusedVariables false
set_option linter.unusedSimpArgs false
section
variable {ops : Array Oper} {rest : List Oper} {o : Oper} {a : Act} {Q : Exit → Act → World → Prop}
/-- make([]byte, n). -/
theorem makeB {w0 W : World} (base : Nat) (hgd : o.guard = none) {N : Tmp} (hd : o.dst = some N) (x y : Operand) (ho : o.op = .makeSlice 25 x y) (n : Int) (hx : a.eval x = .int .i64 n) (hy : a.eval y = .int .i64 n) (h0 : 0 ≤ n) (hl : n ≤ 281474976710656)
    (HB : Below base w0 W) (hbase : base ≤ W.heap.size)
    (h : ∀ v1 w1, OwB w1 base v1 (List.replicate n.toNat 0) → Below base w0 w1 → wpList Try.prog ops Q rest (a.put o.dst v1) w1) : wpList Try.prog ops Q (o :: rest) a W :=
  Kd.R_make (Kd.int .u8) base 5 hgd hd 25 x y ho n hx hy Try.underlying25 (.int .u8 0) 1 infoB rfl (by decide) (by decide) (0 : Int) (ok := fun _ => True) (okp := fun _ => True) rfl (fun _ _ => trivial) trivial h0 (by omega) HB hbase
    (fun v1 w1 h1 h2 _ _ => h v1 w1 h1 h2)
end
/-- xs with ys written over it from place o on. -/
def over (xs ys : List Int) (o : Nat) : List Int := xs.take o ++ ys ++ xs.drop (o + ys.length)
theorem over_length {xs ys : List Int} {o : Nat} (h : o + ys.length ≤ xs.length) : (over xs ys o).length = xs.length := by
  simp [over]
  omega
theorem over_cons {xs ys : List Int} {y : Int} {o : Nat} (h : o + (ys.length + 1) ≤ xs.length) : over (xs.set o y) ys (o + 1) = over xs (y :: ys) o := by
  unfold over
  have hl : o < xs.length := by omega
  rw [List.take_succ_eq_append_getElem (by rw [List.length_set]; exact hl), List.getElem_set_self, List.take_set_of_le (Nat.le_refl _), List.drop_set_of_lt (by omega)]
  simp [Nat.add_assoc, Nat.add_comm 1]
theorem OwB.setCells {base g cap : Nat} : ∀ (ys : List Int) (o : Nat) (w : World) (xs : List Int), OwB w base (.slice (some ⟨g, 0, none⟩) xs.length cap) xs → o + ys.length ≤ xs.length →
    OwB (w.setCells g o (ys.map (Value.int .u8))) base (.slice (some ⟨g, 0, none⟩) xs.length cap) (over xs ys o)
  | [], o, w, xs, h, _ => by simpa [over, World.setCells] using h
  | y :: ys, o, w, xs, h, hl => by
    simp only [List.length_cons] at hl
    have h1 := OwB.store h (o : Int) y
    rw [Int.toNat_natCast] at h1
    have h2 := OwB.setCells (base := base) (g := g) (cap := cap) ys (o + 1) (w.setCell ⟨g, o, none⟩ (.int .u8 y)) (xs.set o y) (by rw [List.length_set]; exact h1) (by rw [List.length_set]; omega)
    rw [List.length_set, over_cons hl] at h2
    exact h2
theorem below_setCells {B g : Nat} (hB : B ≤ g) : ∀ (vs : List Value) (o : Nat) (w w0 : World), Below B w0 w → Below B w0 (w.setCells g o vs)
  | [], _, _, _, h => h
  | v :: vs, o, w, w0, h => below_setCells hB vs (o + 1) _ _ (h.setCell hB v)
/-- copy(dst, ys): the run. -/
theorem copy_bytes {w w0 : World} {base g cap : Nat} {xs ys : List Int} (HO : OwB w base (.slice (some ⟨g, 0, none⟩) xs.length cap) xs) (HB : Below base w0 w) (o : Nat) (ho : o + ys.length ≤ xs.length) (D : Option Addr) (hD : 0 < ys.length → D = some ⟨g, o, none⟩)
    (dlen dcap : Nat) (hd : ys.length ≤ dlen) (A : Option Addr) (c : Nat) (HR : RdB w A ys.length ys) (ty : TypeId) :
    ∃ w1, (Builtin.copy_ #[25, 25] ty #[.slice D dlen dcap, .slice A ys.length c]).run Try.prog w = .ok (.int .i64 (ys.length : Int)) w1 ∧ OwB w1 base (.slice (some ⟨g, 0, none⟩) xs.length cap) (over xs ys o) ∧ Below base w0 w1 := by
  have hs : (Try.prog.info? 5).map (·.size) = some 1 := by kernel_rfl
  rcases Nat.eq_zero_or_pos ys.length with h0 | hp
  · refine ⟨w, ?_, ?_, HB⟩
    · rw [run_copy_none w 25 25 ty 5 D A dlen dcap ys.length c Try.underlying25 hs (by rw [h0]; exact Nat.zero_min _), h0]
      rfl
    · obtain rfl : ys = [] := List.eq_nil_of_length_eq_zero h0
      simpa [over] using HO
  · obtain ⟨hr1, hr2, hr3⟩ := Kd.reads_of_C (d := (0 : Int)) HR
    obtain ⟨ad, rfl, hc⟩ := hr3 hp
    rw [hD hp]
    have hg := (Kd.R_form HO (by omega))
    obtain ⟨g', cap', he, hbg, _, _⟩ := hg
    have hbg' : base ≤ g := by
      injection he with e1 e2 e3
      injection e1 with e1
      injection e1 with e1
      omega
    refine ⟨w.setCells g o (ys.map (Value.int .u8)), ?_, OwB.setCells ys o w xs HO ho, below_setCells hbg' _ _ _ _ HB⟩
    have hn : (ys.map (Value.int .u8)).length = Nat.min ys.length dlen := by
      rw [List.length_map]
      exact (Nat.min_eq_left hd).symm
    have hcell : ∀ j, j < (ys.map (Value.int .u8)).length → w.cell? ⟨g, o + j, none⟩ = some (.int .u8 (rd xs ((o + j : Nat) : Int))) ∧ w.frozen? ⟨g, o + j, none⟩ = false := fun j hj => by
      rw [List.length_map] at hj
      have := OwB.cell HO ((o + j : Nat) : Int) (by omega) (by omega)
      rwa [Int.toNat_natCast] at this
    rw [run_copy_cells w 25 25 ty 5 g o dlen dcap ad ys.length c (ys.map (Value.int .u8)) Try.underlying25 hs hn ?_ (fun j hj => by rw [(hcell j hj).1]; rfl) (fun j hj => (hcell j hj).2) (by intro v hv; obtain ⟨x, _, rfl⟩ := List.mem_map.1 hv; rfl)]
    · rw [List.length_map]
      rfl
    · intro j v hj
      have hjl : j < ys.length := by
        have := (List.getElem?_eq_some_iff.1 hj).1
        rwa [List.length_map] at this
      rw [hc j hjl, ← hj]
      simp [List.getD_eq_getElem?_getD, List.getElem?_eq_getElem hjl]
theorem copy_bytes' {w w0 : World} {base g cap L : Nat} {xs ys : List Int} (HO : OwB w base (.slice (some ⟨g, 0, none⟩) L cap) xs) (HB : Below base w0 w) (o : Nat) {m : Nat} (hm : ys.length = m) (ho : o + m ≤ L) (D : Option Addr) (hD : 0 < m → D = some ⟨g, o, none⟩)
    (dlen dcap : Nat) (hd : m ≤ dlen) (A : Option Addr) (c : Nat) (HR : RdB w A m ys) (ty : TypeId) :
    ∃ w1, (Builtin.copy_ #[25, 25] ty #[.slice D dlen dcap, .slice A m c]).run Try.prog w = .ok (.int .i64 (m : Int)) w1 ∧ OwB w1 base (.slice (some ⟨g, 0, none⟩) L cap) (over xs ys o) ∧ Below base w0 w1 := by
  obtain ⟨rfl, _⟩ := Kd.R_reads' HO
  subst hm
  exact copy_bytes HO HB o ho D hD dlen dcap hd A c HR ty
/-- b[j:] of a row of one's own, j ahead of its end. -/
theorem cut_own {w : World} {base g cap L : Nat} {xs : List Int} (HO : OwB w base (.slice (some ⟨g, 0, none⟩) L cap) xs) (j : Nat) (hj : j ≤ L) :
    ∃ D, (0 < L - j → D = some ⟨g, j, none⟩) ∧ ∀ (W : World) (i : Int), i = j → (Instr.slice 25 (.slice (some ⟨g, 0, none⟩) L cap) (some (.int .i64 i)) none none).run Try.prog W = .ok (.slice D (L - j) (cap - j)) W := by
  obtain ⟨h1, h2⟩ := OwB.parts HO
  have h := (cutFrom h2 h1 (j : Int) (by omega) (by omega)).1
  rw [Int.toNat_natCast] at h
  refine ⟨_, ?_, fun W i hi => by rw [hi]; exact h W⟩
  intro hp
  rw [if_neg (by omega)]
  show some ((⟨g, 0, none⟩ : Addr).add j) = _
  rw [add_plain]
theorem slice_from_run {P : Program} {o : Oper} {a : Act} {w : World} {t e : TypeId} (hu : P.underlying t = some (.slice e)) (x lo : Operand) (ho : o.op = .slice t x (some lo) none none) {p q v : Value} (hx : a.eval x = p) (hl : a.eval lo = q) (h : (Instr.slice t p (some q) none none).run P w = .ok v w) : (execOp a.eval o).run P w = .ok (.value v) w := by
  unfold execOp
  simp only [ho, hx, Option.map_some, Option.map_none, hl, Instr.sliceAt, Sem.run_bind, run_underlying hu, h, Result.andThen_ok, Sem.run_pure]
theorem copy_exec {w w1 : World} {o : Oper} {a : Act} (s x : Operand) (t t' : TypeId) (ho : o.op = .call { callee := .builtin .copy, args := #[s, x], argTypes := #[t, t'] }) {p q v : Value} (hs : a.eval s = p) (hx : a.eval x = q)
    (hr : (Builtin.copy_ #[t, t'] o.type #[p, q]).run Try.prog w = .ok v w1) : (execOp a.eval o).run Try.prog w = .ok (.value v) w1 := by
  unfold execOp
  simp only [ho, resolve, invoke, builtin, Sem.run_bind, Sem.run_pure, Result.andThen_ok, List.map_toArray, List.map_cons, List.map_nil, hs, hx, hr]
end Go.Proofs.Yteknkhiibilbcaa
