/- Rows that are appended to, a literal's too; index.number. Conditions: their own. -/
import Derived.Test.YtdfahblgnbdndaaDoorIdx4
import Derived.Test.YtdfahblgnbdndaaDoorRegionX
namespace Go.Proofs.YtdfahblgnbdndaaDoor
open Go.RowKit Go.Shelf Go.Proofs.YtdfahblgnbdndaaDoorW.PrintWords Go.Proofs.YtdfahblgnbdndaaDoorW.PrintMore
set_option linter.unusedVariables false
set_option linter.unusedSimpArgs false
/-- A row of bytes that may be appended to: one's own, or one that is full. -/
def ApQ (w : World) (base : Nat) (v : Value) (xs : List Int) : Prop := QB w base v xs ∨ (∃ ad, v = .slice (some ad) xs.length xs.length ∧ RdB w (some ad) xs.length xs ∧ 0 < xs.length)
theorem QB.ap {w : World} {base : Nat} {v : Value} {xs : List Int} (h : QB w base v xs) : ApQ w base v xs := .inl h
theorem ApQ.reads {w : World} {base : Nat} {v : Value} {xs : List Int} (h : ApQ w base v xs) : ∃ A c, v = .slice A xs.length c ∧ xs.length ≤ c ∧ RdB w A xs.length xs := by
  rcases h with h | ⟨ad, rfl, hr, _⟩
  · exact h.reads
  · exact ⟨_, _, rfl, Nat.le_refl _, hr⟩
theorem apq_below {w w1 : World} {base : Nat} {v : Value} {xs : List Int} (h : ApQ w base v xs) (k : Below w.heap.size w w1) : ApQ w1 base v xs := by
  rcases h with h | ⟨ad, rfl, hr, hp⟩
  · exact .inl (h.below k)
  · exact .inr ⟨ad, rfl, Kd.C_below hr k, hp⟩
theorem RdB.cells {w : World} {ad : Addr} {n : Nat} {xs : List Int} (h : RdB w (some ad) n xs) (hp : 0 < n) : ∀ j u, (xs.map (Value.int .u8))[j]? = some u → w.cell? (ad.add j) = some u := by
  intro j u hu
  rw [List.getElem?_map] at hu
  rcases hy : xs[j]? with _ | y
  · rw [hy] at hu; cases hu
  · rw [hy] at hu
    obtain rfl := Option.some.inj hu
    have hj := (List.getElem?_eq_some_iff.1 hy).1
    rw [rdB_at h j (by have := h.1; omega)]
    unfold Go.Proofs.YtdfahblgnbdndaaDoorW.PrintWords.rd
    rw [Int.toNat_natCast, List.getD_eq_getElem?_getD, hy]
    rfl
theorem own_new_row (W : World) (base cap : Nat) (zs : List Int) (tail : Array Value) (hb : base ≤ W.heap.size) (hc : cap = zs.length + tail.size) (hm : cap ≤ 9223372036854775807) :
    OwB (W.alloc (.cells ((zs.map (Value.int .u8)).toArray ++ tail) 5)) base (.slice (some ⟨W.heap.size, 0, none⟩) zs.length cap) zs := by
  refine Kd.R_of_own ⟨by simp [encs], .inr ⟨W.heap.size, cap, _, rfl, hb, blk_new W _, by omega, by simpa [maxLen] using hm, ?_, ?_⟩⟩ (fun _ _ => trivial)
  · simp [hc]
  · simp [encs]
theorem appA_run {W : World} (base : Nat) (ty : TypeId) (v : Value) (xs ys : List Int) (A : Option Addr) (m c : Nat) (HO : ApQ W base v xs) (HR : RdB W A m ys) (hbase : base ≤ W.heap.size) (hm : 0 < m) (hl : xs.length + m ≤ 70368744177664) :
    ∃ v1 w1, (Builtin.append_ #[33, 33] ty #[v, .slice A m c]).run Tryd.prog W = .ok v1 w1 ∧ QB w1 base v1 (xs ++ ys) ∧ W.grownBy w1 v.ownBlock ∧ (v1.ownBlock = v.ownBlock ∨ ∃ b, v1.ownBlock = some b ∧ W.heap.size ≤ b) := by
  rcases HO with HO | ⟨ad, rfl, hr, hp⟩
  · exact appQ_run base ty v xs ys A m c HO HR hbase (by omega)
  · obtain ⟨i0, hi, hz0, hsz, hby⟩ := info_parts infoB
    obtain ⟨bd, rfl, _⟩ := (Kd.reads_of_C (d := (0 : Int)) HR).2.2 hm
    have hyl : ys.length = m := HR.1
    have hrun := run_append_grow (P := Tryd.prog) (w := W) 33 ty 5 i0 (.int .u8 0) Tryd.underlying33 hi hz0 ad xs.length xs.length (xs.map (Value.int .u8)) (by rw [hsz]; simp) (hr.cells hp)
      bd m c (ys.map (Value.int .u8)) (by rw [hsz, List.length_map, hyl]; simp) (HR.cells hm) (by omega) (by omega) (by
        have := growslice_fits (need := xs.length + m) (old := xs.length) (bytes := i0.bytes) (by omega) (by rw [hby]; omega)
        exact this)
    have hcap : xs.length + m ≤ grownCap W (xs.length + m) xs.length 5 := by simpa using grownCap_ge W (xs.length + m) xs.length 5
    have hcapm : grownCap W (xs.length + m) xs.length 5 ≤ 9223372036854775807 := by
      have := grownCap_le_maxLen W (xs.length + m) xs.length 5 (by simp only [maxLen]; omega)
      simpa only [maxLen] using this
    generalize grownCap W (xs.length + m) xs.length 5 = cap at *
    refine ⟨_, _, hrun, ?_, ?_, .inr ⟨_, rfl, Nat.le_refl _⟩⟩
    · have h := own_new_row W.drew base cap (xs ++ ys) (Builtin.zeroCells (Value.int .u8 0).cells (cap - (xs.length + m))) hbase (by rw [List.length_append, hyl]; rw [size_zeroCells]; simp [Value.cells]; omega) hcapm
      rw [List.length_append, hyl, List.map_append, ← List.append_toArray] at h
      exact QB.own h
    · have hg := World.grownBy_alloc W.drew (.cells ((xs.map (Value.int .u8)).toArray ++ (ys.map (Value.int .u8)).toArray ++ Builtin.zeroCells (Value.int .u8 0).cells (cap - (xs.length + m))) 5) (Value.slice (some ad) xs.length xs.length).ownBlock
      exact ⟨hg.os, hg.tape, hg.output, hg.size, hg.block⟩
section
variable {ops : Array Oper} {rest : List Oper} {o : Oper} {a : Act} {Q : Exit → Act → World → Prop}
theorem appA {W : World} (base : Nat) (hgd : o.guard = none) (s x : Operand)
    (ho : o.op = .call { callee := .builtin .append, args := #[s, x], argTypes := #[33, 33] })
    (v : Value) (xs ys : List Int) (A : Option Addr) (m c : Nat) (hs : a.eval s = v) (hx : a.eval x = .slice A m c)
    (HO : ApQ W base v xs) (HR : RdB W A m ys) (hbase : base ≤ W.heap.size) (hm : 0 < m) (hl : xs.length + m ≤ 70368744177664)
    (h : ∀ v1 w1, QB w1 base v1 (xs ++ ys) → W.grownBy w1 v.ownBlock → (v1.ownBlock = v.ownBlock ∨ ∃ b, v1.ownBlock = some b ∧ W.heap.size ≤ b) → wpList Tryd.prog ops Q rest (a.put o.dst v1) w1) :
    wpList Tryd.prog ops Q (o :: rest) a W := by
  obtain ⟨v1, w1, hrun, h2, h3, h4⟩ := appA_run base o.type v xs ys A m c HO HR hbase hm hl
  refine wpList_plain hgd fun K hK => ?_
  unfold Oper.wp execOp
  simp only [ho, resolve, invoke, builtin, Sem.run_bind, Sem.run_pure, Result.andThen_ok, List.map_toArray, List.map_cons, List.map_nil, hs, hx, hrun]
  exact hK _ _ (h v1 w1 h2 h3 h4)
end
theorem le32_len4 (n : Nat) : (le32 n).length = 4 := by simp [le32]
theorem Fr.of_below {w w1 : World} {B : Nat} (h : Below B w w1) : Fr w w1 (fun k => B ≤ k) := ⟨h.os, h.tape, h.output, h.size, fun k _ hk => h.block k (by omega)⟩
/-- What goes along in number. -/
structure NuI (w : World) (base : Nat) (v0 : Value) (xs : List Int) (n k : Nat) (v : Value) (wr : World) : Prop where
  ap : ApQ wr base v (xs ++ (le32 n).take k)
  own : 0 < k → QB wr base v (xs ++ (le32 n).take k)
  fr : Fr w wr (fun q => some q = v0.ownBlock)
  at_ : v.ownBlock = v0.ownBlock ∨ ∃ b, v.ownBlock = some b ∧ w.heap.size ≤ b
theorem NuI.step {w : World} {base : Nat} {v0 : Value} {xs : List Int} {n k : Nat} {v v1 : Value} {wr w1 w2 : World} (h : NuI w base v0 xs n k v wr) (hB : Below wr.heap.size wr w1) (hq : QB w2 base v1 (xs ++ (le32 n).take (k + 1))) (hG : w1.grownBy w2 v.ownBlock) (hA : v1.ownBlock = v.ownBlock ∨ ∃ b, v1.ownBlock = some b ∧ w1.heap.size ≤ b) : NuI w base v0 xs n (k + 1) v1 w2 := by
  have hs := h.fr.size
  have hs2 := hB.size
  refine ⟨.inl hq, fun _ => hq, (h.fr.call hB).grown hG (fun i hi => ?_), ?_⟩
  · rcases h.at_ with e | ⟨b, e, hb⟩
    · exact .inl (by rw [← e, hi])
    · rw [e] at hi
      injection hi with hi
      exact .inr (by omega)
  · rcases hA with e | ⟨b, e, hb⟩
    · rw [e]; exact h.at_
    · exact .inr ⟨b, e, by omega⟩
set_option maxRecDepth 20000 in
theorem inumber_calls (base : Nat) (v0 : Value) (xs : List Int) (n : Nat) (w : World) (h : ApQ w base v0 xs) (hbase : base ≤ w.heap.size) (hl : xs.length ≤ 1099511627776) (hn : n ≤ 1099511627776) :
    Calls Tryd.prog 38 #[v0, .int .i64 (n : Int)] w fun e w' => ∃ v, e = .returned v ∧ QB w' base v (xs ++ le32 n) ∧ Fr w w' (fun q => some q = v0.ownBlock) ∧ (v.ownBlock = v0.ownBlock ∨ ∃ b, v.ownBlock = some b ∧ w.heap.size ≤ b) := by
  have H0 : Aside0 (NuI w base v0 xs n 0 v0 w) := ⟨⟨by rw [List.take_zero, List.append_nil]; exact h, fun h => absurd h (by omega), Fr.refl _ _, .inl rfl⟩⟩
  obtain ⟨A0, c0, rfl, _, _⟩ := h.reads
  clear h
  go_enter Tryd.func38, Tryd.ntmps38
  go_wp2
  go_loopw [0, 1, 5] (fun v m i wr => ∃ k : Nat, k ≤ 4 ∧ i = .int .i64 k ∧ m = .int .i64 ((n / 256 ^ k : Nat) : Int) ∧ NuI w base (.slice A0 xs.length c0) xs n k v wr) (fun _ _ i _ => 4 - (intOf i).toNat)
  case atStart => exact ⟨0, by omega, rfl, by simp, H0.out⟩
  case round =>
    obtain ⟨k, hk, rfl, rfl, hI⟩ := hrel
    have HI := Aside0.mk hI
    have hsz := hI.fr.size
    obtain ⟨A1, c1, hv, _, _⟩ := hI.ap.reads
    subst hv
    clear hI
    by_cases hlt : k < 4
    · have HT := Aside0.mk (le32_snoc n k hlt)
      have HL : Aside0 ((xs ++ (le32 n).take k).length ≤ 1099511627780) := ⟨by simp [le32]; omega⟩
      have HQ : Aside0 (((n / 256 ^ k / 256 : Nat) : Int) = ((n / 256 ^ (k + 1) : Nat) : Int)) := ⟨by rw [Nat.div_div_eq_div_mul, Nat.pow_succ]⟩
      have hq : n / 256 ^ k ≤ 1099511627776 := Nat.le_trans (Nat.div_le_self _ _) hn
      obtain ⟨U, hU⟩ : ∃ U, xs ++ (le32 n).take k = U := ⟨_, rfl⟩
      have HU := Aside0.mk hU
      rw [hU] at HL ⊢
      generalize hz : n / 256 ^ k = z at *
      have HRL := fun (y : Int) => Aside0.mk (rd_lit wr [y] #[.int .u8 y] (0, 0) 1 rfl rfl (by simp))
      clear hz hU
      go_wp2_with (at_builtin; refine appA base rfl (.tmp 7) (.tmp 10) rfl (.slice A1 U.length c1) U [((z : Int) % 256)] (some ⟨wr.heap.size, 0, none⟩) 1 1 rfl rfl (by have h := HI.out.ap; rw [HU.out] at h; exact apq_below h (below_alloc (Below.refl _ wr) _)) (HRL _).out (Nat.le_trans (Nat.le_trans hbase hsz) (by simp)) (by omega) (by have := HL.out; omega) ?_; intro v2 w2 hO2 hG2 hA2; have HN : Aside0 (NuI w base (.slice A0 xs.length c0) xs n (k + 1) v2 w2) := ⟨HI.out.step (below_alloc (Below.refl _ wr) _) (by rw [HT.out, ← List.append_assoc, HU.out]; exact hO2) (by rw [← HU.out] at hG2; exact hG2) (by rw [← HU.out] at hA2; exact hA2)⟩; clear hO2 hG2 hA2)
      go_roundw
      case rel => exact ⟨k + 1, by omega, by go_num, by rw [← HQ.out]; simp, HN.out⟩
      case measure => simp [intOf]; omega
    · obtain rfl : k = 4 := by omega
      go_wp2
      go_ret
      have h := HI.out.own (by omega)
      rw [show (le32 n).take 4 = le32 n from List.take_of_length_le (by simp [le32])] at h
      exact ⟨_, rfl, h, HI.out.fr, HI.out.at_⟩
end Go.Proofs.YtdfahblgnbdndaaDoor
