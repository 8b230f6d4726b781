/- A finder in memory: where four bytes stand; contract of its upto. Conditions: its own. -/
import Derived.Test.YtcbcoaafdggniaaLz1
import Derived.Test.YtcbcoaafdggniaaG1
namespace Go.Proofs.Ytcbcoaafdggniaa
open Go.RowKit Go.Proofs.YtcbcoaafdggniaaW.PrintWords Go.Proofs.YtcbcoaafdggniaaW.PrintMore
set_option linter.unusedVariables false
set_option linter.unusedSimpArgs false
/-- Rows of numbers. -/
abbrev OwI (w : World) (v : Value) (xs : List Int) : Prop := (Kd.int .i64).R 3 w 0 (fun _ => True) v xs
abbrev RdI (w : World) (A : Option Addr) (n : Nat) (xs : List Int) : Prop := (Kd.int .i64).C w A n xs
theorem infoI : (Try.prog.info? 3).map (fun i => (i.zero, i.size, i.bytes)) = some (some (.int .i64 0), 1, 8) := by kernel_rfl
theorem keyOk4 : KeyOk Try.prog 73 4 := keyOk_arr (U := 5) (by kernel_rfl) (of_decide_eq_true (by kernel_rfl)) (by kernel_rfl) (by kernel_rfl) (by kernel_rfl) (by kernel_rfl) (by kernel_rfl) (by kernel_rfl) (by kernel_rfl) (of_decide_eq_true (by kernel_rfl))
theorem zeroSI (u : World) : (zeroValue 23).run Try.prog u = .ok (.slice none 0 0) u := by kernel_rfl
section
variable {ops : Array Oper} {Q : Exit → Act → World → Prop} {ds : List Nat}
/-- append(v, ys...) of numbers that are read, in a drawn region. -/
theorem do_appI {i : Nat} {o : Oper} {N : Tmp} {a : Act} {W : World} {K : Act → World → Prop} (hi : ops[i]? = some o) (hN : o.dst = some N) (hw : Region.wanted o (yielded ops a.tmps) = true) (s x : Operand)
    (ho : o.op = .call { callee := .builtin .append, args := #[s, x], argTypes := #[23, 23] }) (v : Value) (xs ys : List Int) (A : Option Addr) (m c : Nat) (hs : a.eval s = v) (hx : a.eval x = .slice A m c)
    (HO : OwI W v xs) (HR : RdI W A m ys) (hl : xs.length + m ≤ 17592186044416)
    (h : ∀ v1 w1, OwI w1 v1 (xs ++ ys) → Below 0 W w1 → W.grownBy w1 v.ownBlock → (v1.ownBlock = v.ownBlock ∨ ∃ b, v1.ownBlock = some b ∧ W.heap.size ≤ b) → K (a.put (some N) v1) w1) : wpOp Try.prog ops Q i K a W := by
  refine do_ hi hw ?_
  have h2 := Kd.R_append_rows_step (P := Try.prog) (ops := ops) (o := o) (a := a) (Q := Q) (Kc := K) (Kd.int .i64) (w0 := W) (W := W) 0 hw s x 23 3 (.int .i64 0) 8 ho Try.underlying23 infoI rfl (by decide) (by decide) v xs ys A m c (fun _ => True) (fun _ => False) hs hx HO HR (fun _ _ h => h) (fun _ h => h.elim) (fun _ _ => trivial) (Below.refl _ _) (Nat.zero_le _) (by omega)
    (fun v1 w1 h1 h2 h3 h4 => by rw [hN]; exact h v1 w1 h1 h2 h3 h4)
  rw [if_pos hw] at h2
  exact h2
end
/-- Four bytes from p on. -/
def win (b : List Int) (p : Nat) : List Int := (b.drop p).take 4
theorem win_key {b : List Int} (h : Bytes b) {p : Nat} (hp : p + 4 ≤ b.length) : KeyB 4 (win b p) := ⟨(h.drop p).take 4, by unfold win; rw [List.length_take, List.length_drop]; omega⟩
/-- Where, ahead of n, these four bytes stand. -/
def occ (b ks : List Int) (n : Nat) : List Int := ((List.range n).filter fun p => decide (win b p = ks)).map Int.ofNat
theorem occ_zero (b ks : List Int) : occ b ks 0 = [] := rfl
theorem occ_hit {b ks : List Int} {n : Nat} (h : win b n = ks) : occ b ks (n + 1) = occ b ks n ++ [(n : Int)] := by
  unfold occ
  rw [List.range_succ, List.filter_append, List.map_append]
  simp [h]
theorem occ_miss {b ks : List Int} {n : Nat} (h : win b n ≠ ks) : occ b ks (n + 1) = occ b ks n := by
  unfold occ
  rw [List.range_succ, List.filter_append, List.map_append]
  simp [h]
theorem occ_len (b ks : List Int) (n : Nat) : (occ b ks n).length ≤ n := by
  unfold occ
  rw [List.length_map]
  exact Nat.le_trans (List.length_filter_le _ _) (by rw [List.length_range]; exact Nat.le_refl _)
/-- The map at bm: the places ahead of n, each key's row in S, no two keys' in one. -/
structure LzMap (w : World) (S : Nat → Prop) (g bm : Nat) (b : List Int) (n : Nat) (M : List Int → Option Value) : Prop where
  is : MapIs w bm 4 M
  rows : ∀ ks v, KeyB 4 ks → M ks = some v → OwI w v (occ b ks n) ∧ ∀ k, v.ownBlock = some k → S k ∧ k ≠ g ∧ k ≠ bm
  nil_ : ∀ ks, KeyB 4 ks → M ks = none → occ b ks n = []
  apart : ∀ ks ks' v v' k, KeyB 4 ks → KeyB 4 ks' → M ks = some v → M ks' = some v' → v.ownBlock = some k → v'.ownBlock = some k → ks = ks'
/-- A finder at g over bytes, all places ahead of n noted; S: its blocks. -/
structure LzSt (w : World) (S : Nat → Prop) (g bm : Nat) (A : Option Addr) (N c : Nat) (b : List Int) (n : Nat) : Prop where
  cells : w.heap[g]? = some (.cells #[.slice A N c, .map (some bm), .int .i64 n] 67 (0, 0))
  read : RdB w A N b
  out : ∀ ad, A = some ad → 0 < N → ¬ S ad.block
  sg : S g
  sb : S bm
  gb : g ≠ bm
  bound : ∀ k, S k → k < w.heap.size
  map : ∃ M, LzMap w S g bm b n M
theorem mapBlk_ne {w : World} {bm k n : Nat} {M : List Int → Option Value} (h : MapIs w bm n M) {cs : Array Value} {t : TypeId} (hk : w.heap[k]? = some (.cells cs t (0, 0))) : k ≠ bm := by
  rintro rfl
  obtain ⟨es, clock, h1, _⟩ := h
  rw [h1] at hk
  cases hk
/-- One place is noted. -/
theorem LzSt.round {w w1 w2 w3 w4 w5 : World} {S : Nat → Prop} {g bm : Nat} {A : Option Addr} {N c : Nat} {b : List Int} {n : Nat} {M : List Int → Option Value} {v1 : Value} {o o2 : Obj}
    (h : LzSt w S g bm A N c b n) (hM : LzMap w S g bm b n M) (hb : Bytes b) (hn : n + 4 ≤ b.length)
    (k1 : Later w w1) (k2 : SetBlk w1 w2 bm o) (hown : OwI w3 v1 (occ b (win b n) n ++ [(n : Int)])) (k3 : w2.grownBy w3 ((M (win b n)).getD (.slice none 0 0)).ownBlock)
    (hloc : v1.ownBlock = ((M (win b n)).getD (.slice none 0 0)).ownBlock ∨ ∃ q, v1.ownBlock = some q ∧ w2.heap.size ≤ q)
    (k4 : SetBlk w3 w4 bm o2) (hm4 : MapIs w4 bm 4 (upd M (win b n) v1)) (k5 : SetBlk w4 w5 g (.cells #[.slice A N c, .map (some bm), .int .i64 ((n + 1 : Nat) : Int)] 67 (0, 0))) :
    LzSt w5 (fun k => S k ∨ (w.heap.size ≤ k ∧ k < w5.heap.size)) g bm A N c b (n + 1) ∧ Fr w w5 S := by
  have hks := win_key hb hn
  have hgl := h.bound g h.sg
  have hbl := h.bound bm h.sb
  have hv0 : ∀ k, ((M (win b n)).getD (.slice none 0 0)).ownBlock = some k → S k ∧ k ≠ g ∧ k ≠ bm := fun k hk => by
    rcases hMv : M (win b n) with _ | v
    · rw [hMv] at hk; simp [Value.ownBlock] at hk
    · rw [hMv] at hk
      exact (hM.rows _ v hks hMv).2 k hk
  have F1 : Fr w w1 S := Fr.later k1
  have F2 : Fr w w2 S := F1.set k2 (.inl h.sb)
  have F3 : Fr w w3 S := F2.grown k3 (fun i hi => .inl (hv0 i hi).1)
  have F4 : Fr w w4 S := F3.set k4 (.inl h.sb)
  have F5 : Fr w w5 S := F4.set k5 (.inl h.sg)
  have s12 : w2.heap.size = w1.heap.size := k2.size
  have s34 : w4.heap.size = w3.heap.size := k4.size
  have s45 : w5.heap.size = w4.heap.size := k5.size
  have s01 := Later.size k1
  have s23 := k3.size
  have hv1 : ∀ k, v1.ownBlock = some k → (S k ∨ (w.heap.size ≤ k ∧ k < w5.heap.size)) ∧ k ≠ g ∧ k ≠ bm := fun k hk => by
    rcases hloc with e | ⟨q, e, hq⟩
    · have h0 := hv0 k (e ▸ hk)
      exact ⟨.inl h0.1, h0.2⟩
    · rw [hk] at e
      injection e with e
      subst e
      have hlt := Kd.R_lt hown k hk
      exact ⟨.inr ⟨by omega, by omega⟩, by omega, by omega⟩
  refine ⟨⟨k5.at_, ?_, ?_, .inl h.sg, .inl h.sb, h.gb, ?_, upd M (win b n) v1, hm4.move (k5.else_ _ h.gb.symm), ?_, ?_, ?_⟩, F5⟩
  · exact F5.rdB h.read h.out
  · intro ad he hp
    have hlt := rdB_lt (he ▸ h.read) hp
    rintro (h1 | h1)
    · exact h.out ad he hp h1
    · omega
  · rintro k (hk | hk)
    · have := h.bound k hk
      have := F5.size
      omega
    · exact hk.2
  · intro ks v hk hv
    by_cases hkk : ks = win b n
    · subst hkk
      rw [upd_same] at hv
      injection hv with hv
      subst hv
      rw [occ_hit rfl]
      refine ⟨?_, hv1⟩
      have F35 : Fr w3 w5 (fun k => k = g ∨ k = bm) := ((Fr.refl w3 _).set k4 (.inl (.inr rfl))).set k5 (.inl (.inl rfl))
      exact F35.own hown (fun k hk' e => by have h2 := (hv1 k hk').2; rcases e with e | e; exact h2.1 e; exact h2.2 e)
    · rw [upd_other hkk] at hv
      obtain ⟨h1, h2⟩ := hM.rows ks v hk hv
      rw [occ_miss (fun e => hkk e.symm)]
      refine ⟨?_, fun k hk' => ⟨.inl (h2 k hk').1, (h2 k hk').2⟩⟩
      have F05 : Fr w w5 (fun k => k = g ∨ k = bm ∨ ((M (win b n)).getD (.slice none 0 0)).ownBlock = some k) :=
        ((((Fr.later k1).set k2 (.inl (.inr (.inl rfl)))).grown k3 (fun i hi => .inl (.inr (.inr hi)))).set k4 (.inl (.inr (.inl rfl)))).set k5 (.inl (.inl rfl))
      refine F05.own h1 (fun k hk' e => ?_)
      rcases e with e | e | e
      · exact (h2 k hk').2.1 e
      · exact (h2 k hk').2.2 e
      · rcases hMv : M (win b n) with _ | v0
        · rw [hMv] at e; simp [Value.ownBlock] at e
        · rw [hMv] at e
          exact hkk (hM.apart ks (win b n) v v0 k hk hks hv hMv hk' e)
  · intro ks hk hv
    by_cases hkk : ks = win b n
    · subst hkk
      rw [upd_same] at hv
      cases hv
    · rw [upd_other hkk] at hv
      rw [occ_miss (fun e => hkk e.symm)]
      exact hM.nil_ ks hk hv
  · have hold : ∀ ks v k, KeyB 4 ks → ks ≠ win b n → M ks = some v → v.ownBlock = some k → v1.ownBlock = some k → False := fun ks v k hk hkk hv ho h1 => by
      obtain ⟨hO, h2⟩ := hM.rows ks v hk hv
      rcases hloc with e | ⟨q, e, hq⟩
      · rcases hMv : M (win b n) with _ | v0
        · rw [hMv, h1] at e; simp [Value.ownBlock] at e
        · rw [hMv, h1] at e
          exact hkk (hM.apart ks (win b n) v v0 k hk hks hv hMv ho e.symm)
      · rw [h1] at e
        injection e with e
        have := h.bound k (h2 k ho).1
        omega
    intro ks ks' v v' k hk hk' hv hv' ho ho'
    by_cases hkk : ks = win b n
    · by_cases hkk' : ks' = win b n
      · rw [hkk, hkk']
      · rw [hkk, upd_same] at hv
        rw [upd_other hkk'] at hv'
        injection hv with hv
        subst hv
        exact (hold ks' v' k hk' hkk' hv' ho' ho).elim
    · rw [upd_other hkk] at hv
      by_cases hkk' : ks' = win b n
      · rw [hkk', upd_same] at hv'
        injection hv' with hv'
        subst hv'
        exact (hold ks v k hk hkk hv ho ho').elim
      · rw [upd_other hkk'] at hv'
        exact hM.apart ks ks' v v' k hk hk' hv hv' ho ho'
end Go.Proofs.Ytcbcoaafdggniaa
