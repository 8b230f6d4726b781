/- Contracts: match at any place; lz.over, lz.Match. Conditions: each contract's own. -/
import Derived.Test.YtcbcoaafdggniaaLzPure
namespace Go.Proofs.Ytcbcoaafdggniaa
open Go.RowKit Go.Shelf Go.Proofs.YtcbcoaafdggniaaW.PrintWords Go.Proofs.YtcbcoaafdggniaaW.PrintMore
set_option linter.unusedVariables false
set_option linter.unusedSimpArgs false
theorem UpInv.wk {w w' : World} {S : Nat → Prop} {g bm : Nat} {A : Option Addr} {N c : Nat} {b : List Int} {n i : Nat} (h : UpInv w S g bm A N c b i i w') (hn : n ≤ i) : UpInv w S g bm A N c b n i w' := by
  obtain ⟨n', S', h1, h2, r⟩ := h
  exact ⟨n', S', by omega, h2, r⟩
theorem match_short (S : Nat → Prop) (g bm N c : Nat) (A : Option Addr) (b : List Int) (n i : Nat) (w : World) (h : LzSt w S g bm A N c b n) (hi : i ≤ N) (hN : N ≤ 1099511627776) (hi4 : N < i + 4) :
    Calls Try.prog 35 #[.pointer (some ⟨g, 0, none⟩), .int .i64 i] w fun e w' => e = .returned (.tuple #[.int .i64 0, .int .i64 0]) ∧ Below w.heap.size w w' := by
  have HS := Aside0.mk h
  clear h
  go_enter Try.func35, Try.ntmps35
  go_wp2_with fail
  obtain ⟨w1, hw1, K1, B2, B3⟩ : ∃ w1, w1 = (w.alloc (.cells #[.pointer (some ⟨g, 0, none⟩)] 58)).alloc (.cells #[.int .i64 i] 3) ∧ Aside0 (Later w w1) ∧ Aside0 (w1.heap[w.heap.size]? = some (.cells #[.pointer (some ⟨g, 0, none⟩)] 58 (0, 0))) ∧ Aside0 (w1.heap[w.heap.size + 1]? = some (.cells #[.int .i64 i] 3 (0, 0))) :=
    ⟨_, rfl, ⟨((Below.refl _ w).alloc (Nat.le_refl _) _).alloc (by simp) _⟩, ⟨by rw [Below.heap_alloc _ _ _ (by simp)]; exact blk_new w _⟩, ⟨by have := blk_new (w.alloc (.cells #[.pointer (some ⟨g, 0, none⟩)] 58)) (.cells #[.int .i64 i] 3); simpa using this⟩⟩
  rw [← hw1]
  clear hw1
  have HS1 := Aside0.mk (HS.out.later K1.out)
  have c0 := HS1.out.c0
  have b2 : w1.cell? ⟨w.heap.size, 0, none⟩ = some (.pointer (some ⟨g, 0, none⟩)) := by rw [blk_cell B2.out]; rfl
  have b3 : w1.cell? ⟨w.heap.size + 1, 0, none⟩ = some (.int .i64 i) := by rw [blk_cell B3.out]; rfl
  have hi4I : (N : Int) < (i : Int) + 4 := by omega
  go_wp2_with fail
  go_quiet (fail)
  go_wp2
  refine bodyPost_ret (results_tmp2 rfl _ _ _) rfl ?_
  exact ⟨rfl, Below.trans K1.out ((drewN_below w1 nq).mono (Later.size K1.out))⟩
theorem match2_calls (S : Nat → Prop) (g bm N c : Nat) (A : Option Addr) (b : List Int) (n i : Nat) (w : World) (hA : 0 < N → ∃ gb ob, A = some ⟨gb, ob, none⟩) (h : LzSt w S g bm A N c b n) (hb : Bytes b) (hcN : N ≤ c) (hn : n ≤ i) (hi : i ≤ N) (hN : N ≤ 1099511627776) :
    Calls Try.prog 35 #[.pointer (some ⟨g, 0, none⟩), .int .i64 i] w fun e w' => e = .returned (.tuple #[.int .i64 (lzM b i).1, .int .i64 (lzM b i).2]) ∧ UpInv w S g bm A N c b n i w' := by
  have hl := h.read.1
  by_cases hi4 : i + 4 ≤ N
  · obtain ⟨gb, ob, rfl⟩ := hA (by omega)
    refine (match_calls S g bm gb ob N c b n i w h hb hcN hn hi hN hi4).mono ?_
    rintro e w' ⟨r, rfl, hr, hu⟩
    rw [mres_is (by omega) hr]
    exact ⟨rfl, hu.wk hn⟩
  · refine (match_short S g bm N c A b n i w h hi hN (by omega)).mono ?_
    rintro e w' ⟨rfl, hB⟩
    rw [lzM_short (by omega) (by omega)]
    exact ⟨rfl, n, S, Nat.le_refl _, hn, h.later hB, Fr.later hB, fun k hk => .inl hk⟩
theorem built_f (A : Option Addr) (n c bm : Nat) : Try.prog.built 67 [(0, .slice A n c), (1, .map (some bm))] = some #[.slice A n c, .map (some bm), .int .i64 0] := by kernel_rfl
/-- A finder that is new. -/
theorem over_calls (A : Option Addr) (N c : Nat) (b : List Int) (w : World) (h : RdB w A N b) : Calls Try.prog 33 #[.slice A N c] w fun e w' => e = .returned (.pointer (some ⟨w.heap.size + 1, 0, none⟩)) ∧ w'.heap.size = w.heap.size + 2 ∧ Below w.heap.size w w' ∧
    LzSt w' (fun k => k = w.heap.size + 1 ∨ k = w.heap.size) (w.heap.size + 1) w.heap.size A N c b 0 := by
  have hmm := @run_makeMap Try.prog
  have HX := Aside0.mk h
  clear h
  have hbt := built_f A N c w.heap.size
  go_enter Try.func33, Try.ntmps33
  go_wp2_with (((with_reducible refine at_bd 67 ?_); refine build_arm rfl 67 _ rfl hbt ?_; simp only [Act.put, List.setIfInBounds_toArray, List.set_cons_zero, List.set_cons_succ]))
  go_ret
  have L : Below w.heap.size w ((w.alloc (.map #[] 0)).alloc (.cells #[.slice A N c, .map (some w.heap.size), .int .i64 0] 67)) := ((Below.refl _ w).alloc (Nat.le_refl _) _).alloc (by simp) _
  have hm : MapIs ((w.alloc (.map #[] 0)).alloc (.cells #[.slice A N c, .map (some w.heap.size), .int .i64 0] 67)) w.heap.size 4 (fun _ => none) := (mapIs_new w 4).move (Below.heap_alloc _ _ _ (by simp))
  refine ⟨rfl, by simp, L, ⟨by have := blk_new (w.alloc (.map #[] 0)) (.cells #[.slice A N c, .map (some w.heap.size), .int .i64 0] 67); simpa using this, Kd.C_below HX.out L, ?_, .inl rfl, .inr rfl, by omega, ?_, fun _ => none, hm, ?_, ?_, ?_⟩⟩
  · rintro ad rfl hp
    have := rdB_lt HX.out hp
    omega
  · rintro k (rfl | rfl) <;> (simp; try omega)
  · intro ks v _ hv; cases hv
  · intro ks _ _; exact occ_zero _ _
  · intro ks ks' v v' k _ _ hv; cases hv
/-- The match at any place, none outside. -/
def lzMI (b : List Int) (i : Int) : Int × Int := if 0 ≤ i ∧ i < b.length then lzM b i.toNat else (0, 0)
end Go.Proofs.Ytcbcoaafdggniaa
