/- Contract: lighterageref05.Count. Conditions: its own. -/
import Derived.Test.YtnohkhaagkkhjaaLz15
import Derived.Test.YtnohkhaagkkhjaaLz16
import Derived.Test.YtnohkhaagkkhjaaLz12
namespace Go.Proofs.Ytnohkhaagkkhjaa
open Go.RowKit Go.Shelf Go.Proofs.YtnohkhaagkkhjaaW.PrintWords Go.Proofs.YtnohkhaagkkhjaaW.PrintMore
set_option linter.unusedVariables false
set_option linter.unusedSimpArgs false
def RCnt (p : List Int) (e : Ending) : Prop := (∃ k : Nat, cnt p = some k ∧ e = .returned (.int .i64 k)) ∨ (cnt p = none ∧ e = .returned (.int .i64 (-1)))
set_option maxRecDepth 20000 in
set_option maxHeartbeats 1600000 in
theorem rcount_calls (A : Option Addr) (N c : Nat) (p : List Int) (w : World) (h : RdB w A N p) (hb : Bytes p) (hN : N ≤ 549755813888) :
    Calls Try.prog 20 #[.slice A N c] w fun e w' => RCnt p e ∧ w = w' := by
  obtain rfl : p.length = N := h.1
  have HX := Aside0.mk h
  clear h
  go_enter Try.func20, Try.ntmps20
  go_wp2
  go_loopw [3, 4] (fun n i wr => ∃ (iN nN : Nat), i = .int .i64 iN ∧ n = .int .i64 nN ∧ nN ≤ iN ∧ iN ≤ p.length + 257 ∧ Aside0 ((iN ≤ p.length ∧ (cnt (p.drop iN)).map (· + nN) = cnt p) ∨ (p.length < iN ∧ cnt p = none)) ∧ w = wr) (fun _ i _ => p.length + 257 - (intOf i).toNat)
  case atStart => exact ⟨0, 0, rfl, rfl, Nat.le_refl _, by omega, ⟨.inl ⟨Nat.zero_le _, by simp⟩⟩, rfl⟩
  case round =>
    obtain ⟨i, n, rfl, rfl, hni, hiN, HI, rfl⟩ := hrel
    by_cases hlt : i < p.length
    · have hltI : (i : Int) < (p.length : Int) := by omega
      have HE : Aside0 ((cnt (p.drop i)).map (· + n) = cnt p) := ⟨by rcases HI.out with h | h; exact h.2; omega⟩
      obtain ⟨ad, ea⟩ : ∃ ad, A = some ad := by obtain ⟨ad, e, _⟩ := Kd.at_int HX.out 0 (by omega) (by omega); exact ⟨ad, e⟩
      subst ea
      have hcell := rdB_at HX.out i hlt
      have hxr := hb.at_ (i : Int)
      obtain ⟨x, hx⟩ := Int.eq_ofNat_of_zero_le hxr.1
      rw [hx] at hcell hxr
      have hql : (p.drop i).length = p.length - i := List.length_drop
      have hqn : p.drop i ≠ [] := fun e => by rw [e] at hql; simp at hql; omega
      have hr0 : rd (p.drop i) 0 = (x : Int) := by have := rd_drop p i 0; rw [Nat.add_zero, hx] at this; exact this
      have key : ∀ s, (tk (p.drop i) = none ∧ p.length < i + s ∨ ∃ a b, tk (p.drop i) = some (s, a, b)) → Aside0 ((i + s ≤ p.length ∧ (cnt (p.drop (i + s))).map (· + (n + 1)) = cnt p) ∨ (p.length < i + s ∧ cnt p = none)) := fun s hs => ⟨by
        rcases hs with ⟨h1, h2⟩ | ⟨a, b, h1⟩
        · refine .inr ⟨h2, ?_⟩
          rw [← HE.out, cnt_none hqn h1]
          rfl
        · have h2 := tk_size h1
          refine .inl ⟨by omega, ?_⟩
          rw [← HE.out, cnt_step hqn h1, List.drop_drop]
          rcases cnt (p.drop (i + s)) with _ | y
          · rfl
          · show some (y + (n + 1)) = some (y + 1 + n)
            congr 1
            omega⟩
      by_cases h128 : x < 128
      · have h128I : (x : Int) < 128 := by omega
        have HK := key (x + 2) (by
          unfold tk
          rw [hr0, if_pos h128I, Int.toNat_natCast]
          by_cases h : x + 2 ≤ (p.drop i).length
          · exact .inr ⟨_, _, by rw [if_pos h]⟩
          · exact .inl ⟨by rw [if_neg h], by omega⟩)
        clear key hx hr0 hql HI
        go_wp2
        go_roundw
        case rel => exact ⟨i + (x + 2), n + 1, by go_num, by go_num, by omega, by omega, HK, trivial⟩
        case measure => simp [intOf]; omega
      · have h128I : ¬ (x : Int) < 128 := by omega
        have HK := key 3 (by
          unfold tk
          rw [hr0, if_neg h128I]
          by_cases h : (p.drop i).length < 3
          · exact .inl ⟨by rw [if_pos h], by omega⟩
          · exact .inr ⟨_, _, by rw [if_neg h]⟩)
        clear key hx hr0 hql HI
        go_wp2
        go_roundw
        case rel => exact ⟨i + 3, n + 1, by go_num, by go_num, by omega, by omega, HK, trivial⟩
        case measure => simp [intOf]; omega
    · have hltI : ¬ (i : Int) < (p.length : Int) := by omega
      by_cases hgt : p.length < i
      · have hgI : (p.length : Int) < (i : Int) := by omega
        have HC : Aside0 (cnt p = none) := ⟨by rcases HI.out with h | h; omega; exact h.2⟩
        clear HI
        go_wp2
        (try simp only [Exit.inBlock, Exit.then])
        refine bodyPost_ret (results_tmp rfl _ _ _) rfl ?_
        exact ⟨.inr ⟨HC.out, rfl⟩, rfl⟩
      · have hgI : ¬ (p.length : Int) < (i : Int) := by omega
        have HC : Aside0 (cnt p = some n) := ⟨by
          rcases HI.out with h | h
          · rw [← h.2, List.drop_eq_nil_of_le (by omega), cnt_nil]
            simp
          · omega⟩
        clear HI
        go_wp2
        (try simp only [Exit.inBlock, Exit.then])
        refine bodyPost_ret (results_tmp rfl _ _ _) rfl ?_
        exact ⟨.inl ⟨n, HC.out, rfl⟩, rfl⟩
end Go.Proofs.Ytnohkhaagkkhjaa
