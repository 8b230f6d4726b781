/- Contract of lighterageref01.Fill, with what it holds. Conditions: its own. -/
import Derived.Test.YtnohkhaagkkhjaaRef01
import Derived.Test.YtnohkhaagkkhjaaRd
namespace Go.Proofs.Ytnohkhaagkkhjaa
open Go.RowKit Go.Proofs.YtnohkhaagkkhjaaW.PrintWords Go.Proofs.YtnohkhaagkkhjaaW.PrintMore
set_option linter.unusedVariables false
set_option linter.unusedSimpArgs false
def fillAt (xs : List Int) (i : Nat) : Int := if 0 < xs.length then rd xs ((i % xs.length : Nat) : Int) else 0
def fillL (xs : List Int) (m : Nat) : List Int := (List.range m).map (fillAt xs)
theorem fillL_len (xs : List Int) (m : Nat) : (fillL xs m).length = m := by simp [fillL]
theorem fillL_succ (xs : List Int) (m : Nat) : fillL xs (m + 1) = fillL xs m ++ [fillAt xs m] := by simp [fillL, List.range_succ]
theorem fillAt_range {xs : List Int} (h : Bytes xs) (i : Nat) : 0 ≤ fillAt xs i ∧ fillAt xs i < 256 := by
  unfold fillAt
  split
  · exact h.at_ _
  · omega
theorem fillL_bytes {xs : List Int} (h : Bytes xs) (m : Nat) : Bytes (fillL xs m) := fun x hx => by
  obtain ⟨i, _, rfl⟩ := List.mem_map.1 hx
  exact fillAt_range h i
def FillInv (xs : List Int) (m : Nat) (w : World) (v i : Value) (wr : World) : Prop := ∃ k : Nat, k ≤ m ∧ i = .int .i64 k ∧ OwB wr w.heap.size v (fillL xs k) ∧ Below w.heap.size w wr
theorem fillN_calls (A : Option Addr) (n c : Nat) (xs : List Int) (m : Int) (w : World) (h : RdB w A n xs) (hb : Bytes xs) (h0 : 0 ≤ m) (h1 : m ≤ 1099511627776) :
    Calls Try.prog 21 #[.slice A n c, .int .i64 m] w fun e w' => ∃ B d, e = .returned (.slice B m.toNat d) ∧ Aside0 (OwB w' w.heap.size (.slice B m.toNat d) (fillL xs m.toNat)) ∧ m.toNat ≤ d ∧ Aside0 (RdB w' B m.toNat (fillL xs m.toNat)) ∧ Below w.heap.size w w' := by
  obtain ⟨m, rfl⟩ := Int.eq_ofNat_of_zero_le h0
  have HX := Aside0.mk h
  obtain rfl : xs.length = n := h.1
  have hmax := h.2.1
  clear h
  go_enter Try.func21, Try.ntmps21
  go_wp2
  go_loopw [5, 6] (fun v i wr => FillInv xs m w v i wr) (fun _ i _ => m - (intOf i).toNat)
  case atStart => exact ⟨0, by omega, rfl, Kd.R_nil _ _ _ _ _, Below.refl _ _⟩
  case round =>
    obtain ⟨k, hk, rfl, hO, hB⟩ := hrel
    have HO := Aside0.mk hO
    have HB := Aside0.mk hB
    have HYL := Aside0.mk (fillL_len xs k)
    clear hO hB
    by_cases hlt : k < m
    · have HS := Aside0.mk (fillL_succ xs k)
      by_cases hx0 : 0 < xs.length
      · have hmz : ((xs.length : Int) == 0) = false := by rw [beq_eq_false_iff_ne]; omega
        have e1 : ((k : Int).tmod (xs.length : Int)) = ((k % xs.length : Nat) : Int) := by rw [Int.tmod_eq_emod_of_nonneg (by omega)]; rfl
        have hr : k % xs.length < xs.length := Nat.mod_lt _ hx0
        have HA : Aside0 (fillAt xs k = rd xs ((k % xs.length : Nat) : Int)) := ⟨by unfold fillAt; rw [if_pos hx0]⟩
        obtain ⟨ad, ea⟩ : ∃ ad, A = some ad := by obtain ⟨ad, e, _⟩ := Kd.at_int HX.out 0 (by omega) (by omega); exact ⟨ad, e⟩
        subst ea
        have hcell := rdB_at (Kd.C_below HX.out HB.out) (k % xs.length) hr
        have hby := hb.at_ ((k % xs.length : Nat) : Int)
        generalize rd xs ((k % xs.length : Nat) : Int) = x at *
        generalize hkr : k % xs.length = kr at *
        have hx0I : (0 : Int) < (xs.length : Int) := by omega
        go_wp2_with (at_builtin; refine appB (w0 := w) w.heap.size rfl (.tmp 15) (.tmp 23) rfl _ _ x rfl rfl HO.out HB.out HB.out.size (by have := HYL.out; omega) ?_; intro v5 w5 hO5 hB5 _ _)
        go_roundw
        case rel => exact ⟨k + 1, by omega, by go_num, by rw [HS.out, HA.out]; exact hO5, hB5⟩
        case measure => simp [intOf]; omega
      · have hx0I : ¬ (0 : Int) < (xs.length : Int) := by omega
        have hxl : xs.length = 0 := by omega
        have HA : Aside0 (fillAt xs k = 0) := ⟨by unfold fillAt; rw [if_neg hx0]⟩
        go_wp2_with (at_builtin; refine appB (w0 := w) w.heap.size rfl (.tmp 25) (.tmp 26) rfl _ _ 0 rfl rfl HO.out HB.out HB.out.size (by have := HYL.out; omega) ?_; intro v5 w5 hO5 hB5 _ _)
        go_roundw
        case rel => exact ⟨k + 1, by omega, by go_num, by rw [HS.out, HA.out]; exact hO5, hB5⟩
        case measure => simp [intOf]; omega
    · obtain rfl : k = m := by omega
      go_wp2
      go_ret
      obtain ⟨B, d, rfl, hd, hr⟩ := OwB.reads HO.out
      have HO' := HO.out
      rw [HYL.out] at hd hr HO'
      rw [HYL.out]
      exact ⟨B, d, rfl, ⟨HO'⟩, hd, ⟨hr⟩, HB.out⟩
end Go.Proofs.Ytnohkhaagkkhjaa
