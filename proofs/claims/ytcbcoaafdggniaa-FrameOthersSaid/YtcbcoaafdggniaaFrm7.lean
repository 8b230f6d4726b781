/- Contract: frame.Seal. Conditions: its own. -/
import Derived.Test.YtcbcoaafdggniaaG2
import Derived.Test.YtcbcoaafdggniaaLzUn
import Derived.Test.YtcbcoaafdggniaaLz9
namespace Go.Proofs.Ytcbcoaafdggniaa
open Go.RowKit Go.Shelf Go.Proofs.YtcbcoaafdggniaaW.PrintWords Go.Proofs.YtcbcoaafdggniaaW.PrintMore
set_option linter.unusedVariables false
set_option linter.unusedSimpArgs false
def isP (b : List Int) : Prop := (packL b).length < b.length
instance (b : List Int) : Decidable (isP b) := by unfold isP; infer_instance
def sealM (b : List Int) : Int := if isP b then 1 else 0
def sealB (b : List Int) : List Int := if isP b then packL b else b
/-- A frame. -/
def sealL (b : List Int) : List Int := [76, sealM b] ++ le32 b.length ++ sealB b ++ le32 (crc 0 b)
theorem rd_lit2 {W : World} {n0 : Nat} (h0 : W.heap.size = n0) (xs : List Int) (cs : Array Value) (fr : Nat × Nat) (n : Nat) (hcs : cs = (xs.map (Value.int .u8)).toArray) (hn : n = xs.length) (hm : xs.length ≤ 9223372036854775807) :
    RdB (W.alloc (.cells cs 5 fr)) (some ⟨n0, 0, none⟩) n xs := by
  subst h0
  exact rd_lit W xs cs fr n hcs hn hm
set_option maxRecDepth 20000 in
set_option maxHeartbeats 1600000 in
theorem seal_calls (A : Option Addr) (N c : Nat) (b : List Int) (w : World) (h : RdB w A N b) (hA : 0 < N → ∃ gb ob, A = some ⟨gb, ob, none⟩) (hb : Bytes b) (hcN : N ≤ c) (hN : N ≤ 1073741824) :
    Calls Try.prog 10 #[.slice A N c] w fun e w' => ∃ v, e = .returned v ∧ OwB w' w.heap.size v (sealL b) ∧ Below w.heap.size w w' := by
  obtain rfl : b.length = N := h.1
  have HX := Aside0.mk h
  clear h
  have hcr := crc_lt (s := 0) (by omega) hb
  have HPL := Aside0.mk (pack_len b)
  by_cases hs : (packL b).length < b.length
  · have hsI : ((packL b).length : Int) < (b.length : Int) := by omega
    go_enter Try.func10, Try.ntmps10
    go_wp2_with (first
      | (go_at_call 21; (with_reducible refine at_cw w ?_); refine (pack_calls A b.length c b w HX.out hA hb hcN (by omega)).mono ?_; rintro e w1 ⟨v, rfl, hQ, hB⟩; obtain ⟨AP, cP, rfl, hcP, hrP⟩ := hQ.reads; have L1 : Aside0 (Later w w1) := ⟨hB⟩; have R_P := Aside0.mk hrP; clear hQ hB hrP)
      | (go_at_call 22; (with_reducible refine (number_calls b.length (by omega) _).mono ?_); rintro e w2 ⟨rfl, rfl⟩)
      | (at_builtin; refine appBs (w0 := w1) w1.heap.size rfl (.tmp 17) (.tmp 21) rfl (.slice (some ⟨w1.heap.size, 0, none⟩) 2 2) [76, 1] (le32 b.length) (some ⟨w1.heap.size + 1, 0, none⟩) 4 4 rfl rfl (OwB.below (own_litB w1 w1.heap.size [76, 1] _ 2 rfl rfl (Nat.le_refl _) (by simp)) (below_alloc (Later.refl _) _)) (rd_lit2 (by simp) (le32 b.length) _ _ 4 rfl rfl (by simp [le32])) (below_alloc (below_alloc (Later.refl w1) _) _) (by simp; omega) (by simp) ?_; intro v3 w3 hO3 hB3 _ _; have HO3 := Aside0.mk hO3; have HB3 := Aside0.mk hB3; have R_P3 := Aside0.mk (Kd.C_below R_P.out hB3); clear hO3 hB3)
      | (at_builtin; refine appBs (w0 := w1) w1.heap.size rfl (.tmp 23) (.tmp 24) rfl v3 ([76, 1] ++ le32 b.length) (packL b) AP _ cP rfl rfl HO3.out R_P3.out HB3.out HB3.out.size (by have := HPL.out; simp [le32]; omega) ?_; intro v4 w4 hO4 hB4 _ _; have HO4 := Aside0.mk hO4; have HB4 := Aside0.mk hB4; have L4 : Aside0 (Later w w4) := ⟨below_tr' L1.out hB4⟩; clear hO4 hB4)
      | (go_at_call 23; (with_reducible refine at_cw w4 ?_); refine (sum_calls A b.length c b w4 (Kd.C_below HX.out L4.out) hb).mono ?_; rintro e w5 ⟨rfl, hB⟩; have L5 : Aside0 (Later w4 w5) := ⟨hB⟩; clear hB)
      | (go_at_call 22; (with_reducible refine (number_calls (crc 0 b) (by omega) _).mono ?_); rintro e w2 ⟨rfl, rfl⟩)
      | (at_builtin; refine appBs (w0 := w1) w1.heap.size rfl (.tmp 26) (.tmp 29) rfl v4 ([76, 1] ++ le32 b.length ++ packL b) (le32 (crc 0 b)) (some ⟨w5.heap.size, 0, none⟩) 4 4 rfl rfl (OwB.below (OwB.below HO4.out L5.out) (below_alloc (Later.refl _) _)) (rd_lit2 rfl (le32 (crc 0 b)) _ _ 4 rfl rfl (by simp [le32])) (below_alloc (below_tr HB4.out L5.out HB4.out.size) _) (by have := HB4.out.size; have := Later.size L5.out; simp; omega) (by have := HPL.out; simp [le32]; omega) ?_; intro v6 w6 hO6 hB6 _ _; have HO6 := Aside0.mk hO6; have HB6 := Aside0.mk hB6; clear hO6 hB6))
    (try simp only [Exit.inBlock, Exit.then])
    refine bodyPost_ret (results_tmp rfl _ _ _) rfl ⟨v6, rfl, ?_, below_tr' L1.out HB6.out⟩
    have : sealL b = [76, 1] ++ le32 b.length ++ packL b ++ le32 (crc 0 b) := by unfold sealL sealM sealB isP; simp [hs]
    rw [this]
    exact Kd.R_lower HO6.out (Later.size L1.out)
  · have hsI : ¬ ((packL b).length : Int) < (b.length : Int) := by omega
    go_enter Try.func10, Try.ntmps10
    go_wp2_with (first
      | (go_at_call 21; (with_reducible refine at_cw w ?_); refine (pack_calls A b.length c b w HX.out hA hb hcN (by omega)).mono ?_; rintro e w1 ⟨v, rfl, hQ, hB⟩; obtain ⟨AP, cP, rfl, hcP, hrP⟩ := hQ.reads; have L1 : Aside0 (Later w w1) := ⟨hB⟩; have R_P := Aside0.mk hrP; clear hQ hB hrP)
      | (go_at_call 22; (with_reducible refine (number_calls b.length (by omega) _).mono ?_); rintro e w2 ⟨rfl, rfl⟩)
      | (at_builtin; refine appBs (w0 := w1) w1.heap.size rfl (.tmp 17) (.tmp 21) rfl (.slice (some ⟨w1.heap.size, 0, none⟩) 2 2) [76, 0] (le32 b.length) (some ⟨w1.heap.size + 1, 0, none⟩) 4 4 rfl rfl (OwB.below (own_litB w1 w1.heap.size [76, 0] _ 2 rfl rfl (Nat.le_refl _) (by simp)) (below_alloc (Later.refl _) _)) (rd_lit2 (by simp) (le32 b.length) _ _ 4 rfl rfl (by simp [le32])) (below_alloc (below_alloc (Later.refl w1) _) _) (by simp; omega) (by simp) ?_; intro v3 w3 hO3 hB3 _ _; have HO3 := Aside0.mk hO3; have HB3 := Aside0.mk hB3; have R_P3 := Aside0.mk (Kd.C_below HX.out (below_tr' L1.out hB3)); clear hO3 hB3)
      | (at_builtin; refine appBs (w0 := w1) w1.heap.size rfl (.tmp 23) (.tmp 24) rfl v3 ([76, 0] ++ le32 b.length) (b) A _ c rfl rfl HO3.out R_P3.out HB3.out HB3.out.size (by have := HPL.out; simp [le32]; omega) ?_; intro v4 w4 hO4 hB4 _ _; have HO4 := Aside0.mk hO4; have HB4 := Aside0.mk hB4; have L4 : Aside0 (Later w w4) := ⟨below_tr' L1.out hB4⟩; clear hO4 hB4)
      | (go_at_call 23; (with_reducible refine at_cw w4 ?_); refine (sum_calls A b.length c b w4 (Kd.C_below HX.out L4.out) hb).mono ?_; rintro e w5 ⟨rfl, hB⟩; have L5 : Aside0 (Later w4 w5) := ⟨hB⟩; clear hB)
      | (go_at_call 22; (with_reducible refine (number_calls (crc 0 b) (by omega) _).mono ?_); rintro e w2 ⟨rfl, rfl⟩)
      | (at_builtin; refine appBs (w0 := w1) w1.heap.size rfl (.tmp 26) (.tmp 29) rfl v4 ([76, 0] ++ le32 b.length ++ b) (le32 (crc 0 b)) (some ⟨w5.heap.size, 0, none⟩) 4 4 rfl rfl (OwB.below (OwB.below HO4.out L5.out) (below_alloc (Later.refl _) _)) (rd_lit2 rfl (le32 (crc 0 b)) _ _ 4 rfl rfl (by simp [le32])) (below_alloc (below_tr HB4.out L5.out HB4.out.size) _) (by have := HB4.out.size; have := Later.size L5.out; simp; omega) (by have := HPL.out; simp [le32]; omega) ?_; intro v6 w6 hO6 hB6 _ _; have HO6 := Aside0.mk hO6; have HB6 := Aside0.mk hB6; clear hO6 hB6))
    (try simp only [Exit.inBlock, Exit.then])
    refine bodyPost_ret (results_tmp rfl _ _ _) rfl ⟨v6, rfl, ?_, below_tr' L1.out HB6.out⟩
    have : sealL b = [76, 0] ++ le32 b.length ++ b ++ le32 (crc 0 b) := by unfold sealL sealM sealB isP; simp [hs]
    rw [this]
    exact Kd.R_lower HO6.out (Later.size L1.out)
end Go.Proofs.Ytcbcoaafdggniaa
