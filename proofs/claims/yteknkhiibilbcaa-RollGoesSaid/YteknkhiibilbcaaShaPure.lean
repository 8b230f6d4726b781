/- The digest, in plain Lean: words, rounds, blocks. Plain definitions and lemmas. -/
import Derived.Test.YteknkhiibilbcaaW32
import Derived.Test.YteknkhiibilbcaaCrcPure
namespace Go.Proofs.Yteknkhiibilbcaa
open Go.RowKit Go.Proofs.YteknkhiibilbcaaW.PrintWords Go.Proofs.YteknkhiibilbcaaW.PrintMore
set_option linter.unusedVariables false
set_option linter.unusedSimpArgs false
/-- A word turned round to the right. -/
def rotN (x k : Nat) : Nat := x / 2 ^ k + (x % 2 ^ k) * 2 ^ (32 - k)
def rot (x : Int) (k : Nat) : Int := ((rotN x.toNat k : Nat) : Int)
theorem rotN_lt {x k : Nat} (hk : k ≤ 32) (h : x < 4294967296) : rotN x k < 4294967296 := by
  unfold rotN
  have h1 : (2 : Nat) ^ k * 2 ^ (32 - k) = 4294967296 := by rw [← Nat.pow_add, show k + (32 - k) = 32 by omega]
  have h2 : x / 2 ^ k < 2 ^ (32 - k) := by rw [Nat.div_lt_iff_lt_mul (Nat.two_pow_pos k), Nat.mul_comm, h1]; exact h
  have h3 : x % 2 ^ k ≤ 2 ^ k - 1 := by have := Nat.mod_lt x (Nat.two_pow_pos k); omega
  have h4 : (x % 2 ^ k) * 2 ^ (32 - k) ≤ (2 ^ k - 1) * 2 ^ (32 - k) := Nat.mul_le_mul_right _ h3
  rw [Nat.sub_mul, h1] at h4
  have h5 : 2 ^ (32 - k) ≤ 4294967296 := by rw [← h1]; exact Nat.le_mul_of_pos_left _ (Nat.two_pow_pos k)
  omega
theorem rot_range {x : Int} {k : Nat} (hk : k ≤ 32) (h0 : 0 ≤ x) (h : x < 4294967296) : 0 ≤ rot x k ∧ rot x k < 4294967296 := by
  have := rotN_lt (x := x.toNat) hk (by omega)
  unfold rot
  omega
def ad (a b : Int) : Int := (a + b) % 4294967296
theorem ad_range (a b : Int) : 0 ≤ ad a b ∧ ad a b < 4294967296 := ⟨Int.emod_nonneg _ (by omega), Int.emod_lt_of_pos _ (by omega)⟩
theorem ad_assoc (a b c : Int) : ad (ad a b) c = ad a (ad b c) := by unfold ad; omega
def xr (a b : Int) : Int := Go.bits .xor .u32 a b
def an (a b : Int) : Int := Go.bits .and .u32 a b
def sg0 (x : Int) : Int := xr (xr (rot x 7) (rot x 18)) (x / 8)
def sg1 (x : Int) : Int := xr (xr (rot x 17) (rot x 19)) (x / 1024)
def bs1 (x : Int) : Int := xr (xr (rot x 6) (rot x 11)) (rot x 25)
def bs0 (x : Int) : Int := xr (xr (rot x 2) (rot x 13)) (rot x 22)
def ch (e f g : Int) : Int := xr (an e f) (an (4294967295 - e) g)
def maj (a b c : Int) : Int := xr (xr (an a b) (an a c)) (an b c)
def word (b : List Int) (i : Int) : Int := rd b i * 16777216 + rd b (i + 1) * 65536 + rd b (i + 2) * 256 + rd b (i + 3)
def wnext (w : List Int) (i : Int) : Int := ad (ad (ad (rd w (i - 16)) (sg0 (rd w (i - 15)))) (rd w (i - 7))) (sg1 (rd w (i - 2)))
def wstep (b w : List Int) (i : Nat) : Int := if i < 16 then word b (4 * (i : Int)) else wnext w (i : Int)
def sched (b : List Int) : Nat → List Int
  | 0 => []
  | i + 1 => sched b i ++ [wstep b (sched b i) i]
theorem sched_len (b : List Int) : ∀ i, (sched b i).length = i
  | 0 => rfl
  | i + 1 => by simp [sched, sched_len b i]
theorem word_range {b : List Int} (h : Bytes b) (i : Int) : 0 ≤ word b i ∧ word b i < 4294967296 := by
  have h0 := h.at_ i
  have h1 := h.at_ (i + 1)
  have h2 := h.at_ (i + 2)
  have h3 := h.at_ (i + 3)
  unfold word
  omega
theorem wstep_range {b w : List Int} (h : Bytes b) (i : Nat) : 0 ≤ wstep b w i ∧ wstep b w i < 4294967296 := by
  unfold wstep
  split
  · exact word_range h _
  · exact ad_range _ _
theorem sched_ws {b : List Int} (h : Bytes b) : ∀ i, Ws (sched b i)
  | 0 => Ws.nil
  | i + 1 => (sched_ws h i).append (Ws.one (wstep_range h i))
def Kc : List Int := [1116352408, 1899447441, 3049323471, 3921009573, 961987163, 1508970993, 2453635748, 2870763221, 3624381080, 310598401, 607225278, 1426881987, 1925078388, 2162078206, 2614888103, 3248222580, 3835390401, 4022224774, 264347078, 604807628, 770255983, 1249150122, 1555081692, 1996064986, 2554220882, 2821834349, 2952996808, 3210313671, 3336571891, 3584528711, 113926993, 338241895, 666307205, 773529912, 1294757372, 1396182291, 1695183700, 1986661051, 2177026350, 2456956037, 2730485921, 2820302411, 3259730800, 3345764771, 3516065817, 3600352804, 4094571909, 275423344, 430227734, 506948616, 659060556, 883997877, 958139571, 1322822218, 1537002063, 1747873779, 1955562222, 2024104815, 2227730452, 2361852424, 2428436474, 2756734187, 3204031479, 3329325298]
theorem Kc_len : Kc.length = 64 := rfl
theorem Kc_ws : Ws Kc := by
  have : (Kc.all fun x => decide (0 ≤ x ∧ x < 4294967296)) = true := by decide +kernel
  intro x hx
  exact of_decide_eq_true (List.all_eq_true.1 this x hx)
def IV : List Int := [1779033703, 3144134277, 1013904242, 2773480762, 1359893119, 2600822924, 528734635, 1541459225]
def tt (v : List Int) (k w : Int) : Int := ad (ad (ad (ad (rd v 7) (bs1 (rd v 4))) (ch (rd v 4) (rd v 5) (rd v 6))) k) w
def uu (v : List Int) : Int := ad (bs0 (rd v 0)) (maj (rd v 0) (rd v 1) (rd v 2))
def rnd (v : List Int) (k w : Int) : List Int := [ad (tt v k w) (uu v), rd v 0, rd v 1, rd v 2, ad (rd v 3) (tt v k w), rd v 4, rd v 5, rd v 6]
def rounds (w h : List Int) : Nat → List Int
  | 0 => h
  | i + 1 => rnd (rounds w h i) (rd Kc i) (rd w i)
theorem rnd_len (v : List Int) (k w : Int) : (rnd v k w).length = 8 := rfl
theorem rnd_ws {v : List Int} (h : Ws v) (k w : Int) : Ws (rnd v k w) := by
  intro x hx
  simp only [rnd, List.mem_cons, List.not_mem_nil, or_false] at hx
  rcases hx with rfl | rfl | rfl | rfl | rfl | rfl | rfl | rfl
  · exact ad_range _ _
  · exact h.at_ _
  · exact h.at_ _
  · exact h.at_ _
  · exact ad_range _ _
  · exact h.at_ _
  · exact h.at_ _
  · exact h.at_ _
theorem rounds_ws {w h : List Int} (hh : Ws h) : ∀ i, Ws (rounds w h i)
  | 0 => hh
  | i + 1 => rnd_ws (rounds_ws hh i) _ _
theorem rounds_len {w h : List Int} (hh : h.length = 8) : ∀ i, (rounds w h i).length = 8
  | 0 => hh
  | _ + 1 => rfl
/-- The first j of v with h's added. -/
def fins (h v : List Int) : Nat → List Int
  | 0 => v
  | j + 1 => (fins h v j).set j (ad (rd (fins h v j) j) (rd h j))
theorem fins_len (h v : List Int) : ∀ j, (fins h v j).length = v.length
  | 0 => rfl
  | j + 1 => by simp [fins, fins_len h v j]
theorem fins_ws {h v : List Int} (hv : Ws v) : ∀ j, Ws (fins h v j)
  | 0 => hv
  | j + 1 => (fins_ws hv j).set j (ad_range _ _)
/-- The words behind 64 bytes. -/
def comp (h b : List Int) : List Int := fins h (rounds (sched b 64) h 64) 8
theorem comp_len {h b : List Int} (hh : h.length = 8) : (comp h b).length = 8 := by rw [comp, fins_len, rounds_len hh]
theorem comp_ws {h b : List Int} (hh : Ws h) : Ws (comp h b) := fins_ws (rounds_ws hh 64) 8
/-- One turn more. -/
theorem rotN_step (x j : Nat) (hj : j < 25) (h : x < 4294967296) : rotN x j / 2 + (rotN x j % 2) * 2147483648 = rotN x (j + 1) := by
  unfold rotN
  match j, hj with
  | 0, _ => simp only [Nat.reducePow, Nat.reduceSub, Nat.reduceAdd]; omega
  | 1, _ => simp only [Nat.reducePow, Nat.reduceSub, Nat.reduceAdd]; omega
  | 2, _ => simp only [Nat.reducePow, Nat.reduceSub, Nat.reduceAdd]; omega
  | 3, _ => simp only [Nat.reducePow, Nat.reduceSub, Nat.reduceAdd]; omega
  | 4, _ => simp only [Nat.reducePow, Nat.reduceSub, Nat.reduceAdd]; omega
  | 5, _ => simp only [Nat.reducePow, Nat.reduceSub, Nat.reduceAdd]; omega
  | 6, _ => simp only [Nat.reducePow, Nat.reduceSub, Nat.reduceAdd]; omega
  | 7, _ => simp only [Nat.reducePow, Nat.reduceSub, Nat.reduceAdd]; omega
  | 8, _ => simp only [Nat.reducePow, Nat.reduceSub, Nat.reduceAdd]; omega
  | 9, _ => simp only [Nat.reducePow, Nat.reduceSub, Nat.reduceAdd]; omega
  | 10, _ => simp only [Nat.reducePow, Nat.reduceSub, Nat.reduceAdd]; omega
  | 11, _ => simp only [Nat.reducePow, Nat.reduceSub, Nat.reduceAdd]; omega
  | 12, _ => simp only [Nat.reducePow, Nat.reduceSub, Nat.reduceAdd]; omega
  | 13, _ => simp only [Nat.reducePow, Nat.reduceSub, Nat.reduceAdd]; omega
  | 14, _ => simp only [Nat.reducePow, Nat.reduceSub, Nat.reduceAdd]; omega
  | 15, _ => simp only [Nat.reducePow, Nat.reduceSub, Nat.reduceAdd]; omega
  | 16, _ => simp only [Nat.reducePow, Nat.reduceSub, Nat.reduceAdd]; omega
  | 17, _ => simp only [Nat.reducePow, Nat.reduceSub, Nat.reduceAdd]; omega
  | 18, _ => simp only [Nat.reducePow, Nat.reduceSub, Nat.reduceAdd]; omega
  | 19, _ => simp only [Nat.reducePow, Nat.reduceSub, Nat.reduceAdd]; omega
  | 20, _ => simp only [Nat.reducePow, Nat.reduceSub, Nat.reduceAdd]; omega
  | 21, _ => simp only [Nat.reducePow, Nat.reduceSub, Nat.reduceAdd]; omega
  | 22, _ => simp only [Nat.reducePow, Nat.reduceSub, Nat.reduceAdd]; omega
  | 23, _ => simp only [Nat.reducePow, Nat.reduceSub, Nat.reduceAdd]; omega
  | 24, _ => simp only [Nat.reducePow, Nat.reduceSub, Nat.reduceAdd]; omega
  | n + 25, hj => omega
end Go.Proofs.Yteknkhiibilbcaa
