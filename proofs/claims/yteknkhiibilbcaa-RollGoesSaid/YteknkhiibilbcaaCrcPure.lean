/- The plain laws of the check of bytes (crc): over numbers and lists, no program. Conditions: none but each lemma's own. -/
import Derived.Test.YteknkhiibilbcaaBase
namespace Go.Proofs.Yteknkhiibilbcaa
open Go.RowKit Go.Proofs.YteknkhiibilbcaaW.PrintWords Go.Proofs.YteknkhiibilbcaaW.PrintMore
set_option linter.unusedVariables false
set_option linter.unusedSimpArgs false

/-- One step, so many steps, all bytes, the check. -/
def cs (x : Nat) : Nat := (x / 2) ^^^ (if x % 2 = 1 then 2197175160 else 0)
def css (x : Nat) : Nat → Nat
  | 0 => x
  | k + 1 => cs (css x k)
def cm (x : Nat) (l : List Int) : Nat := l.foldl (fun x b => css (x ^^^ b.toNat) 8) x
def crc (s : Nat) (l : List Int) : Nat := 4294967295 ^^^ cm (4294967295 ^^^ s) l

theorem xor_lt {a b : Nat} (ha : a < 4294967296) (hb : b < 4294967296) : a ^^^ b < 4294967296 := Nat.xor_lt_two_pow (n := 32) ha hb
theorem cs_lt {x : Nat} (h : x < 4294967296) : cs x < 4294967296 := by
  unfold cs
  refine xor_lt (by omega) ?_
  split <;> omega
theorem css_lt {x : Nat} (h : x < 4294967296) : ∀ k, css x k < 4294967296
  | 0 => h
  | k + 1 => cs_lt (css_lt h k)
theorem byte_lt {b : Int} (h : 0 ≤ b ∧ b < 256) : b.toNat < 256 := by omega
theorem cm_lt {x : Nat} (h : x < 4294967296) {l : List Int} (hl : Bytes l) : cm x l < 4294967296 := by
  induction l generalizing x with
  | nil => exact h
  | cons b l ih =>
    have := byte_lt (hl b (by simp))
    exact ih (css_lt (xor_lt h (by omega)) 8) (fun y hy => hl y (by simp [hy]))
theorem crc_lt {s : Nat} (h : s < 4294967296) {l : List Int} (hl : Bytes l) : crc s l < 4294967296 := xor_lt (by omega) (cm_lt (xor_lt (by omega) h) hl)
theorem cm_append (x : Nat) (a b : List Int) : cm x (a ++ b) = cm (cm x a) b := List.foldl_append
theorem cm_snoc (x : Nat) (a : List Int) (b : Int) : cm x (a ++ [b]) = css (cm x a ^^^ b.toNat) 8 := cm_append x a [b]
theorem css_add (x j k : Nat) : css x (j + k) = css (css x j) k := by
  induction k with
  | zero => rfl
  | succ k ih => show cs (css x (j + k)) = _; rw [ih]; rfl

theorem xor_div2 (a b : Nat) : (a ^^^ b) / 2 = (a / 2) ^^^ (b / 2) := by
  have := Nat.shiftRight_xor_distrib (a := a) (b := b) (i := 1)
  simpa [Nat.shiftRight_eq_div_pow] using this
theorem xor_mod2 (a b : Nat) : (a ^^^ b) % 2 = (a % 2 + b % 2) % 2 := by
  have h := Nat.testBit_xor a b 0
  simp only [Nat.testBit_zero] at h
  rcases Nat.mod_two_eq_zero_or_one a with ha | ha <;> rcases Nat.mod_two_eq_zero_or_one b with hb | hb <;> rcases Nat.mod_two_eq_zero_or_one (a ^^^ b) with hc | hc <;> simp [ha, hb, hc] at h ⊢
theorem cs_xor (a b : Nat) : cs (a ^^^ b) = cs a ^^^ cs b := by
  unfold cs
  rw [xor_div2, xor_mod2]
  rcases Nat.mod_two_eq_zero_or_one a with ha | ha <;> rcases Nat.mod_two_eq_zero_or_one b with hb | hb <;> simp only [ha, hb]
  · simp
  · simp only [Nat.zero_add, Nat.one_mod, if_true, Nat.zero_ne_one, if_false, Nat.xor_zero]; rw [Nat.xor_assoc]
  · simp only [Nat.add_zero, Nat.one_mod, if_true, Nat.zero_ne_one, if_false, Nat.xor_zero]; rw [Nat.xor_assoc, Nat.xor_assoc, Nat.xor_comm (b / 2)]
  · simp only [Nat.reduceAdd, Nat.mod_self, Nat.zero_ne_one, if_true, if_false, Nat.xor_zero]
    rw [Nat.xor_assoc (a / 2), Nat.xor_comm 2197175160 (b / 2 ^^^ 2197175160), Nat.xor_assoc (b / 2), Nat.xor_self, Nat.xor_zero]
theorem css_xor (a b : Nat) : ∀ k, css (a ^^^ b) k = css a k ^^^ css b k
  | 0 => rfl
  | k + 1 => by show cs (css (a ^^^ b) k) = cs (css a k) ^^^ cs (css b k); rw [css_xor a b k, cs_xor]
theorem cm_lin (x : Nat) (l : List Int) : cm x l = css x (8 * l.length) ^^^ cm 0 l := by
  induction l generalizing x with
  | nil => show x = x ^^^ 0; rw [Nat.xor_zero]
  | cons b l ih =>
    show cm (css (x ^^^ b.toNat) 8) l = _ ^^^ cm (css (0 ^^^ b.toNat) 8) l
    rw [ih, ih (css (0 ^^^ b.toNat) 8), css_xor x, Nat.zero_xor, css_xor (css x 8), Nat.xor_assoc, ← css_add, List.length_cons, show 8 + 8 * l.length = 8 * (l.length + 1) by omega]
/-- Joined checks. -/
theorem join_law (x y : List Int) (a : Nat) : css (crc a x) (8 * y.length) ^^^ crc 0 y = crc a (x ++ y) := by
  unfold crc
  rw [cm_append, Nat.xor_zero, cm_lin (cm _ x) y, cm_lin 4294967295 y, css_xor]
  generalize css (cm (4294967295 ^^^ a) x) (8 * y.length) = p
  generalize css 4294967295 (8 * y.length) = q
  generalize cm 0 y = r
  apply Nat.eq_of_testBit_eq
  intro i
  simp only [Nat.testBit_xor]
  cases q.testBit i <;> cases p.testBit i <;> cases r.testBit i <;> cases (4294967295 : Nat).testBit i <;> rfl
theorem xor_xor_ones (x : Nat) : 4294967295 ^^^ (4294967295 ^^^ x) = x := by rw [← Nat.xor_assoc, Nat.xor_self, Nat.zero_xor]
theorem more_law (a : Nat) (x y : List Int) : crc (crc a x) y = crc a (x ++ y) := by
  unfold crc
  rw [cm_append, xor_xor_ones]
theorem crc_nil (a : Nat) : crc a [] = a := xor_xor_ones a

/-- What differs in one byte has another check. -/
theorem testBit31 {x : Nat} (h : x < 2147483648) : x.testBit 31 = false := Nat.testBit_lt_two_pow h
theorem cs_top {x : Nat} (h : x < 4294967296) : (cs x).testBit 31 = decide (x % 2 = 1) := by
  unfold cs
  rw [Nat.testBit_xor, testBit31 (by omega)]
  split
  · rename_i e; rw [e]; decide
  · rename_i e; simp [e]
theorem cs_inj {x y : Nat} (hx : x < 4294967296) (hy : y < 4294967296) (h : cs x = cs y) : x = y := by
  have h1 := cs_top hx
  rw [h, cs_top hy] at h1
  have h2 : x % 2 = y % 2 := by
    rcases Nat.mod_two_eq_zero_or_one x with ha | ha <;> rcases Nat.mod_two_eq_zero_or_one y with hb | hb <;> simp [ha, hb] at h1 ⊢
  unfold cs at h
  rw [h2] at h
  have h3 : x / 2 = y / 2 := by
    have := congrArg (fun z => z ^^^ (if y % 2 = 1 then 2197175160 else 0)) h
    simpa [Nat.xor_assoc] using this
  omega
theorem css_inj {x y : Nat} (hx : x < 4294967296) (hy : y < 4294967296) : ∀ k, css x k = css y k → x = y
  | 0, h => h
  | k + 1, h => css_inj hx hy k (cs_inj (css_lt hx k) (css_lt hy k) h)
theorem xor_left_inj {a b c : Nat} (h : a ^^^ b = a ^^^ c) : b = c := by
  have := congrArg (fun z => a ^^^ z) h
  simpa [← Nat.xor_assoc] using this
theorem xor_right_inj {a b c : Nat} (h : b ^^^ a = c ^^^ a) : b = c := by
  rw [Nat.xor_comm b, Nat.xor_comm c] at h
  exact xor_left_inj h
theorem cm_inj {l : List Int} (hl : Bytes l) : ∀ {x y : Nat}, x < 4294967296 → y < 4294967296 → cm x l = cm y l → x = y := by
  induction l with
  | nil => exact fun _ _ h => h
  | cons b l ih =>
    intro x y hx hy h
    have hb := byte_lt (hl b (by simp))
    exact xor_right_inj (css_inj (xor_lt hx (by omega)) (xor_lt hy (by omega)) 8 (ih (fun z hz => hl z (by simp [hz])) (css_lt (xor_lt hx (by omega)) 8) (css_lt (xor_lt hy (by omega)) 8) h))
theorem crc_one {a : Nat} (ha : a < 4294967296) {p q : List Int} {b c : Int} (hp : Bytes p) (hq : Bytes q) (hb : 0 ≤ b ∧ b < 256) (hc : 0 ≤ c ∧ c < 256) (hne : b ≠ c) : crc a (p ++ b :: q) ≠ crc a (p ++ c :: q) := by
  intro h
  have h1 := xor_left_inj h
  rw [cm_append, cm_append] at h1
  have hm := cm_lt (xor_lt (show (4294967295 : Nat) < 4294967296 by omega) ha) hp
  have h2 : cm (css (cm (4294967295 ^^^ a) p ^^^ b.toNat) 8) q = cm (css (cm (4294967295 ^^^ a) p ^^^ c.toNat) 8) q := h1
  have hb' := byte_lt hb
  have hc' := byte_lt hc
  have h3 := xor_left_inj (css_inj (xor_lt hm (by omega)) (xor_lt hm (by omega)) 8 (cm_inj hq (css_lt (xor_lt hm (by omega)) 8) (css_lt (xor_lt hm (by omega)) 8) h2))
  omega
theorem crc_set {a : Nat} (ha : a < 4294967296) {l : List Int} (hl : Bytes l) (k : Nat) (hk : k < l.length) {c : Int} (hc : 0 ≤ c ∧ c < 256) (hne : rd l k ≠ c) : crc a (l.set k c) ≠ crc a l := by
  have e1 : l = l.take k ++ l[k] :: l.drop (k + 1) := by rw [← List.drop_eq_getElem_cons hk, List.take_append_drop]
  have e2 : l.set k c = l.take k ++ c :: l.drop (k + 1) := by rw [List.set_eq_take_append_cons_drop, if_pos hk]
  have e3 : rd l k = l[k] := by simp [rd, List.getD_eq_getElem?_getD, List.getElem?_eq_getElem hk]
  rw [e3] at hne
  rw [e2]
  conv => rhs; rw [e1]
  exact crc_one ha (hl.take _) (hl.drop _) hc (hl _ (List.getElem_mem hk)) (Ne.symm hne)

/-- Four bytes, the lowest first; what is put; what is taken. -/
def le32 (n : Nat) : List Int := [((n % 256 : Nat) : Int), ((n / 256 % 256 : Nat) : Int), ((n / 65536 % 256 : Nat) : Int), ((n / 16777216 % 256 : Nat) : Int)]
theorem le32_bytes (n : Nat) : Bytes (le32 n) := by
  intro x hx
  simp only [le32, List.mem_cons, List.not_mem_nil, or_false] at hx
  rcases hx with rfl | rfl | rfl | rfl <;> omega
theorem le32_inj {m n : Nat} (hm : m < 4294967296) (hn : n < 4294967296) (h : le32 m = le32 n) : m = n := by
  simp only [le32, List.cons.injEq, and_true] at h
  omega
def cput (l : List Int) : List Int := l ++ le32 (crc 0 l)
theorem cput_bytes {l : List Int} (h : Bytes l) : Bytes (cput l) := h.append (le32_bytes _)
theorem cput_length (l : List Int) : (cput l).length = l.length + 4 := by simp [cput, le32]
def ctake (l : List Int) : List Int × Int :=
  if l.length < 4 then ([], 2) else if cput (l.take (l.length - 4)) = l then (l.take (l.length - 4), 0) else ([], 7)
theorem ctake_put (l : List Int) : ctake (cput l) = (l, 0) := by
  have h1 : (cput l).take ((cput l).length - 4) = l := by
    rw [cput_length, Nat.add_sub_cancel]
    simp [cput]
  unfold ctake
  rw [if_neg (by rw [cput_length]; omega), h1, if_pos rfl]
theorem ctake_bytes {l : List Int} (h : Bytes l) : Bytes (ctake l).1 := by
  unfold ctake
  split
  · exact Bytes.nil
  · split
    · exact h.take _
    · exact Bytes.nil
/-- If one byte of what was put is another one, it is not taken. -/
theorem ctake_turned {l : List Int} (hl : Bytes l) (k : Nat) (hk : k < (cput l).length) {c : Int} (hc : 0 ≤ c ∧ c < 256) (hne : rd (cput l) k ≠ c) : ctake ((cput l).set k c) = ([], 7) := by
  have hlen := cput_length l
  unfold ctake
  rw [List.length_set, if_neg (by omega), if_neg]
  rw [hlen, Nat.add_sub_cancel]
  intro h
  by_cases hkl : k < l.length
  · -- the body has turned: its check is another one
    have e1 : ((cput l).set k c).take l.length = l.set k c := by
      rw [List.take_set]
      simp [cput]
    rw [e1] at h
    have e2 : (cput l).set k c = l.set k c ++ le32 (crc 0 l) := by
      unfold cput
      rw [List.set_append_left _ _ hkl]
    rw [e2] at h
    have h2 := List.append_cancel_left (show l.set k c ++ le32 (crc 0 (l.set k c)) = l.set k c ++ le32 (crc 0 l) from h)
    have e3 : rd (cput l) k = rd l k := by
      simp [rd, List.getD_eq_getElem?_getD, cput, List.getElem?_append_left hkl]
    exact crc_set (by omega) hl k hkl hc (by rw [← e3]; exact hne) (le32_inj (crc_lt (by omega) (hl.set k hc.1 hc.2)) (crc_lt (by omega) hl) h2)
  · have e1 : ((cput l).set k c).take l.length = l := by
      rw [List.take_set_of_le (by omega)]
      simp [cput]
    rw [e1] at h
    have h2 := congrArg (fun z => rd z k) h
    have e3 : rd ((cput l).set k c) k = c := by
      simp [rd, List.getD_eq_getElem?_getD, hk]
    exact hne (h2.trans e3)
end Go.Proofs.Yteknkhiibilbcaa
