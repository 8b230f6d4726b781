/- What an index's bytes read as: plain lemmas. -/
import Derived.Test.YtdfahblgnbdndaaDoorIdxE
namespace Go.Proofs.YtdfahblgnbdndaaDoor
open Go.RowKit Go.Shelf Go.Proofs.YtdfahblgnbdndaaDoorW.PrintWords Go.Proofs.YtdfahblgnbdndaaDoorW.PrintMore
set_option linter.unusedVariables false
set_option linter.unusedSimpArgs false
/-- The first k items of bytes. -/
def pits (y : List Int) (k : Nat) : List Itm := (List.range k).map fun j => ((y.drop (52 + 36 * j)).take 32, num y (84 + 36 * j))
theorem pits_len (y : List Int) (k : Nat) : (pits y k).length = k := by simp [pits]
theorem pits_succ (y : List Int) (k : Nat) : pits y (k + 1) = pits y k ++ [((y.drop (52 + 36 * k)).take 32, num y (84 + 36 * k))] := by
  simp [pits, List.range_succ]
theorem pits_bytes {y : List Int} (h : Bytes y) (k : Nat) : ∀ x ∈ pits y k, Bytes x.1 := by
  intro x hx
  obtain ⟨j, hj, rfl⟩ := List.mem_map.1 hx
  exact (h.drop _).take _
/-- How many items there are. -/
def cnt (y : List Int) : Nat := (y.length - 52) / 36
def hdrOk (y : List Int) : Bool := decide (52 ≤ y.length ∧ (y.length - 52) % 36 = 0)
def XZ (e : Int) : Int × Int × Int × List Int × List Itm × Int := (0, 0, 0, Z32, [], e)
/-- What bytes read as: parameters, the image, items, an error. -/
def XR (xs : List Int) : Int × Int × Int × List Int × List Itm × Int :=
  let y := (ctake xs).1
  if (ctake xs).2 ≠ 0 then XZ (ctake xs).2 else
  if hdrOk y = true ∧ y.take 4 = [76, 84, 73, 49] ∧ num y 48 = cnt y ∧ mayX (num y 4) (num y 8) (num y 12) (pits y (cnt y)) = true then
    (num y 4, num y 8, num y 12, (y.drop 16).take 32, pits y (cnt y), 0) else XZ 2
theorem XR_err {xs y : List Int} {e : Int} (h : ctake xs = (y, e)) (he : e ≠ 0) : XR xs = XZ e := by
  unfold XR; rw [h]; simp only; rw [if_pos he]
theorem XR_no {xs y : List Int} (h : ctake xs = (y, 0)) (hn : ¬ (hdrOk y = true ∧ y.take 4 = [76, 84, 73, 49] ∧ num y 48 = cnt y ∧ mayX (num y 4) (num y 8) (num y 12) (pits y (cnt y)) = true)) : XR xs = XZ 2 := by
  unfold XR; rw [h]; simp only; rw [if_neg (by simp), if_neg hn]
theorem XR_ok {xs y : List Int} (h : ctake xs = (y, 0)) (hn : hdrOk y = true ∧ y.take 4 = [76, 84, 73, 49] ∧ num y 48 = cnt y ∧ mayX (num y 4) (num y 8) (num y 12) (pits y (cnt y)) = true) : XR xs = (num y 4, num y 8, num y 12, (y.drop 16).take 32, pits y (cnt y), 0) := by
  unfold XR; rw [h]; simp only; rw [if_neg (by simp), if_pos hn]
theorem rd_get {y : List Int} (k : Nat) (h : k < y.length) : y[k]? = some (rd y ((k : Nat) : Int)) := by
  simp only [rd, Int.toNat_natCast, List.getD_eq_getElem?_getD, List.getElem?_eq_getElem h, Option.getD_some]
/-- Four bytes are their number's. -/
theorem le32_num {y : List Int} (hb : Bytes y) (i : Nat) (h : i + 4 ≤ y.length) : le32 (num y i).toNat = (y.drop i).take 4 := by
  have b0 := hb.at_ (i : Int)
  have b1 := hb.at_ ((i + 1 : Nat) : Int)
  have b2 := hb.at_ ((i + 2 : Nat) : Int)
  have b3 := hb.at_ ((i + 3 : Nat) : Int)
  have e : (y.drop i).take 4 = [rd y (i : Int), rd y ((i + 1 : Nat) : Int), rd y ((i + 2 : Nat) : Int), rd y ((i + 3 : Nat) : Int)] := by
    refine List.ext_getElem? fun j => ?_
    rw [List.getElem?_take, List.getElem?_drop]
    have hg := fun k (hk : k < 4) => rd_get (y := y) (i + k) (by omega)
    rcases j with _ | _ | _ | _ | j
    · rw [if_pos (by omega), hg 0 (by omega)]; rfl
    · rw [if_pos (by omega), hg 1 (by omega)]; rfl
    · rw [if_pos (by omega), hg 2 (by omega)]; rfl
    · rw [if_pos (by omega), hg 3 (by omega)]; rfl
    · rw [if_neg (by omega)]; rfl
  rw [e]
  unfold num
  generalize rd y (i : Int) = x0 at *
  generalize rd y ((i + 1 : Nat) : Int) = x1 at *
  generalize rd y ((i + 2 : Nat) : Int) = x2 at *
  generalize rd y ((i + 3 : Nat) : Int) = x3 at *
  simp only [le32, List.cons.injEq, and_true]
  omega
theorem num_le32 (n : Nat) (h : n < 4294967296) (a b : List Int) : num (a ++ le32 n ++ b) a.length = n := by
  have hr : ∀ j, j < 4 → rd (a ++ le32 n ++ b) ((a.length + j : Nat) : Int) = rd (le32 n) (j : Int) := fun j hj => by
    simp only [rd, Int.toNat_natCast, List.getD_eq_getElem?_getD]
    rw [List.append_assoc, List.getElem?_append_right (by omega), List.getElem?_append_left (by simp [le32]; omega)]
    congr 2
    omega
  have h0 := hr 0 (by omega)
  have h1 := hr 1 (by omega)
  have h2 := hr 2 (by omega)
  have h3 := hr 3 (by omega)
  rw [Nat.add_zero] at h0
  unfold num
  rw [h0, h1, h2, h3]
  simp [rd, le32]
  omega
theorem itB_pits {y : List Int} (hb : Bytes y) : ∀ k, 52 + 36 * k ≤ y.length → itB (pits y k) = (y.drop 52).take (36 * k)
  | 0, _ => by simp [pits, itB]
  | k + 1, h => by
    have ih := itB_pits hb k (by omega)
    have e1 : itB (pits y (k + 1)) = itB (pits y k) ++ ((y.drop (52 + 36 * k)).take 32 ++ le32 (num y (84 + 36 * k)).toNat) := by
      rw [pits_succ]
      simp [itB]
    rw [e1, ih, le32_num hb _ (by omega)]
    rw [show 36 * (k + 1) = 36 * k + (32 + 4) by omega, List.take_add, List.drop_drop, List.take_add, List.drop_drop]
    rw [show 52 + 36 * k + 32 = 84 + 36 * k by omega]
/-- What may be has these bytes just where the magic and the number are as they are to be. -/
theorem xbody_eq {y : List Int} (hb : Bytes y) (hh : hdrOk y = true) (hcn : cnt y < 4294967296) : xbody (num y 4).toNat (num y 8).toNat (num y 12).toNat ((y.drop 16).take 32) (pits y (cnt y)) = y ↔ y.take 4 = [76, 84, 73, 49] ∧ num y 48 = cnt y := by
  have hh' : 52 ≤ y.length ∧ (y.length - 52) % 36 = 0 := of_decide_eq_true hh
  have hc : 52 + 36 * cnt y = y.length := by unfold cnt; omega
  have hy : y = y.take 4 ++ ((y.drop 4).take 4 ++ ((y.drop 8).take 4 ++ ((y.drop 12).take 4 ++ ((y.drop 16).take 32 ++ ((y.drop 48).take 4 ++ (y.drop 52).take (36 * cnt y)))))) := by
    have e1 : (y.drop 52).take (36 * cnt y) = y.drop 52 := List.take_of_length_le (by rw [List.length_drop]; omega)
    rw [e1]
    have h := fun (a b : Nat) => List.take_append_drop b (y.drop a)
    have h48 := h 48 4
    have h16 := h 16 32
    have h12 := h 12 4
    have h8 := h 8 4
    have h4 := h 4 4
    simp only [List.drop_drop, Nat.reduceAdd] at h48 h16 h12 h8 h4
    rw [h48, h16, h12, h8, h4, List.take_append_drop]
  have hx : xbody (num y 4).toNat (num y 8).toNat (num y 12).toNat ((y.drop 16).take 32) (pits y (cnt y)) = [76, 84, 73, 49] ++ ((y.drop 4).take 4 ++ ((y.drop 8).take 4 ++ ((y.drop 12).take 4 ++ ((y.drop 16).take 32 ++ (le32 (cnt y) ++ (y.drop 52).take (36 * cnt y)))))) := by
    unfold xbody hdr
    rw [pits_len, itB_pits hb _ (by omega), le32_num hb 4 (by omega), le32_num hb 8 (by omega), le32_num hb 12 (by omega)]
    simp only [List.append_assoc]
  constructor
  · intro h
    constructor
    · have h4 := congrArg (List.take 4) h
      rw [hx] at h4
      exact h4.symm
    · have h5 := congrArg (fun l => num l 48) h
      have hl : (hdr (num y 4).toNat (num y 8).toNat (num y 12).toNat ++ (y.drop 16).take 32).length = 48 := by
        simp only [hdr, List.length_append, le32_len4, List.length_take, List.length_drop, List.length_cons, List.length_nil]
        omega
      have h6 := num_le32 (cnt y) hcn (hdr (num y 4).toNat (num y 8).toNat (num y 12).toNat ++ (y.drop 16).take 32) (itB (pits y (cnt y)))
      rw [hl] at h6
      unfold xbody at h5
      rw [pits_len] at h5
      exact h5.symm.trans h6
  · rintro ⟨h1, h2⟩
    rw [hx]
    conv => rhs; rw [hy]
    rw [h1]
    congr 5
    rw [← le32_num hb 48 (by omega), h2, Int.toNat_natCast]
theorem cput_inj {a b : List Int} (h : cput a = cput b) : a = b := by
  have h1 := ctake_put a
  rw [h, ctake_put] at h1
  exact (congrArg Prod.fst h1).symm
theorem ctake_ok {xs y : List Int} (h : ctake xs = (y, 0)) : cput y = xs := by
  unfold ctake at h
  split at h
  · injection h with _ h; exact absurd h (by decide)
  · split at h
    · rename_i h1
      injection h with h2 _
      rw [← h2]; exact h1
    · injection h with _ h; exact absurd h (by decide)
theorem itB_append (l m : List Itm) : itB (l ++ m) = itB l ++ itB m := by simp [itB]
/-- What is written is read. -/
theorem XR_bytes {a b c : Nat} {im : List Int} {its : List Itm} (hn : im.length = 32) (hl : ∀ x ∈ its, x.1.length = 32) (hm : mayX a b c its = true) (ha : a < 4294967296) (hb : b < 4294967296) (hc : c < 4294967296) (hs : ∀ x ∈ its, 0 ≤ x.2 ∧ x.2 < 4294967296) (hib : Bytes im) (hnb : ∀ x ∈ its, Bytes x.1) : XR (xbytes a b c im its) = ((a : Int), (b : Int), (c : Int), im, its, 0) := by
  have hlen := xbody_len (a := a) (b := b) (c := c) hn hl
  have hby := xbody_bytes (a := a) (b := b) (c := c) hib hnb
  obtain ⟨-, hl4, -, -⟩ := mayX_spec hm
  have ey : ctake (xbytes a b c im its) = (xbody a b c im its, 0) := ctake_put _
  have e1 : xbody a b c im its = [76, 84, 73, 49] ++ le32 a ++ (le32 b ++ le32 c ++ im ++ le32 its.length ++ itB its) := by simp [xbody, hdr, List.append_assoc]
  have e2 : xbody a b c im its = ([76, 84, 73, 49] ++ le32 a) ++ le32 b ++ (le32 c ++ im ++ le32 its.length ++ itB its) := by simp [xbody, hdr, List.append_assoc]
  have e3 : xbody a b c im its = ([76, 84, 73, 49] ++ le32 a ++ le32 b) ++ le32 c ++ (im ++ le32 its.length ++ itB its) := by simp [xbody, hdr, List.append_assoc]
  have e4 : xbody a b c im its = (hdr a b c ++ im) ++ le32 its.length ++ itB its := rfl
  have hh : (hdr a b c).length = 16 := by simp [hdr, le32]
  have n4 := num_le32 a ha [76, 84, 73, 49] (le32 b ++ le32 c ++ im ++ le32 its.length ++ itB its)
  have n8 := num_le32 b hb ([76, 84, 73, 49] ++ le32 a) (le32 c ++ im ++ le32 its.length ++ itB its)
  have n12 := num_le32 c hc ([76, 84, 73, 49] ++ le32 a ++ le32 b) (im ++ le32 its.length ++ itB its)
  have n48 := num_le32 its.length (by omega) (hdr a b c ++ im) (itB its)
  rw [← e1] at n4
  rw [← e2] at n8
  rw [← e3] at n12
  rw [← e4] at n48
  rw [List.length_append, hh, hn] at n48
  simp only [List.length_append, le32_len4, List.length_cons, List.length_nil] at n4 n8 n12
  have hcn : cnt (xbody a b c im its) = its.length := by unfold cnt; rw [hlen]; omega
  have him : ((xbody a b c im its).drop 16).take 32 = im := by
    rw [e4, List.append_assoc, List.append_assoc, List.drop_left' hh, List.take_left' hn]
  have hit : ∀ k, k ≤ its.length → pits (xbody a b c im its) k = its.take k := by
    intro k
    induction k with
    | zero => intro _; simp [pits]
    | succ k ih =>
      intro hk
      have hk' : k < its.length := by omega
      rw [pits_succ, ih (by omega)]
      have e : its.take (k + 1) = its.take k ++ [its.getD k ([], 0)] := by
        rw [List.take_add_one, List.getD_eq_getElem?_getD, List.getElem?_eq_getElem hk']; rfl
      rw [e]
      congr 2
      have hmem : its.getD k ([], 0) ∈ its := by rw [List.getD_eq_getElem?_getD, List.getElem?_eq_getElem hk']; exact List.getElem_mem _
      have h5 : itB its = itB (its.take k) ++ ((its.getD k ([], 0)).1 ++ (le32 (its.getD k ([], 0)).2.toNat ++ itB (its.drop (k + 1)))) := by
        have : its = its.take (k + 1) ++ its.drop (k + 1) := (List.take_append_drop _ _).symm
        conv => lhs; rw [this]
        rw [itB_append, itB_take hk']
        simp only [List.append_assoc]
      have hbl : (itB (its.take k)).length = 36 * k := by
        rw [itB_len (fun x hx => hl x (List.mem_of_mem_take hx)), List.length_take, Nat.min_eq_left (by omega)]
      have e6 : xbody a b c im its = (hdr a b c ++ im ++ le32 its.length ++ itB (its.take k)) ++ ((its.getD k ([], 0)).1 ++ (le32 (its.getD k ([], 0)).2.toNat ++ itB (its.drop (k + 1)))) := by
        rw [e4, h5]; simp only [List.append_assoc]
      have hpl : (hdr a b c ++ im ++ le32 its.length ++ itB (its.take k)).length = 52 + 36 * k := by
        simp only [List.length_append, hh, hn, le32_len4, hbl]
      have h32 := hl _ hmem
      obtain ⟨s0, s1⟩ := hs _ hmem
      refine Prod.ext ?_ ?_
      · show ((xbody a b c im its).drop (52 + 36 * k)).take 32 = _
        rw [e6, List.drop_left' hpl, List.take_left' h32]
      · show num (xbody a b c im its) (84 + 36 * k) = _
        have n := num_le32 (its.getD k ([], 0)).2.toNat (by omega) (hdr a b c ++ im ++ le32 its.length ++ itB (its.take k) ++ (its.getD k ([], 0)).1) (itB (its.drop (k + 1)))
        rw [List.length_append, hpl, h32, show 52 + 36 * k + 32 = 84 + 36 * k by omega] at n
        rw [e6, ← List.append_assoc, ← List.append_assoc, n]
        omega
  have hits := hit its.length (Nat.le_refl _)
  rw [List.take_length] at hits
  rw [XR_ok ey ⟨decide_eq_true (by rw [hlen]; omega), by rw [e1]; rfl, by rw [n48, hcn], by rw [n4, n8, n12, hcn, hits]; exact hm⟩, n4, n8, n12, him, hcn, hits]
end Go.Proofs.YtdfahblgnbdndaaDoor
