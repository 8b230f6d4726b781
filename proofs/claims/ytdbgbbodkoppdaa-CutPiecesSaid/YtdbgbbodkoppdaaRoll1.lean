/- roll's words: fill, of. Conditions: the cells of the words. -/
import Derived.Test.YtdbgbbodkoppdaaOnce
import Derived.Test.YtdbgbbodkoppdaaG1
import Derived.Test.YtdbgbbodkoppdaaRef01
namespace Go.Proofs.Ytdbgbbodkoppdaa
open Go.RowKit Go.Proofs.YtdbgbbodkoppdaaW.PrintWords Go.Proofs.YtdbgbbodkoppdaaW.PrintMore
set_option linter.unusedVariables false
set_option linter.unusedSimpArgs false
def xs1 (x : Int) : Int := xr x (x * 8192 % 4294967296)
def xs2 (x : Int) : Int := xr x (x / 131072)
def xs3 (x : Int) : Int := xr x (x * 32 % 4294967296)
def wst (x : Int) : Int := xs3 (xs2 (xs1 x))
theorem xs1_range {x : Int} (h : 0 ≤ x ∧ x < 4294967296) : 0 ≤ xs1 x ∧ xs1 x < 4294967296 := xr_range h (by omega)
theorem xs2_range {x : Int} (h : 0 ≤ x ∧ x < 4294967296) : 0 ≤ xs2 x ∧ xs2 x < 4294967296 := xr_range h (by omega)
theorem xs3_range {x : Int} (h : 0 ≤ x ∧ x < 4294967296) : 0 ≤ xs3 x ∧ xs3 x < 4294967296 := xr_range h (by omega)
theorem wst_range {x : Int} (h : 0 ≤ x ∧ x < 4294967296) : 0 ≤ wst x ∧ wst x < 4294967296 := xs3_range (xs2_range (xs1_range h))
def wseq : Nat → Int
  | 0 => 2654435769
  | i + 1 => wst (wseq i)
theorem wseq_range : ∀ i, 0 ≤ wseq i ∧ wseq i < 4294967296
  | 0 => by decide
  | i + 1 => wst_range (wseq_range i)
/-- A byte's word. -/
def bword (c : Int) : Int := wseq (c.toNat + 1)
theorem bword_range (c : Int) : 0 ≤ bword c ∧ bword c < 4294967296 := wseq_range _
def WT (n : Nat) : List Int := (List.range n).map fun i => wseq (i + 1)
theorem WT_len (n : Nat) : (WT n).length = n := by simp [WT]
theorem WT_succ (n : Nat) : WT (n + 1) = WT n ++ [wseq (n + 1)] := by simp [WT, List.range_succ]
theorem WT_at (n : Nat) (c : Int) (h0 : 0 ≤ c) (h1 : c < n) : rd (WT n) c = bword c := by
  unfold Go.Proofs.YtdbgbbodkoppdaaW.PrintWords.rd
  rw [List.getD_eq_getElem?_getD, WT, List.getElem?_map, List.getElem?_range (by omega)]
  rfl
theorem WT_ws (n : Nat) : Ws (WT n) := fun x hx => by
  obtain ⟨i, _, rfl⟩ := List.mem_map.1 hx
  exact wseq_range _
/-- The cells of words: the Once's, the words', what stands behind. -/
def Uw (xs : List Int) : List Value := xs.map (Value.int .u32)
def Oc (d m : Int) (ls : List Int) (rest : List Value) : List Value := .int .u32 d :: .int .i32 m :: .int .u32 0 :: (Uw ls ++ rest)
theorem SetBlk.next {w w1 w2 : World} {g : Nat} {o o' : Obj} (h : SetBlk w w1 g o) (k : SetBlk w1 w2 g o') : SetBlk w w2 g o' :=
  ⟨k.os.trans h.os, k.tape.trans h.tape, k.output.trans h.output, k.size.trans h.size, k.at_, fun j hj => (k.else_ j hj).trans (h.else_ j hj)⟩
theorem SetBlk.same {w : World} {g : Nat} {o : Obj} (h : w.heap[g]? = some o) : SetBlk w w g o := ⟨rfl, rfl, rfl, rfl, h, fun _ _ => rfl⟩
theorem SetBlk.drew {w w1 : World} {g : Nat} {o : Obj} (h : SetBlk w w1 g o) : SetBlk w w1.drew g o := h.next ⟨rfl, rfl, rfl, rfl, h.at_, fun _ _ => rfl⟩
theorem Uw_len (xs : List Int) : (Uw xs).length = xs.length := by simp [Uw]
theorem Oc_len (d m : Int) (ls : List Int) (rest : List Value) : (Oc d m ls rest).length = 3 + ls.length + rest.length := by simp [Oc, Uw_len]; omega
theorem Oc_l {d m : Int} {ls : List Int} {rest : List Value} (k : Nat) (hk : k < ls.length) : (Oc d m ls rest).toArray[3 + k]? = some (.int .u32 (rd ls k)) := by
  unfold Go.Proofs.YtdbgbbodkoppdaaW.PrintWords.rd
  rw [List.getElem?_toArray, show 3 + k = k + 1 + 1 + 1 by omega]
  unfold Oc
  rw [List.getElem?_cons_succ, List.getElem?_cons_succ, List.getElem?_cons_succ, List.getElem?_append_left (by rw [Uw_len]; exact hk), Uw, List.getElem?_map, List.getElem?_eq_getElem hk, Int.toNat_natCast, List.getD_eq_getElem?_getD, List.getElem?_eq_getElem hk]
  rfl
theorem Oc_set_l {d m : Int} {ls : List Int} {rest : List Value} (k : Nat) (hk : k < ls.length) (x : Int) : (Oc d m ls rest).toArray.setIfInBounds (3 + k) (.int .u32 x) = (Oc d m (ls.set k x) rest).toArray := by
  rw [List.setIfInBounds_toArray, show 3 + k = k + 1 + 1 + 1 by omega]
  unfold Oc
  rw [List.set_cons_succ, List.set_cons_succ, List.set_cons_succ, List.set_append_left _ _ (by rw [Uw_len]; exact hk), Uw, Uw, List.map_set]
theorem Oc_set_d {d m x : Int} {ls : List Int} {rest : List Value} : (Oc d m ls rest).toArray.setIfInBounds 0 (.int .u32 x) = (Oc x m ls rest).toArray := by
  rw [List.setIfInBounds_toArray]; rfl
theorem Oc_set_m {d m x : Int} {ls : List Int} {rest : List Value} : (Oc d m ls rest).toArray.setIfInBounds 1 (.int .i32 x) = (Oc d x ls rest).toArray := by
  rw [List.setIfInBounds_toArray]; rfl
theorem Oc_rest {d m : Int} {ls : List Int} {rest : List Value} (hl : ls.length = 256) (k : Nat) : (Oc d m ls rest).toArray[259 + k]? = rest[k]? := by
  rw [List.getElem?_toArray, show 259 + k = 256 + k + 1 + 1 + 1 by omega]
  unfold Oc
  rw [List.getElem?_cons_succ, List.getElem?_cons_succ, List.getElem?_cons_succ, List.getElem?_append_right (by rw [Uw_len]; omega), Uw_len, hl, Nat.add_sub_cancel_left]
theorem Oc_set_rest {d m : Int} {ls : List Int} {rest : List Value} (hl : ls.length = 256) (k : Nat) (v : Value) : (Oc d m ls rest).toArray.setIfInBounds (259 + k) v = (Oc d m ls (rest.set k v)).toArray := by
  rw [List.setIfInBounds_toArray, show 259 + k = 256 + k + 1 + 1 + 1 by omega]
  unfold Oc
  rw [List.set_cons_succ, List.set_cons_succ, List.set_cons_succ, List.set_append_right _ _ (by rw [Uw_len]; omega), Uw_len, hl, Nat.add_sub_cancel_left]
set_option maxRecDepth 20000 in
theorem fill_calls (g T : Nat) (d m : Int) (ls : List Int) (rest : List Value) (w : World) (hg : w.heap[g]? = some (.cells (Oc d m ls rest).toArray T (0, 0))) (hl : ls.length = 256) :
    Calls Try.prog 37 #[.pointer (some ⟨g, 0, none⟩)] w fun e w' => e = .returned (.tuple #[]) ∧ SetBlk w w' g (.cells (Oc d m (WT 256) rest).toArray T (0, 0)) := by
  go_enter Try.func37, Try.ntmps37
  go_wp2
  go_loopw [2, 4] (fun x i wr => ∃ k : Nat, k ≤ 256 ∧ i = .int .i64 k ∧ x = .int .u32 (wseq k) ∧ SetBlk w wr g (.cells (Oc d m (WT k ++ ls.drop k) rest).toArray T (0, 0))) (fun _ i _ => 256 - (intOf i).toNat)
  case atStart => exact ⟨0, by omega, rfl, rfl, ⟨rfl, rfl, rfl, rfl, by simpa [WT] using hg, fun _ _ => rfl⟩⟩
  case round =>
    obtain ⟨k, hk, rfl, rfl, hS⟩ := hrel
    have HS := Aside0.mk hS
    clear hS
    by_cases hlt : k < 256
    · have hx := wseq_range k
      have HW : Aside0 (wst (wseq k) = wseq (k + 1)) := ⟨rfl⟩
      have hlen : (WT k ++ ls.drop k).length = 256 := by rw [List.length_append, WT_len, List.length_drop]; omega
      have hc : wr.cell? ⟨g, 3 + k, none⟩ = some (.int .u32 (rd (WT k ++ ls.drop k) k)) := by rw [blk_cell HS.out.at_, Oc_l k (by omega)]
      have hf := blk_frozen HS.out.at_ (3 + k)
      have HE : Aside0 ((WT k ++ ls.drop k).set k (wseq (k + 1)) = WT (k + 1) ++ ls.drop (k + 1)) := ⟨by
        rw [WT_succ, List.set_append_right _ _ (by rw [WT_len]; exact Nat.le_refl _), WT_len, Nat.sub_self, List.drop_eq_getElem_cons (show k < ls.length by omega), List.set_cons_zero, List.append_assoc]
        rfl⟩
      generalize rd (WT k ++ ls.drop k) k = y at *
      generalize wseq k = x at *
      go_wp2
      go_roundw
      case rel =>
        refine ⟨k + 1, by omega, by go_num, by rw [← HW.out]; rfl, ?_⟩
        have h2 := setBlk_cell HS.out.at_ (.int .u32 (wst x)) (i := 3 + k)
        rw [Oc_set_l k (by omega), HW.out, HE.out] at h2
        rw [← HW.out] at h2
        exact HS.out.next h2
      case measure => simp [intOf]; omega
    · obtain rfl : k = 256 := by omega
      have HS' := HS.out
      rw [List.drop_of_length_le (by omega), List.append_nil] at HS'
      have HS2 := Aside0.mk HS'
      clear HS'
      go_wp2
      (try simp only [Exit.inBlock, Exit.then])
      refine bodyPost_end (results_none rfl _ _ _) rfl ?_
      exact ⟨rfl, HS2.out⟩
end Go.Proofs.Ytdbgbbodkoppdaa
